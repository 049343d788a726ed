/- Joined by a tool of this claim out of smaller texts. Conditions: as stated. -/
import Derived.Test.YtjcpdcncfjkejaaGreatDoorSx01
import Derived.Lib.TrailingZeros
import Derived.Lib.BitFns
import Derived.Laws.Shifts
import Derived.Laws.BytesArg
import Derived.Laws.BitsAllLaws
import Derived.Lib.SmallJoins
import Derived.Deep.LoopGhost
set_option linter.unusedVariables false
set_option linter.unusedSimpArgs false
set_option maxRecDepth 100000
open Go.Lib renaming hid → Hd
open List renaming setIfInBounds_toArray → jZ, set_cons_zero → jX, set_cons_succ → jY, drop_succ_cons → jB, take_succ_cons → jC, getElem?_eq_getElem → jD, drop_zero → jF, take_zero → jL, mem_singleton → jR, getElem?_eq_some_iff → jE, length_append → jI, replicate → kJ, mem_cons → kW, getD_eq_getElem?_getD → kP, mem_append → kL, length_replicate → kS, getElem?_eq_none → kI, append_assoc → uK, length_set → uG, mem_of_getElem? → uW, getElem?_map → vQ, take_succ_eq_append_getElem → vJ, ext_getElem? → vV, getElem?_append_right → vU, length_take → vH, drop_eq_nil_of_le → vR, take_of_length_le → vT, getElem?_append_left → vE, getElem?_drop → gV
open Go.Proofs.Tryz renaming prog → jG, underlying154 → uH, underlying95 → uT
open Go.RowKit.Below renaming refl → jU
open Go.IntWalk renaming i64_in → jH
open Go.IntKind renaming i64 → jP
open Nat renaming le_refl → jS, zero_add → kB, zero_le → kT, add_zero → vO
open Go.World renaming ownsRow → kK, setCell → uQ, ownsRow_nil → uE
open And renaming intro → kM
open ByteArray renaming empty → kD
open Array renaming getElem?_eq_some_iff → kF
open Int renaming toNat_natCast → uJ
namespace Go.Proofs.YtjcpdcncfjkejaaGreatDoor
theorem qJf{x:Nat}(h0:x≠0)(h:x<18446744073709551616):Lib.ctz 64 x<64∧x.testBit (Lib.ctz 64 x)=true∧∀j,j<Lib.ctz 64 x→x.testBit j=false:=by
 have e:Lib.ctz 64 x=Lib.ctzFrom 64 x:=by unfold Lib.ctz;rw[if_neg h0]
 obtain⟨m,hm,hk⟩:=Lib.ctzFrom_spec 64 x qJ h;rw[e];generalize Lib.ctzFrom 64 x=k at *;subst hm;refine⟨hk,?_,fun j hj=>?_⟩
 · rw[Nat.testBit_two_pow_mul,Nat.sub_self,decide_eq_true (jS k),Bool.true_and,Nat.testBit_zero];simp
 · rw[Nat.testBit_two_pow_mul,decide_eq_false qJ,Bool.false_and]
theorem JX:∀(n x:Nat),x≤n→x≠0→x<2 ^ 64→1≤Lib.bitLen x∧2 ^ (Lib.bitLen x-1)≤x∧x<2 ^ Lib.bitLen x
 |0,x,hx,h0,_=>by omega
 |n+1,x,hx,h0,h=>by
  rw[Lib.bitLen_half x h0 h]
  by_cases h2:x/2=0
  · have h1:x=1:=by omega
    subst h1
    decide
  · obtain⟨i1,i2,i3⟩:=JX n (x/2) qJ h2 qJ;refine⟨by omega,?_,?_⟩
    · have :1+Lib.bitLen (x/2)-1=(Lib.bitLen (x/2)-1)+1:=by omega
      rw[this,Nat.pow_succ];omega
    · rw[Nat.add_comm,Nat.pow_succ];omega
theorem Zw{x:Nat}(h0:x≠0)(h:x<18446744073709551616):1≤Lib.bitLen x∧Lib.bitLen x≤64∧x.testBit (Lib.bitLen x-1)=true∧∀j,Lib.bitLen x≤j→x.testBit j=false:=by
 obtain⟨a,b,c⟩:=JX x x (jS _) h0 h;have hle:Lib.bitLen x≤64:=Lib.bitLen_le x 64 (jS _) h;refine⟨a,hle,?_,fun j hj=>?_⟩
 · rw[Nat.testBit_eq_decide_div_mod_eq];have e:Lib.bitLen x=(Lib.bitLen x-1)+1:=by omega
   have hp:0<2 ^ (Lib.bitLen x-1):=Nat.two_pow_pos _;have :x/2 ^ (Lib.bitLen x-1)=1:=by
    apply Nat.div_eq_of_lt_le
    · omega
    · rw[e,Nat.pow_succ]at c;generalize 2 ^ (Lib.bitLen x-1)=p at *;omega
   rw[this];rfl
 · exact Nat.testBit_lt_two_pow (Nat.lt_of_lt_of_le c (Nat.pow_le_pow_right qZ hj))
theorem QA{st:List Bool}{x y:Nat}(h1:x<y∨y=st.length-1)(h2:y≤st.length-1)(h3:∀z,x<z→z<y→st.getD z false=false)(h4:y<st.length-1→st.getD y false=true)(hx:x≤st.length-1):pI st x=y:=by
 unfold pI
 by_cases hy:y<st.length-1
 · have hxy:x<y:=by omega
   have :(List.range' (x+1) (st.length-1-(x+1))).find? (fun y=>st.getD y false)=some y:=by
    rw[List.find?_eq_some_iff_append];refine⟨h4 hy,List.range' (x+1) (y-(x+1)),List.range' (y+1) (st.length-1-(y+1)),?_,fun a ha=>?_⟩
    · have e1:y::List.range' (y+1) (st.length-1-(y+1))=List.range' y (st.length-1-y):=by
       rw[show st.length-1-y=(st.length-1-(y+1))+1 by omega,List.range'_succ]
      have e2:=List.range'_append_1 (s:=x+1) (m:=y-(x+1)) (n:=st.length-1-y);rw[show x+1+(y-(x+1))=y by omega,show y-(x+1)+(st.length-1-y)=st.length-1-(x+1) by omega]at e2;rw[e1,e2]
    · rw[List.mem_range'_1]at ha;rw[h3 a qJ qJ];rfl
   rw[this];rfl
 · have hy2:y=st.length-1:=by omega
   have :(List.range' (x+1) (st.length-1-(x+1))).find? (fun y=>st.getD y false)=none:=by
    rw[List.find?_eq_none];intro z hz;rw[List.mem_range'_1]at hz;rw[h3 z qJ qJ]
    decide
   rw[this,hy2];rfl
theorem wR{st:List Bool}{x y:Nat}(h1:y<x∨y=0)(h3:∀z,y<z→z<x→st.getD z false=false)(h4:0<y→st.getD y false=true):yK st x=y:=by
 unfold yK
 by_cases hy:0<y
 · have hxy:y<x:=by omega
   have :((List.range' 1 (x-1)).reverse).find? (fun y=>st.getD y false)=some y:=by
    rw[List.find?_eq_some_iff_append];refine⟨h4 hy,(List.range' (y+1) (x-1-y)).reverse,(List.range' 1 (y-1)).reverse,?_,fun a ha=>?_⟩
    · have e1:List.range' 1 (x-1)=List.range' 1 (y-1)++(y::List.range' (y+1) (x-1-y)):=by
       have e2:y::List.range' (y+1) (x-1-y)=List.range' y (x-y):=by
        rw[show x-y=(x-1-y)+1 by omega,List.range'_succ]
       have e3:=List.range'_append_1 (s:=1) (m:=y-1) (n:=x-y);rw[show 1+(y-1)=y by omega,show y-1+(x-y)=x-1 by omega]at e3;rw[e2,e3]
      rw[e1,List.reverse_append,List.reverse_cons,uK];rfl
    · rw[List.mem_reverse,List.mem_range'_1]at ha;rw[h3 a qJ qJ];rfl
   rw[this];rfl
 · have hy2:y=0:=by omega
   have :((List.range' 1 (x-1)).reverse).find? (fun y=>st.getD y false)=none:=by
    rw[List.find?_eq_none];intro z hz;rw[List.mem_reverse,List.mem_range'_1]at hz;rw[h3 z qJ qJ]
    decide
   rw[this,hy2];rfl
open Go.RowKit
structure Gh where
 A:Option Addr
 g:List Int
 cap:Nat
def zQ(n:Int):List Value:=[.int .i64 n]
theorem mD:∀n,(zQ n).length=1:=fun _=>rfl
theorem eI:∀n,∀v∈zQ n,v.oneCell'=true:=fun n v hv=>by
 obtain rfl:=jR.1 hv;rfl
def nC(h:Gh):List Value:=[.slice h.A h.g.length h.cap]
theorem wC:∀h,(nC h).length=1:=fun _=>rfl
theorem wP:∀h,∀v∈nC h,v.oneCell'=true:=fun h v hv=>by
 obtain rfl:=jR.1 hv;rfl
def vK(H:List Gh):List (List Int):=H.map (·.g)
def eR(w:World)(A:Option Addr)(H:List Gh):Prop:=pA nC 1 w A H∧∀h∈H,pA zQ 1 w h.A h.g∧h.g.length≤h.cap
theorem eR.below{w w':World}{A:Option Addr}{H:List Gh}(h:eR w A H)(hb:Below w.heap.size w w'):eR w' A H:=⟨h.1.below hb,fun x hx=>⟨(h.2 x hx).1.below hb,(h.2 x hx).2⟩⟩
theorem eR.get{w:World}{A:Option Addr}{H:List Gh}(h:eR w A H){i:Nat}(hi:i<H.length):∃(x:Gh) (gb off:Nat),H[i]? =some x∧A=some ⟨gb,off,none⟩∧w.cell? ⟨gb,off+i,none⟩=some (.slice x.A x.g.length x.cap)∧(pA zQ 1 w x.A x.g∧x.g.length≤x.cap)∧(vK H).getD i []=x.g:=by
 obtain⟨gb,off,hA,hg⟩:=h.1 qJ;have hx:H[i]? =some H[i]:=jD hi;have :=hg i _ hx 0 _ rfl;rw[Nat.mul_one,vO]at this;refine⟨H[i],gb,off,hx,hA,this,h.2 _ (List.getElem_mem hi),?_⟩;unfold vK;rw[kP,vQ,hx];rfl
theorem dA{w:World}{A:Option Addr}{g:List Int}(h:pA zQ 1 w A g){i:Nat}(hi:i<g.length):∃b off,A=some ⟨b,off,none⟩∧w.cell? ⟨b,off+i,none⟩=some (.int .i64 (g.getD i 0)):=by
 obtain⟨b,off,hA,hg⟩:=h qJ;have hx:g[i]? =some (g.getD i 0):=by rw[kP,jD hi];rfl
 have :=hg i _ hx 0 _ rfl;rw[Nat.mul_one,vO]at this;exact⟨b,off,hA,this⟩
theorem Qy(g:List Int):g.headD 0=g.getD 0 0:=by cases g<;>rfl
section
variable {w:World}{A:Option Addr}{H:List Gh}
theorem JU(hG:eR w A H)(ca i:Nat)(hz:H.length≤1000000):Calls jG 180 #[.slice A H.length ca,.int .i64 i] w fun e w'=>e=.returned (.int .i64 (yG (vK H) i))∧w=w':=by
 unfold yG
 by_cases hi:i<H.length
 rotate_left
 · have hiI:¬(i:Int)<(H.length:Int):=by omega
   have hiI2:(H.length:Int)≤(i:Int):=by omega
   have e:(vK H).getD i []=[]:=by unfold vK;rw[kP,kI qW];rfl
   rw[e];clear hG e hi
   go_enter Tryz.func180,Tryz.ntmps180
   go_wp2
   go_ret
   exact⟨rfl,rfl⟩
 obtain⟨x,gb,off,hx,rfl,hc,⟨hg,-⟩,e⟩:=hG.get hi;rw[e,Qy];have hiI:(i:Int)<(H.length:Int):=by omega
 have hiI2:¬(H.length:Int)≤(i:Int):=by omega
 clear hG e hx;obtain⟨L,hL⟩:∃L,H.length=L:=⟨_,rfl⟩;rw[hL]at hi hiI hiI2 hz ⊢;clear hL
 by_cases h0:0<x.g.length
 · obtain⟨b,off2,hA,hc2⟩:=dA hg h0;rw[hA]at hc;obtain⟨K,hK⟩:∃K,x.g.length=K:=⟨_,rfl⟩;rw[hK]at h0 hc;have h0I:¬(K:Int)=0:=by omega
   have h0N:¬K=0:=by omega
   have h0J:(0:Int)<(K:Int):=by omega
   have hq:((K:Int)==0)=false:=zb h0I;rw[vO]at hc2;obtain⟨n,hn⟩:∃n,x.g.getD 0 0=n:=⟨_,rfl⟩;rw[hn]at hc2 ⊢;clear hg hA hK hn
   go_enter Tryz.func180,Tryz.ntmps180
   go_wp2
   all_goals
    go_ret
    exact⟨by simp;try omega,rfl⟩
 · have hK:x.g.length=0:=by omega
   have e:x.g.getD 0 0=0:=by rw[List.eq_nil_of_length_eq_zero hK];rfl
   rw[hK]at hc;rw[e];clear hg hK e h0
   go_enter Tryz.func180,Tryz.ntmps180
   go_wp2
   go_ret
   exact⟨rfl,rfl⟩
def Qq(g:List Int):Int:=if 1<g.length∧g.getD 1 0=0 then 0 else if 1<g.length∧g.getD 1 0=2 then 256 else 8
theorem Q8{B:Option Addr}{g:List Int}(hG:pA zQ 1 w B g)(ca:Nat)(hz:g.length≤1000000):Calls jG 181 #[.slice B g.length ca] w fun e w'=>e=.returned (.int .i64 (Qq g))∧w=w':=by
 unfold Qq
 by_cases h1:1<g.length
 rotate_left
 · rw[if_neg qJ,if_neg qJ];have h1I:¬(1:Int)<(g.length:Int):=by omega
   obtain⟨K,hK⟩:∃K,g.length=K:=⟨_,rfl⟩;rw[hK]at h1I h1 ⊢;clear hK hG
   go_enter Tryz.func181,Tryz.ntmps181
   go_wp2
   go_ret
   exact⟨rfl,rfl⟩
 obtain⟨b,off,rfl,hc⟩:=dA hG h1;have h1I:(1:Int)<(g.length:Int):=by omega
 obtain⟨n,hn⟩:∃n,g.getD 1 0=n:=⟨_,rfl⟩;rw[hn]at hc ⊢;obtain⟨K,hK⟩:∃K,g.length=K:=⟨_,rfl⟩;rw[hK]at h1 h1I ⊢;clear hG hn hK
 by_cases h2:n=0
 · rw[if_pos ⟨h1,h2⟩];subst h2
   go_enter Tryz.func181,Tryz.ntmps181
   go_wp2
   go_ret
   exact⟨rfl,rfl⟩
 rw[if_neg qJ];have e2:(n==0)=false:=zb h2
 by_cases h3:n=2
 · rw[if_pos ⟨h1,h3⟩];subst h3;clear e2 h2
   go_enter Tryz.func181,Tryz.ntmps181
   go_wp2
   go_ret
   exact⟨rfl,rfl⟩
 · rw[if_neg qJ];have e3:(n==2)=false:=zb h3;clear h2 h3
   go_enter Tryz.func181,Tryz.ntmps181
   go_wp2
   go_ret
   exact⟨rfl,rfl⟩
def Jb(v:Int):Int:=if v==1 then 1 else if v==2 then 2 else if v==3 then 4 else if v==5 then 16 else if v==6 then 16 else if v==7 then 32 else if v==8 then 64 else if v==9 then 128 else if v==53 then 512 else 0
def rH(v:Int):Int:=if v==22 then 3 else if v==23 then 4 else if v==24 then 264 else if v==25 then 16 else if v==27 then 32 else if v==28 then 64 else if v==29 then 128 else if v==55 then 512 else 0
theorem Q7(v:Int)(w:World):Calls jG 252 #[.int .i64 v] w fun e w'=>e=.returned (.int .i64 (Jb v))∧w=w':=by
 go_enter Tryz.func252,Tryz.ntmps252
 go_wp2
 all_goals
  go_ret
  refine⟨?_,rfl⟩;unfold Jb;simp[*]
theorem XQ(v:Int)(w:World):Calls jG 253 #[.int .i64 v] w fun e w'=>e=.returned (.int .i64 (rH v))∧w=w':=by
 go_enter Tryz.func253,Tryz.ntmps253
 go_wp2
 all_goals
  go_ret
  refine⟨?_,rfl⟩;unfold rH;simp[*]
def eL(v lo hi:Int):Col×Bool:=if lo≤v∧v<lo+8 then(⟨1,v-lo⟩,true)else if hi≤v∧v<hi+8 then(⟨1,v-hi+8⟩,true)else(⟨0,0⟩,v==lo+9)
def VC(v lo hi:Int)(w:World)(e:Ending)(w':World):Prop:=e=.returned (.tuple #[.agg #[.int .i64 (eL v lo hi).1.k,.int .i64 (eL v lo hi).1.n],.bool (eL v lo hi).2])∧Below w.heap.size w w'
end
def vI(c:Ch):List Value:=[.int .i64 c.g0,.int .i64 c.g1,.int .i64 c.g2,.int .i64 c.g3,.int .i64 c.use,.int .i64 c.once]
def chV(c:Ch):Value:=.agg #[.int .i64 c.g0,.int .i64 c.g1,.int .i64 c.g2,.int .i64 c.g3,.int .i64 c.use,.int .i64 c.once]
theorem dB:∀c,∀v∈vI c,v.oneCell'=true:=fun c v hv=>by
 simp only[vI,kW,List.not_mem_nil,or_false]at hv;rcases hv with rfl|rfl|rfl|rfl|rfl|rfl<;>rfl
theorem iU:(jG.info? 43).map (·.size)=some 6:=by kernel_rfl
theorem Qg:(jG.info? 215).map (·.size)=some 31:=by kernel_rfl
section
variable {P:Program}
theorem wX{fn:Func}{u p:Tmp}{ty:TypeId}(h:fn.results=#[.tmp u,.cell p ty])(tmps:Array Value)(w:World):
 (results fn tmps).run P w=((asAddr (tmps.getD p undef)).run P w).andThen fun a w1=>((loadVar ty a).run P w1).andThen fun v w2=>.ok (.tuple #[tmps.getD u undef,v]) w2:=by
 simp only[results,h];simp[Sem.run_bind,Result.andThen]
theorem QZ(w:World)(t e:TypeId)(n:Nat)(cs:Array Value)(k:IntKind)(i:Int)(v:Value)(h:P.underlying t=some (.array n e))(h0:0≤i)(h1:i<n)(hs:(sizeOf e).run P w=.ok 1 w)(ha:(isAgg e).run P w=.ok false w)(hv:cs.toList[i.toNat]? =some v):
 (Instr.index t (.agg cs) (.int k i)).run P w=.ok v w:=by
 have hc:0≤i∧i<(n:Int):=⟨h0,h1⟩;have hv2:cs[i.toNat]? =some v:=by rw[←Array.getElem?_toList];exact hv
 simp[Instr.index,part,run_underlying h,asIntOf,hc,hs,ha,hv2,Result.andThen,go_sem]
theorem bV{fn:Func}{p:Tmp}{ty:TypeId}{d:TypeDesc}(hr:fn.results=#[.cell p ty])(tmps:Array Value)(w:World)(b:Nat)(cs:List Value)(hp:tmps.getD p undef=.pointer (some ⟨b,0,none⟩))(h:w.rangeAt b 0 cs)
 (hu:P.underlying ty=some d) (hd:d.isRow=true) (hi:(P.info? ty).map (·.size)=some cs.length):(results fn tmps).run P w=.ok (.agg cs.toArray) w:=by
 rw[lS hr,hp];have :=run_loadVar_mid (P:=P) w b 0 ty cs _ h hu hd hi;simp only[asAddr,Sem.run_pure,Result.andThen_ok,this]
theorem eC{fn:Func}{u p:Tmp}{ty:TypeId}{d:TypeDesc}(hr:fn.results=#[.tmp u,.cell p ty])(tmps:Array Value)(w:World)(b:Nat)(cs:List Value)(hp:tmps.getD p undef=.pointer (some ⟨b,0,none⟩))(h:w.rangeAt b 0 cs)
 (hu:P.underlying ty=some d) (hd:d.isRow=true) (hi:(P.info? ty).map (·.size)=some cs.length):(results fn tmps).run P w=.ok (.tuple #[tmps.getD u undef,.agg cs.toArray]) w:=by
 rw[wX hr,hp];have :=run_loadVar_mid (P:=P) w b 0 ty cs _ h hu hd hi;simp only[asAddr,Sem.run_pure,Result.andThen_ok,this]
end
theorem gX{B:Nat}{W w1:World}(h:Below B W w1){b:Nat}(hb:B≤b):∀(vs:List Value) (o:Nat),Below B W (w1.setCells b o vs)
 |[],_=>h
 |v::vs,o=>gX (h.setCell (p:=⟨b,o,none⟩) hb v) hb vs (o+1)
theorem Uc(c:Ch):∃k:Nat,k<4∧aD c=k:=by
 unfold aD
 split
 · next h=>exact⟨c.once.toNat,by omega,by omega⟩
 split
 · exact⟨c.use.toNat,by omega,by omega⟩
 · exact⟨0,by decide,rfl⟩
theorem JJ(w:World):Calls jG 92 #[] w fun e w'=>e=.returned (chV pF)∧Below w.heap.size w w':=by
 go_enter Tryz.func92,Tryz.ntmps92
 go_wp2
 exact bodyPost_ret (bV rfl _ _ w.heap.size (vI pF) rfl (kA (kZ rfl)) Tryz.underlying43 rfl iU) rfl ⟨rfl,jW (jU _ _) _⟩
theorem Wx(c:Ch)(w:World):Calls jG 169 #[chV c] w fun e w'=>e=.returned (.int .i64 (aD c))∧Below w.heap.size w w':=by
 obtain⟨g0,g1,g2,g3,u,o⟩:=c;unfold aD chV;simp only[]
 by_cases h2:o=2
 · subst h2;rw[if_pos (Or.inl rfl)]
   go_enter Tryz.func169,Tryz.ntmps169
   go_wp2
   go_ret
   exact qZq
 by_cases h3:o=3
 · subst h3;rw[if_pos (Or.inr rfl)]
   go_enter Tryz.func169,Tryz.ntmps169
   go_wp2
   go_ret
   exact qZq
 have e2:(o==2)=false:=by simpa using h2
 have e3:(o==3)=false:=by simpa using h3
 rw[if_neg qJ]
 by_cases hu:0≤u
 · by_cases hu3:u≤3
   · rw[if_pos ⟨hu,hu3⟩]
     go_enter Tryz.func169,Tryz.ntmps169
     go_wp2
     go_ret
     exact qZq
   · rw[if_neg qJ]
     go_enter Tryz.func169,Tryz.ntmps169
     go_wp2
     go_ret
     exact qZq
 · rw[if_neg qJ]
   go_enter Tryz.func169,Tryz.ntmps169
   go_wp2
   go_ret
   exact qZq
def lY:List Value:=[.int .i32 9670,.int .i32 9618,.int .i32 9225,.int .i32 9228,.int .i32 9229,.int .i32 9226,.int .i32 176,.int .i32 177,.int .i32 9252,.int .i32 9227,.int .i32 9496,.int .i32 9488,.int .i32 9484,.int .i32 9492,.int .i32 9532,.int .i32 9146,.int .i32 9147,.int .i32 9472,.int .i32 9148,.int .i32 9149,.int .i32 9500,.int .i32 9508,.int .i32 9524,.int .i32 9516,.int .i32 9474,.int .i32 8804,.int .i32 8805,.int .i32 960,.int .i32 8800,.int .i32 163,.int .i32 183]
theorem Qo(k:Nat)(hk:k<31):lY[k]? =some (.int .i32 (Qr.getD k 0)):=by
 have e:lY=Qr.map (fun r=>Value.int .i32 r):=rfl;rw[e,vQ,kP,jD (show k<Qr.length from hk)];rfl
theorem Yj:∀v∈lY,v.oneCell'=true:=by
 intro v hv;rw[show lY=Qr.map (fun r=>Value.int .i32 r)from rfl]at hv;obtain⟨r,-,rfl⟩:=List.mem_map.1 hv;rfl
set_option maxHeartbeats 1600000 in
theorem Yc(w:World):Calls jG 237 #[] w fun e w'=>e=.returned (.agg lY.toArray)∧Below w.heap.size w w':=by
 go_enter Tryz.func237,Tryz.ntmps237
 go_upto_region 1 with fail
 generalize hW:World.alloc _ _=W;have hb2:Below w.heap.size w W:=by rw[←hW];exact jW (jU _ _) _
 have hc2:W.heap[w.heap.size]? =some (.cells (kJ 31 (Value.int .i32 0)).toArray 215 (0,0)):=by rw[←hW];exact kZ rfl
 refine wp_region_lit ?_;refine jM (.agg lY.toArray) qK qJ9 ?_;refine zP ?_;refine wpList_store_mid rfl 215 (.tmp 0) (.tmp 1) rfl (w.heap.size) (0) (lY.toArray) rfl rfl ((show W.there w.heap.size 0 31 from gH hc2)) Qg (all_oneCell_toArray Yj) ?_;simp only[Act.put]
 go_wp2
 have hw:=uB lY 0 _ W hc2 qZ;exact bodyPost_ret (bV rfl _ _ w.heap.size lY rfl (kA hw) Tryz.underlying215 rfl Qg) rfl ⟨rfl,gX hb2 (jS _) _ _⟩
def Kk(kind r:Int)(w:World)(e:Ending)(w':World):Prop:=e=.returned (.int .i32 (hQ kind r))∧Below w.heap.size w w'
set_option maxHeartbeats 1600000 in
theorem Yg(kind r:Int)(w:World):Calls jG 168 #[.int .i64 kind,.int .i32 r] w (Kk kind r w):=by
 have HD:=Hd (fun w=>Yc w);unfold Kk hQ
 by_cases k1:kind=65
 · subst k1
   by_cases r1:r=35
   · subst r1
     go_enter Tryz.func168,Tryz.ntmps168
     go_wp2
     go_ret
     exact⟨rfl,jU _ _⟩
   · have e1:(r==35)=false:=by simpa using r1
     rw[if_neg qJ,if_neg qJ,if_neg qJ];clear r1
     go_enter Tryz.func168,Tryz.ntmps168
     go_wp2
     go_ret
     exact⟨rfl,jU _ _⟩
 have e1:(kind==65)=false:=by simpa using k1
 rw[if_neg (fun h=>k1 h.1)]
 by_cases k2:kind=48
 · subst k2
   by_cases r1:r=95
   · subst r1;clear e1
     go_enter Tryz.func168,Tryz.ntmps168
     go_wp2
     go_ret
     exact⟨rfl,jU _ _⟩
   · have e2:(r==95)=false:=by simpa using r1
     rw[if_neg qJ];clear e1 k1
     by_cases h1:96≤r
     · by_cases h2:r≤126
       · rw[if_pos ⟨rfl,h1,h2⟩];have hk:=Qo (r-96).toNat qJ;have hw:IntKind.i32.wrap (r-96)=r-96:=IntWalk.i32_in _ qJ;have HK:=Hd hk;clear hk
         go_enter Tryz.func168,Tryz.ntmps168
         go_wp2_with(go_at_call 237;refine(HD.o _).mono ?_;rintro e w1 ⟨rfl,hb⟩;have HB:=Hd hb;clear hb)
         rw[QZ w1 _ _ 31 lY.toArray _ _ _ Tryz.underlying215 qJ qJ (Tryz.sizeOf21 _) (Tryz.isAgg21 _) HK.o]
         go_wp2
         go_ret
         exact⟨rfl,HB.o⟩
       · rw[if_neg qJ]
         go_enter Tryz.func168,Tryz.ntmps168
         go_wp2
         go_ret
         exact⟨rfl,jU _ _⟩
     · rw[if_neg qJ]
       go_enter Tryz.func168,Tryz.ntmps168
       go_wp2
       go_ret
       exact⟨rfl,jU _ _⟩
 · have e2:(kind==48)=false:=by simpa using k2
   rw[if_neg qJ,if_neg qJ]
   go_enter Tryz.func168,Tryz.ntmps168
   go_wp2
   go_ret
   exact⟨rfl,jU _ _⟩
def rW(c:Ch)(r:Int)(w:World)(e:Ending)(w':World):Prop:=e=.returned (.tuple #[.int .i32 (YW c r),chV (mY c)])∧Below w.heap.size w w'
set_option maxHeartbeats 1600000 in
theorem qJh(c:Ch)(r:Int)(w:World):Calls jG 100 #[chV c,.int .i32 r] w (rW c r w):=by
 have HU:=Hd (fun w=>Wx c w);have HS:=Hd (fun k w=>Yg k r w);obtain⟨k,hk,hku⟩:=Uc c;unfold rW YW;rw[hku]at HU ⊢;clear hku;obtain⟨g0,g1,g2,g3,u,o⟩:=c;unfold chV Ud mY at *;simp only[]at HU ⊢;have HX:=Hd (uI (o:=.cells (vI ⟨0,0,0,0,0,0⟩).toArray 43) (kZ (W:=w) (b:=w.heap.size) (o:=.cells (vI ⟨g0,g1,g2,g3,u,o⟩).toArray 43) rfl));have HY:=Hd (kZ (W:=w.alloc (.cells (vI ⟨g0,g1,g2,g3,u,o⟩).toArray 43)) (b:=w.heap.size+1) (o:=.cells (vI ⟨0,0,0,0,0,0⟩).toArray 43) qV);have HB0:=Hd (jW (jW (jU w.heap.size w) (.cells (vI ⟨g0,g1,g2,g3,u,o⟩).toArray 43)) (.cells (vI ⟨0,0,0,0,0,0⟩).toArray 43));obtain rfl|rfl|rfl|rfl:k=0∨k=1∨k=2∨k=3:=by omega
 all_goals
  go_enter Tryz.func100,Tryz.ntmps100
  go_upto_region 3 with(first
   |(go_at_call 169;refine(HU.o _).mono ?_;rintro e w1 ⟨rfl,hb1⟩;have HX1:=Hd ((hb1.block _ (kQ HX.o)).trans HX.o);have HY1:=Hd ((hb1.block _ (kQ HY.o)).trans HY.o);have HB1:=Hd (jN HB0.o hb1);clear hb1;obtain⟨c0,f0⟩:=at_ HX1.o 0 _ rfl;obtain⟨c1,f1⟩:=at_ HX1.o 1 _ rfl;obtain⟨c2,f2⟩:=at_ HX1.o 2 _ rfl;obtain⟨c3,f3⟩:=at_ HX1.o 3 _ rfl)
   |(go_at_call 168;refine(HS.o _ _).mono ?_;rintro e w2 ⟨rfl,hb2⟩;have HX2:=Hd ((hb2.block _ (kQ HX1.o)).trans HX1.o);have HY2:=Hd ((hb2.block _ (kQ HY1.o)).trans HY1.o);have HB2:=Hd (jN HB1.o hb2);clear hb2 c0 f0 c1 f1 c2 f2 c3 f3;obtain⟨c5,f5⟩:=at_ HX2.o 5 _ rfl))
  have hx3:=kY HX2.o 5 (.int .i64 0) rfl;have hy3:=(gS (w:=w2) (b:=w.heap.size) (i:=5) (v:=.int .i64 0) (show w.heap.size+1≠w.heap.size by omega)).trans HY2.o;have hb3:=kH HB2.o (jS w.heap.size) (o:=5) (.int .i64 0);clear c5 f5;generalize uQ _ _ _=W3 at hx3 hy3 hb3 ⊢;obtain⟨x0,-⟩:=at_ hx3 0 _ rfl;obtain⟨x1,-⟩:=at_ hx3 1 _ rfl;obtain⟨x2,-⟩:=at_ hx3 2 _ rfl;obtain⟨x3,-⟩:=at_ hx3 3 _ rfl;obtain⟨x4,-⟩:=at_ hx3 4 _ rfl;obtain⟨x5,-⟩:=at_ hx3 5 _ rfl;refine zU 3 (fun w'=>Below W3.heap.size W3 w'∧w'.cell? ⟨w.heap.size,0,none⟩=some (.int .i64 g0)∧w'.cell? ⟨w.heap.size,1,none⟩=some (.int .i64 g1)∧w'.cell? ⟨w.heap.size,2,none⟩=some (.int .i64 g2)∧w'.cell? ⟨w.heap.size,3,none⟩=some (.int .i64 g3)∧w'.cell? ⟨w.heap.size,4,none⟩=some (.int .i64 u)∧w'.cell? ⟨w.heap.size,5,none⟩=some (.int .i64 0)) ⟨(jU _ _).drew,x0,x1,x2,x3,x4,x5⟩ ?_
  repeat first|refine zS ?_|refine zV ?_
  refine kU (fun w' hS=>?_);have hy4:=(hS.1.block _ (kQ hy3)).trans hy3;have hb4:=jN hb3 hS.1;refine wpList_store_mid rfl 43 (.tmp 5) (.tmp 16) rfl (w.heap.size+1) (0) ((vI ⟨g0,g1,g2,g3,u,0⟩).toArray) rfl rfl ((show World.there _ (w.heap.size+1) 0 6 from gH hy4)) iU (all_oneCell_toArray (dB _)) ?_;simp only[Act.put]
  go_wp2
  have hw:=uB (vI ⟨g0,g1,g2,g3,u,0⟩) 0 _ _ hy4 qVl;exact bodyPost_ret (eC rfl _ _ (w.heap.size+1) (vI ⟨g0,g1,g2,g3,u,0⟩) rfl (kA hw) Tryz.underlying43 rfl iU) rfl ⟨rfl,gX hb4 qJ _ _⟩
theorem eG(n:Int)(w:World):Calls jG 256 #[.int .i64 n] w fun e w'=>e=.returned (.int .i64 (max 0 n))∧w=w':=by
 by_cases h:n<0
 · rw[Int.max_eq_left qJ]
   go_enter Tryz.func256,Tryz.ntmps256
   go_wp2
   go_ret
   exact⟨rfl,rfl⟩
 · rw[Int.max_eq_right qJ];have h':0≤n:=by omega
   go_enter Tryz.func256,Tryz.ntmps256
   go_wp2
   go_ret
   exact⟨rfl,rfl⟩
theorem U3(n f:Int)(w:World)(h0:0≤n)(h1:n<1024)(hf:0<f)(hf2:f≤1024):Calls jG 257 #[.int .i64 n,.int .i64 f] w fun e w'=>e=.returned (.bool (qQ1 n f))∧w=w':=by
 have hq:n.tdiv f=n/f:=Int.tdiv_eq_ediv_of_nonneg h0;have hqn:0≤n/f:=Int.ediv_nonneg h0 qJ;have hql:n/f≤n:=Int.ediv_le_self _ h0;have hr:(n/f).tmod 2=n/f%2:=Int.tmod_eq_emod_of_nonneg hqn;have hfz:(f==0)=false:=zb qJ;have hf0:¬f=0:=by omega
 have hn:¬n<0:=by omega
 have hw1:jP.wrap (n/f)=n/f:=jH _ qJ;have hw2:jP.wrap (n/f%2)=n/f%2:=jH _ qJ;have he:qQ1 n f=(n/f%2==1):=by
  unfold qQ1;rw[if_neg hn]
  by_cases h:n/f%2=1
  · rw[h];rfl
  · rw[zb h,decide_eq_false h]
 rw[he];clear he
 go_enter Tryz.func257,Tryz.ntmps257
 go_wp2
 go_ret
 exact⟨rfl,rfl⟩
theorem Us(n f:Int)(on:Bool)(w:World)(h0:0≤n)(h1:n<1024)(hf:0<f)(hf2:f≤1024):Calls jG 188 #[.int .i64 n,.int .i64 f,.bool on] w fun e w'=>e=.returned (.int .i64 (zI n f on))∧w=w':=by
 have HH:=Hd (U3 n f w h0 h1 hf hf2);have hw1:jP.wrap (n+f)=n+f:=jH _ qJ;have hw2:jP.wrap (n-f)=n-f:=jH _ qJ;unfold zI;obtain⟨b,hb⟩:∃b,qQ1 n f=b:=⟨_,rfl⟩;rw[hb]at HH ⊢;clear hb h0 h1 hf hf2;cases b<;>cases on
 all_goals
  go_enter Tryz.func188,Tryz.ntmps188
  go_wp2_with(go_at_call 257;(with_reducible refine HH.o.mono ?_);rintro e w2 ⟨rfl,rfl⟩)
  go_ret
  exact⟨rfl,rfl⟩
section
variable {w:World}{A:Option Addr}{H:List Gh}
theorem UJ(hG:eR w A H)(ca i:Nat)(hcl:JP (vK H))(hz:H.length≤1000000):Calls jG 186 #[.slice A H.length ca,.int .i64 i] w fun e w'=>e=.returned (.tuple #[.int .i64 (yG (vK H) i),.bool (decide (i<H.length))])∧w=w':=by
 unfold yG
 by_cases hi:i<H.length
 rotate_left
 · have hiI2:(H.length:Int)≤(i:Int):=by omega
   have e:(vK H).getD i []=[]:=by unfold vK;rw[kP,kI qW];rfl
   rw[e,decide_eq_false hi];clear hG e hi hcl
   go_enter Tryz.func186,Tryz.ntmps186
   go_wp2
   go_ret2
   exact⟨rfl,rfl⟩
 obtain⟨x,gb,off,hx,rfl,hc,⟨hg,-⟩,e⟩:=hG.get hi;have h0:0<x.g.length:=by
  have hi':i<(vK H).length:=by unfold vK;simp;exact hi
  have hm:(vK H).getD i []∈vK H:=by rw[kP,jD hi'];exact List.getElem_mem hi'
  rw[←e];exact(hcl _ hm).1
 rw[e,Qy,decide_eq_true hi];have hiI2:¬(H.length:Int)≤(i:Int):=by omega
 have hiI:(i:Int)<(H.length:Int):=by omega
 clear hG e hx hcl;obtain⟨L,hL⟩:∃L,H.length=L:=⟨_,rfl⟩;rw[hL]at hi hiI hiI2 hz ⊢;clear hL;obtain⟨b,off2,hA,hc2⟩:=dA hg h0;rw[hA]at hc;obtain⟨K,hK⟩:∃K,x.g.length=K:=⟨_,rfl⟩;rw[hK]at h0 hc;have h0J:(0:Int)<(K:Int):=by omega
 rw[vO]at hc2;obtain⟨n,hn⟩:∃n,x.g.getD 0 0=n:=⟨_,rfl⟩;rw[hn]at hc2 ⊢;clear hg hA hK hn
 by_cases hn0:n<0
 · rw[Int.max_eq_left qJ]
   go_enter Tryz.func186,Tryz.ntmps186
   go_wp2
   go_ret2
   exact⟨rfl,rfl⟩
 · rw[Int.max_eq_right qJ];have hn1:0≤n:=by omega
   go_enter Tryz.func186,Tryz.ntmps186
   go_wp2
   go_ret2
   exact⟨rfl,rfl⟩
end
def Zp(r:Int)(x:Int×Int):Bool:=decide (x.1≤r)&&decide (r≤x.2)
theorem nM{l:List (Int×Int)}{r:Int}{k:Nat}{x:Int×Int}(hx:l[k]? =some x):bM (l.take (k+1)) r=(bM (l.take k) r||Zp r x):=by
 have hk:=jE.1 hx;rw[vJ hk.1,hk.2];unfold bM Zp;simp
theorem rF{l:List (Int×Int)}{r:Int}{k:Nat}(h:bM (l.take k) r=true):bM l r=true:=by
 unfold bM at h ⊢;rw[List.any_eq_true]at h ⊢;obtain⟨x,hx,h⟩:=h;exact⟨x,List.mem_of_mem_take hx,h⟩
def IxPost(l:List (Int×Int))(r:Int)(w:World)(e:Ending)(w':World):Prop:=∃n:Int,e=.returned (.int .i64 n)∧decide (0≤n)=bM l r∧Below w.heap.size w w'
set_option maxHeartbeats 1600000 in
theorem Zg(r:Int)(g a:Nat)(l:List (Int×Int))(w:World)(hg:w.cell? ⟨g,0,none⟩=some (.int .i32 r))(hl:pA Qm 2 w (some ⟨a,0,none⟩) l)(hz:l.length≤1000):
 Calls jG 289 #[.slice (some ⟨a,0,none⟩) l.length l.length,.func (.func 280) #[] #[.pointer (some ⟨g,0,none⟩)]] w (IxPost l r w):=by
 have HG:=Hd hg;have HL:=Hd hl;clear hg hl
 go_enter Tryz.func289,Tryz.ntmps289
 go_wp2_with fail
 go_loopw [8] (fun s8 wr=>∃k:Nat,k≤l.length∧s8=.int .i64 k∧bM (l.take k) r=false∧Below w.heap.size w wr) (fun s8 _=>l.length-(intOf s8).toNat)
 case atStart=>exact⟨0,kT _,rfl,rfl,jU _ _⟩
 case round=>
  obtain⟨k,hk,rfl,hno,hb⟩:=hrel;have HNO:=Hd hno;have HB:=Hd hb;clear hno hb
  by_cases hlt:k<l.length
  rotate_left
  · have hge:¬(k:Int)<(l.length:Int):=by omega
    go_wp2
    go_ret
    refine⟨-1,rfl,?_,HB.o⟩;have :=HNO.o;rw[vT qJ]at this;rw[this];rfl
  · have hltI:(k:Int)<(l.length:Int):=by omega
    obtain⟨b,off,x,hA,hx,cx⟩:=(HL.o.below HB.o).at_ hlt;simp only[Option.some.injEq,Addr.mk.injEq,and_true]at hA;obtain⟨rfl,rfl⟩:=hA;have c0:wr.cell? ⟨a,k*2,none⟩=some (.int .i32 x.1):=by have :=cx 0 _ rfl;rwa[kB]at this
    have c1:wr.cell? ⟨a,k*2+1,none⟩=some (.int .i32 x.2):=by have :=cx 1 _ rfl;rwa[kB]at this
    have HT:=Hd (nM (r:=r) hx);have HC:=Hd (Yf r g x wr (jA HB.o HG.o));have HO:=Hd (fun h=>rF (l:=l) (r:=r) (k:=k+1) h);cases hp:Zp r x with
    |false=>
     have HP:=Hd hp;have HC2:Hid (Calls jG 280 #[.agg #[.int .i32 x.1,.int .i32 x.2],.pointer (some ⟨g,0,none⟩)] wr fun e w'=>e=.returned (.bool false)∧Below wr.heap.size wr w'):=Hd (HC.o.mono fun e w' ⟨he,hb⟩=>⟨by rw[he];unfold Zp at hp;rw[hp],hb⟩);clear hx cx hp
     go_wp2_with(go_at_call 280;refine HC2.o.mono ?_;rintro e w1 ⟨rfl,hb1⟩)
     go_roundw
     case rel=>exact⟨k+1,by omega,by go_num,by rw[HT.o,HNO.o,HP.o];rfl,jN HB.o hb1⟩
     case measure=>exact zm
    |true=>
     have HP:=Hd hp;have HC2:Hid (Calls jG 280 #[.agg #[.int .i32 x.1,.int .i32 x.2],.pointer (some ⟨g,0,none⟩)] wr fun e w'=>e=.returned (.bool true)∧Below wr.heap.size wr w'):=Hd (HC.o.mono fun e w' ⟨he,hb⟩=>⟨by rw[he];unfold Zp at hp;rw[hp],hb⟩);clear hx cx hp
     go_wp2_with(go_at_call 280;refine HC2.o.mono ?_;rintro e w1 ⟨rfl,hb1⟩)
     go_ret
     refine⟨k,rfl,?_,jN HB.o hb1⟩;rw[HO.o (by rw[HT.o,HP.o];simp)];simp
def Yr(l:List (Int×Int))(r:Int)(w:World)(e:Ending)(w':World):Prop:=e=.returned (.bool (bM l r))∧Below w.heap.size w w'
theorem Qx(r:Int)(g a:Nat)(l:List (Int×Int))(w:World)(hg:w.cell? ⟨g,0,none⟩=some (.int .i32 r))(hl:pA Qm 2 w (some ⟨a,0,none⟩) l)(hz:l.length≤1000):
 Calls jG 279 #[.slice (some ⟨a,0,none⟩) l.length l.length,.func (.func 280) #[] #[.pointer (some ⟨g,0,none⟩)]] w (Yr l r w):=by
 have HI:=Hd (Zg r g a l w hg hl hz);clear hg hl
 go_enter Tryz.func279,Tryz.ntmps279
 go_wp2_with(go_at_call 289;refine HI.o.mono ?_;rintro e w1 ⟨n,rfl,hn,hb⟩;have HN:=Hd hn;clear hn)
 go_ret
 exact⟨by rw[HN.o];rfl,hb⟩
theorem Kq(r:Int)(a:Nat)(l:List (Int×Int))(w:World)(hl:pA Qm 2 w (some ⟨a,0,none⟩) l)(hz:l.length≤1000):
 Calls jG 239 #[.slice (some ⟨a,0,none⟩) l.length l.length,.int .i32 r] w (Yr l r w):=by
 have hb0:=jW (jU w.heap.size w) (.cells #[.int .i32 r] 21);have HC:=Hd (Qx r w.heap.size a l _ (at_ (kZ rfl) 0 _ rfl).1 (hl.below hb0) hz);have HB0:=Hd hb0;clear hl hb0
 go_enter Tryz.func239,Tryz.ntmps239
 go_wp2_with(go_at_call 279;refine HC.o.mono ?_;rintro e w1 ⟨rfl,hb⟩)
 go_ret
 exact⟨rfl,jN HB0.o hb⟩
set_option maxHeartbeats 1600000 in
theorem tO(r:Int)(w:World):Calls jG 170 #[.int .i32 r] w fun e w'=>e=.returned (.int .i64 (pR r))∧Below w.heap.size w w':=by
 have HN:=Hd (fun w=>UO r w)
 by_cases h0:r<768
 · have hw:=Jv h0;rw[hw];clear hw;cases hn:dZ r with
   |true=>
    rw[hn]at HN;clear hn
    go_enter Tryz.func170,Tryz.ntmps170
    go_wp2_with(go_at_call 238;refine(HN.o _).mono ?_;rintro e w1 ⟨rfl,rfl⟩)
    go_ret
    exact⟨rfl,jU _ _⟩
   |false=>
    rw[hn]at HN;clear hn
    go_enter Tryz.func170,Tryz.ntmps170
    go_wp2_with(go_at_call 238;refine(HN.o _).mono ?_;rintro e w1 ⟨rfl,rfl⟩)
    go_ret
    exact⟨rfl,jU _ _⟩
 · have HM:=Hd (fun w=>XP w);have HW:=Hd (fun w=>XM w);have HA1:=Hd (fun a w hl=>Kq r a lK w hl qZ);have HA2:=Hd (fun a w hl=>Kq r a iS w hl qZ);unfold pR;unfold Yr at HA1 HA2;generalize dZ r=b0 at HN;generalize bM lK r=b1 at HA1;generalize bM iS r=b2 at HA2;cases b0<;>cases b1<;>cases b2
   all_goals
    go_enter Tryz.func170,Tryz.ntmps170
    go_wp2_with(first
     |(go_at_call 238;refine(HN.o _).mono ?_;rintro e w1 ⟨rfl,rfl⟩)
     |(go_at_call 240;refine(HM.o _).mono ?_;rintro e w2 ⟨g,rfl,hg,hb2⟩;have HG:=Hd hg;have HB:=Hd hb2;clear hg hb2)
     |(go_at_call 241;refine(HW.o _).mono ?_;rintro e w4 ⟨g2,rfl,hg,hb2⟩;have HG2:=Hd hg;have HB3:=Hd (jN HB2.o hb2);clear hg hb2)
     |(go_at_call 239;first
        |(have hpv:=HB3.o;clear hpv;refine(HA2.o _ _ HG2.o).mono ?_;rintro e w5 ⟨rfl,hb3⟩;have HB4:=Hd (jN HB3.o hb3);clear hb3)
        |(refine(HA1.o _ _ HG.o).mono ?_;rintro e w3 ⟨rfl,hb3⟩;have HB2:=Hd (jN HB.o hb3);clear hb3)))
    go_ret
    exact⟨rfl,by first|exact HB4.o|exact HB2.o|exact jU _ _⟩
theorem UY(c d:Cl):fA c d=(xB c d&&decide (d.half=2)):=by
 unfold fA xB;cases decide (c.half=1)<;>cases decide (d.half=2)<;>cases decide (c={d with half:=1})<;>rfl
theorem QI{c d:Cl}(h:fA c d=true)(l:List Cl):uX (c::d::l)=c::d::uX l:=by
 have h0:¬c.half=0:=fun e=>by unfold fA at h;simp[e]at h
 rw[nK,if_neg h0,if_pos h]
theorem cZ{c:Cl}{l:List Cl}(h0:¬c.half=0)(h3:¬(c.half=3∧l=[]))(hp:∀d m,l=d::m→fA c d=false):uX (c::l)=uU c::uX l:=by
 match l with
 |[]=>rw[mG,if_neg (fun h=>h.elim h0 (fun h=>h3 ⟨h,rfl⟩))];rfl
 |d::m=>rw[nK,if_neg h0,hp d m rfl];rfl
theorem KV{c:Cl}(h:c.half=3):uX [c]=[c]:=by rw[mG,if_pos (.inr h)]
def CrO(w:World)(base g cap:Nat)(l:List Cl):Prop:=w.ownsRow base 154 8 (.slice (some ⟨g,0,none⟩) l.length cap) l.length (uS kX l)
theorem CrO.mod{w w':World}{base g cap:Nat}{l:List Cl}{X:List Nat}(h:CrO w base g cap l)(hm:Mod X w w')(hX:g∉X):CrO w' base g cap l:=uL h hm (fun k hk=>by simp[Value.ownBlock]at hk;rw[←hk];exact hX)
theorem CrO.below{w w':World}{base g cap:Nat}{l:List Cl}(h:CrO w base g cap l)(hb:Below w.heap.size w w'):CrO w' base g cap l:=h.mod (Mod.of_below (X:=[]) hb) (fun h=>by cases h)
theorem CrO.lt{w:World}{base g cap:Nat}{l:List Cl}(h:CrO w base g cap l):base≤g∧g<w.heap.size:=kK.lt h g rfl
theorem CrO.range{w:World}{base g cap:Nat}{l:List Cl}(h:CrO w base g cap l){i:Nat}{c:Cl}(hc:l[i]? =some c):w.rangeAt g (i*8) (kX c):=fun j v hj=>by
 have hj8:j<8:=by have :=(jE.1 hj).1;rwa[vF]at this
 exact(pC h (i:=i*8+j) (v:=v) (by rw[bS vF l i c j hc hj8];exact hj)).1
theorem CrO.there{w:World}{base g cap:Nat}{l:List Cl}(h:CrO w base g cap l){i:Nat}(hi:i<l.length):w.there g (i*8) 8:=fun j hj=>by
 obtain⟨c,hc⟩:∃c,l[i]? =some c:=⟨l[i],jD hi⟩;obtain⟨v,hv⟩:∃v,(kX c)[j]? =some v:=⟨_,jD (by rw[vF];exact hj)⟩;have :=pC h (i:=i*8+j) (v:=v) (by rw[bS vF l i c j hc hj];exact hv);exact⟨by rw[this.1];rfl,this.2⟩
theorem CrO.set{w:World}{base g cap:Nat}{l:List Cl}(h:CrO w base g cap l){i:Nat}(hi:i<l.length)(c:Cl):CrO (w.setCells g (i*8) (kX c)) base g cap (l.set i c)∧Mod [g] w (w.setCells g (i*8) (kX c)):=by
 refine⟨?_,gM (.inl qV) _ _ _ (Mod.refl _ _)⟩;have h1:=fF (kX c) (i*8) (uS kX l) w h (by rw[yP vF,vF];omega);unfold CrO;rw[uG];have e:(uS kX l).take (i*8)++(kX c++(uS kX l).drop (i*8+(kX c).length))=uS kX (l.set i c):=by
  rw[vF];clear h h1
  induction l generalizing i with
  |nil=>simp at hi
  |cons x l ih=>
   have e:uS kX (x::l)=kX x++uS kX l:=rfl
   match i with
   |0=>
    have e2:uS kX ((x::l).set 0 c)=kX c++uS kX l:=rfl;rw[e,e2,Nat.zero_mul,jL,List.nil_append,kB,List.drop_left' (vF x)]
   |i+1=>
    have e2:uS kX ((x::l).set (i+1) c)=kX x++uS kX (l.set i c):=rfl;rw[e,e2,←ih (by simpa using hi),Nat.add_mul,Nat.one_mul];rw[List.take_append,List.drop_append,vF,vT (by rw[vF];omega),vR (by rw[vF];omega)];rw[show i*8+8-8=i*8 by omega,show i*8+8+8-8=i*8+8 by omega,List.nil_append,uK]
 rw[e]at h1;exact h1
theorem rG{P:Program}{ρ:Operand→Value}{op:Oper}{w:World}(ty:TypeId)(x:Operand)(ho:op.op=.load ty x)(b o:Nat)(hx:ρ x=.pointer (some ⟨b,o,none⟩))(cs:List Value)(d:TypeDesc)(hc:w.rangeAt b o cs)
 (hu:P.underlying ty=some d) (hd:d.isRow=true) (hi:(P.info? ty).map (·.size)=some cs.length):(execOp ρ op).run P w=.ok (.value (.agg cs.toArray)) w:=by
 unfold execOp;simp only[ho,hx,Instr.loadAt,Instr.sureAddr,Sem.run_bind,Sem.run_pure,Result.andThen_ok,run_loadVar_mid w b o ty cs d hc hu hd hi]
def dM(base g cap:Nat)(l:List Cl)(w:World)(e:Ending)(w':World):Prop:=e=.returned (.tuple #[])∧CrO w' base g cap l∧Mod [g] w w'
set_option maxHeartbeats 3200000 in
theorem KT(base g cap:Nat)(l:List Cl)(w:World)(h:CrO w base g cap l)(hz:l.length≤10000):
 Calls jG 277 #[.slice (some ⟨g,0,none⟩) l.length cap] w (dM base g cap (uX l) w):=by
 have H:=Hd h;clear h
 go_enter Tryz.func277,Tryz.ntmps277
 go_wp2_with fail
 go_loopw [2] (fun s2 wr=>∃(i:Nat) (P:List Cl),s2=.int .i64 i∧i≤l.length∧P.length=i∧uX l=P++uX (l.drop i)∧CrO wr base g cap (P++l.drop i)∧Mod [g] w wr) (fun s2 _=>l.length-(intOf s2).toNat)
 case atStart=>exact⟨0,[],rfl,kT _,rfl,rfl,H.o,Mod.refl _ _⟩
 case round=>
  obtain⟨i,P,rfl,hi,hP,hm,hO,hM⟩:=hrel;have HO:=Hd hO;have HM:=Hd hM;have HE:=Hd hm;have HP:=Hd hP;clear hO hM hm hP
  by_cases hlt:i<l.length
  rotate_left
  · have hge:¬(i:Int)<(l.length:Int):=by omega
    go_wp2
    go_end0
    refine⟨rfl,?_,HM.o⟩;have h1:=HE.o;have h2:=HO.o;rw[vR qJ]at h1 h2;rw[h1];exact h2
  · have hltI:(i:Int)<(l.length:Int):=by omega
    obtain⟨c,hc⟩:∃c,l[i]? =some c:=⟨l[i],jD hlt⟩;have hdr:l.drop i=c::l.drop (i+1):=by rw[List.drop_eq_getElem_cons hlt,(jE.1 hc).2]
    have hci:(P++l.drop i)[i]? =some c:=by rw[vU qKs,HP.o,Nat.sub_self,hdr];rfl
    have HR:=Hd (HO.o.range hci);have HDR:=Hd hdr;have HC:=Hd hc;have hgl:=HO.o.lt.2;clear hc hdr hci
    go_upto_region 3 with fail
    refine wp_region_lit ?_;refine zG (.slice (some ⟨g,0,none⟩) l.length cap) ?_;refine zG (.int .i64 (i:Int)) ?_;refine zGs (.pointer (some ⟨g,i*8,none⟩)) ?_;refine wpList_load_mid rfl 154 (.tmp 12) rfl g (i*8) rfl (kX c) _ HR.o uH rfl uD ?_;simp only[Act.put,jZ,jX,jY,kX];obtain⟨cr,cm,ch,c1,c2,c3,c4,c5⟩:=c
    by_cases h0:ch=0
    · subst h0;have HS:=Hd (eU (c:=⟨cr,cm,0,c1,c2,c3,c4,c5⟩) rfl (l.drop (i+1)));have hb:Below wr.heap.size wr (wr.alloc (.cells (kX ⟨cr,cm,0,c1,c2,c3,c4,c5⟩).toArray 154)):=jW (jU _ _) _;have HB:=Hd hb;clear hb
      go_wp2
      go_roundw
      case rel=>
       refine⟨i+1,P++[⟨cr,cm,0,c1,c2,c3,c4,c5⟩],by go_num,by omega,by simp[HP.o],?_,?_,HM.o.then_below HB.o⟩
       · rw[HE.o,HDR.o,HS.o];simp
       · have :=HO.o.below HB.o;rw[HDR.o]at this;rw[uK];exact this
      case measure=>exact zm
    · have h0b:(ch==0)=false:=zb h0;have hw:jP.wrap ((l.length:Int)-1)=(l.length:Int)-1:=jH _ qJ
      by_cases h3:ch=3∧i+1=l.length
      · obtain⟨rfl,hil⟩:=h3;have hib:((i:Int)==(l.length:Int)-1)=true:=by simp;omega
        have hib2:(l.length:Int)-1=(i:Int):=by omega
        have hnil:l.drop (i+1)=[]:=vR qJ;have HS:=Hd (KV (c:=⟨cr,cm,3,c1,c2,c3,c4,c5⟩) rfl);have HNI:=Hd hnil;have HB:=Hd (jW (jU wr.heap.size wr) (.cells (kX ⟨cr,cm,3,c1,c2,c3,c4,c5⟩).toArray 154));clear hnil
        go_wp2
        go_roundw
        case rel=>
         refine⟨i+1,P++[⟨cr,cm,3,c1,c2,c3,c4,c5⟩],by go_num,by omega,by simp[HP.o],?_,?_,HM.o.then_below HB.o⟩
         · rw[HE.o,HDR.o,HNI.o,HS.o];simp[uX]
         · have :=HO.o.below HB.o;rw[HDR.o]at this;rw[uK];exact this
        case measure=>exact zm
      · have HEM:=Hd (fun w=>JV ⟨c1,c2,c3,c4,c5⟩ w);have h3b:ch=3→((i:Int)==(l.length:Int)-1)=false:=fun e=>zb qJ
        by_cases h1:ch=1
        · subst h1;clear h0b h3b
          go_upto_region 6 with fail
          generalize hW:World.alloc _ _=W;have HBW:=Hd (show Below wr.heap.size wr W from by rw[←hW];exact jW (jU _ _) _);have HCW:=Hd (show W.heap[wr.heap.size]? =some (.cells (kX ⟨cr,cm,1,c1,c2,c3,c4,c5⟩).toArray 154 (0,0))from by rw[←hW];exact kZ rfl);have HLW:=Hd (show wr.heap.size<W.heap.size from by rw[←hW];simp);clear hW;have x2:=(kC HCW.o 2 _ rfl).1;obtain⟨j,hj⟩:∃j,j=i+1:=⟨_,rfl⟩;have hjI:(i:Int)+1=(j:Int):=by omega
          have hwj:jP.wrap (j:Int)=(j:Int):=jH _ qJ;have HJ:=Hd hj
          by_cases hlast:i+1=l.length
          · have hjl:¬(j:Int)<(l.length:Int):=by omega
            clear hj;refine zU1 28 x2 ?_
            repeat(first
             |(refine kV qK ?_;refine zP ?_)
             |(refine kG ?_ qK ?_ ?_;rotate_left;· (intro w' hS;obtain⟨_,_⟩:=hS;go_simp;first|done|with_reducible rfl)
               refine zP ?_))
            refine kU (fun w' hS=>?_);have HB6:=Hd (jN HBW.o hS.1);have y3:=jA hS.1 (kC HCW.o 3 _ rfl).1;have y4:=jA hS.1 (kC HCW.o 4 _ rfl).1;have y5:=jA hS.1 (kC HCW.o 5 _ rfl).1;have y6:=jA hS.1 (kC HCW.o 6 _ rfl).1;have y7:=jA hS.1 (kC HCW.o 7 _ rfl).1;clear hS x2
            go_wp2_with(first
             |(go_at_call 288;refine(HEM.o _).mono ?_;rintro e w1 ⟨rfl,hb1⟩;have HB7:=Hd (jN HB6.o hb1);clear hb1;have HTH:=Hd ((HO.o.below HB7.o).there (i:=i) qJx))
             |(refine wpList_store_mid (op:=⟨none,.store 154 (.tmp 19) (.tmp 18),_,_,_,_⟩) rfl 154 (.tmp 19) (.tmp 18) rfl g (i*8) (kX (pM ⟨c1,c2,c3,c4,c5⟩)).toArray rfl rfl HTH.o uD (bU (pM ⟨c1,c2,c3,c4,c5⟩)) ?_))
            obtain⟨k1,k2⟩:=(HO.o.below HB7.o).set (i:=i) qJx (pM ⟨c1,c2,c3,c4,c5⟩);have K1:=Hd k1;have K2:=Hd k2;clear k1 k2;have HS:=Hd (cZ (c:=⟨cr,cm,1,c1,c2,c3,c4,c5⟩) (l:=l.drop (i+1)) h0 (fun hh=>by simp at hh) (fun d m e=>by have :=congrArg List.length e;rw[List.length_drop]at this;simp at this;have :=HJ.o;omega))
            go_roundw
            case rel=>
             refine⟨i+1,P++[pM ⟨c1,c2,c3,c4,c5⟩],by go_num,by omega,by simp[HP.o],?_,?_,(HM.o.then_below HB7.o).trans K2.o (fun k hk=>.inl hk)⟩
             · rw[HE.o,HDR.o,HS.o,uK];rfl
             · have hk:=K1.o;rw[HDR.o,List.set_append_right _ _ qKs,HP.o,Nat.sub_self,jX]at hk;rw[uK];exact hk
            case measure=>exact zm
          · have hjl:(j:Int)<(l.length:Int):=by omega
            obtain⟨d,hd⟩:∃d,l[j]? =some d:=⟨l[j],jD qJ⟩;have hdr2:l.drop (i+1)=d::l.drop (i+2):=by rw[←hj,List.drop_eq_getElem_cons qJ,(jE.1 hd).2,hj]
            have hdi:(P++l.drop i)[j]? =some d:=by rw[hj,vU (by rw[HP.o];omega),HP.o,HDR.o,show i+1-i=1 by omega,hdr2];rfl
            have HRD:=Hd (pS (HO.o.range hdi) HBW.o);have HDR2:=Hd hdr2;have z2:W.cell? ⟨g,j*8+2,none⟩=some (.int .i64 d.half):=HRD.o 2 _ rfl;have hjN:j<l.length:=by omega
            clear hj hd hdr2 hdi
            by_cases hd2:d.half=2
            rotate_left
            · have hd2b:(d.half==2)=false:=zb hd2;have HD2:=Hd hd2;refine zU2 28 x2 z2 ?_
              repeat(first
               |(refine kV qK ?_;refine zP ?_)
               |(refine kG ?_ qK ?_ ?_;rotate_left;· (intro w' hS;obtain⟨_,_,_⟩:=hS;go_simp;first|done|with_reducible rfl)
                 refine zP ?_))
              refine kU (fun w' hS=>?_);clear z2;have HB6:=Hd (jN HBW.o hS.1);have y3:=jA hS.1 (kC HCW.o 3 _ rfl).1;have y4:=jA hS.1 (kC HCW.o 4 _ rfl).1;have y5:=jA hS.1 (kC HCW.o 5 _ rfl).1;have y6:=jA hS.1 (kC HCW.o 6 _ rfl).1;have y7:=jA hS.1 (kC HCW.o 7 _ rfl).1;clear hS x2
              go_wp2_with(first
               |(go_at_call 288;refine(HEM.o _).mono ?_;rintro e w1 ⟨rfl,hb1⟩;have HB7:=Hd (jN HB6.o hb1);clear hb1;have HTH:=Hd ((HO.o.below HB7.o).there (i:=i) qJx))
               |(refine wpList_store_mid (op:=⟨none,.store 154 (.tmp 19) (.tmp 18),_,_,_,_⟩) rfl 154 (.tmp 19) (.tmp 18) rfl g (i*8) (kX (pM ⟨c1,c2,c3,c4,c5⟩)).toArray rfl rfl HTH.o uD (bU (pM ⟨c1,c2,c3,c4,c5⟩)) ?_))
              obtain⟨k1,k2⟩:=(HO.o.below HB7.o).set (i:=i) qJx (pM ⟨c1,c2,c3,c4,c5⟩);have K1:=Hd k1;have K2:=Hd k2;clear k1 k2;have HS:=Hd (cZ (c:=⟨cr,cm,1,c1,c2,c3,c4,c5⟩) (l:=l.drop (i+1)) h0 (fun hh=>by simp at hh) (fun d' m e=>by rw[HDR2.o]at e;injection e with e1 e2;subst e1;unfold fA;simp[HD2.o]))
              go_roundw
              case rel=>
               refine⟨i+1,P++[pM ⟨c1,c2,c3,c4,c5⟩],by go_num,by omega,by simp[HP.o],?_,?_,(HM.o.then_below HB7.o).trans K2.o (fun k hk=>.inl hk)⟩
               · rw[HE.o,HDR.o,HS.o,uK];rfl
               · have hk:=K1.o;rw[HDR.o,List.set_append_right _ _ qKs,HP.o,Nat.sub_self,jX]at hk;rw[uK];exact hk
              case measure=>exact zm
            · have HPA:=Hd (fun w'=>Wa ⟨cr,cm,1,c1,c2,c3,c4,c5⟩ d w');have HD2:=Hd hd2;rw[hd2]at z2;have HRC:=Hd (kA HCW.o);cases hp:xB ⟨cr,cm,1,c1,c2,c3,c4,c5⟩ d with
              |false=>
               rw[hp]at HPA;have HPF:=Hd hp;clear hp hd2;refine jO 28 (fun w'=>Below W.heap.size W w'∧w'.cell? ⟨wr.heap.size,2,none⟩=some (.int .i64 1)∧w'.cell? ⟨g,j*8+2,none⟩=some (.int .i64 2)∧w'.rangeAt wr.heap.size 0 (kX ⟨cr,cm,1,c1,c2,c3,c4,c5⟩)∧w'.rangeAt g (j*8) (kX d)) qQ qQ ?_ ?_
               · exact⟨(jU _ _).drew,x2,z2,HRC.o,HRD.o⟩
               simp only[jC,jL,jB,jF]
               repeat(first
                |(refine kV qK ?_;refine zP ?_)
                |(refine kG (.agg (kX ⟨cr,cm,1,c1,c2,c3,c4,c5⟩).toArray) qK (fun w' hS=>rG 154 (.tmp 3) rfl wr.heap.size 0 rfl (kX ⟨cr,cm,1,c1,c2,c3,c4,c5⟩) _ hS.2.2.2.1 uH rfl uD) ?_
                  refine zP ?_)
                |(refine kG (.agg (kX d).toArray) qK (fun w' hS=>rG 154 (.tmp 61) rfl g (j*8) rfl (kX d) _ hS.2.2.2.2 uH rfl uD) ?_
                  refine zP ?_)
                |(refine kN 287 #[.agg (kX ⟨cr,cm,1,c1,c2,c3,c4,c5⟩).toArray,.agg (kX d).toArray] (.bool false) qK ?_ (fun w' hS=>(HPA.o w').mono fun e w2 ⟨he,hb⟩=>⟨he,jN hS.1 hb,jA hb hS.2.1,jA hb hS.2.2.1,pS hS.2.2.2.1 hb,pS hS.2.2.2.2 hb⟩) ?_;· (intro w';go_simp;done)
                  refine zP ?_)
                |(refine kG ?_ qK ?_ ?_;rotate_left;· (intro w' hS;obtain⟨_,_,_,_,_⟩:=hS;go_simp;first|done|with_reducible rfl)
                  refine zP ?_))
               refine kU (fun w' hS=>?_);clear z2;have HB6:=Hd (jN HBW.o hS.1);have y3:=jA hS.1 (kC HCW.o 3 _ rfl).1;have y4:=jA hS.1 (kC HCW.o 4 _ rfl).1;have y5:=jA hS.1 (kC HCW.o 5 _ rfl).1;have y6:=jA hS.1 (kC HCW.o 6 _ rfl).1;have y7:=jA hS.1 (kC HCW.o 7 _ rfl).1;clear hS x2
               go_wp2_with(first
                |(go_at_call 288;refine(HEM.o _).mono ?_;rintro e w1 ⟨rfl,hb1⟩;have HB7:=Hd (jN HB6.o hb1);clear hb1;have HTH:=Hd ((HO.o.below HB7.o).there (i:=i) qJx))
                |(refine wpList_store_mid (op:=⟨none,.store 154 (.tmp 19) (.tmp 18),_,_,_,_⟩) rfl 154 (.tmp 19) (.tmp 18) rfl g (i*8) (kX (pM ⟨c1,c2,c3,c4,c5⟩)).toArray rfl rfl HTH.o uD (bU (pM ⟨c1,c2,c3,c4,c5⟩)) ?_))
               obtain⟨k1,k2⟩:=(HO.o.below HB7.o).set (i:=i) qJx (pM ⟨c1,c2,c3,c4,c5⟩);have K1:=Hd k1;have K2:=Hd k2;clear k1 k2;have HS:=Hd (cZ (c:=⟨cr,cm,1,c1,c2,c3,c4,c5⟩) (l:=l.drop (i+1)) h0 (fun hh=>by simp at hh) (fun d' m e=>by rw[HDR2.o]at e;injection e with e1 e2;subst e1;rw[UY,HPF.o];rfl))
               go_roundw
               case rel=>
                refine⟨i+1,P++[pM ⟨c1,c2,c3,c4,c5⟩],by go_num,by omega,by simp[HP.o],?_,?_,(HM.o.then_below HB7.o).trans K2.o (fun k hk=>.inl hk)⟩
                · rw[HE.o,HDR.o,HS.o,uK];rfl
                · have hk:=K1.o;rw[HDR.o,List.set_append_right _ _ qKs,HP.o,Nat.sub_self,jX]at hk;rw[uK];exact hk
               case measure=>exact zm
              |true=>
               rw[hp]at HPA;have HPF:=Hd hp;clear hp hd2;refine jO 28 (fun w'=>Below W.heap.size W w'∧w'.cell? ⟨wr.heap.size,2,none⟩=some (.int .i64 1)∧w'.cell? ⟨g,j*8+2,none⟩=some (.int .i64 2)∧w'.rangeAt wr.heap.size 0 (kX ⟨cr,cm,1,c1,c2,c3,c4,c5⟩)∧w'.rangeAt g (j*8) (kX d)) qQ qQ ?_ ?_
               · exact⟨(jU _ _).drew,x2,z2,HRC.o,HRD.o⟩
               simp only[jC,jL,jB,jF]
               repeat(first
                |(refine kV qK ?_;refine zP ?_)
                |(refine kG (.agg (kX ⟨cr,cm,1,c1,c2,c3,c4,c5⟩).toArray) qK (fun w' hS=>rG 154 (.tmp 3) rfl wr.heap.size 0 rfl (kX ⟨cr,cm,1,c1,c2,c3,c4,c5⟩) _ hS.2.2.2.1 uH rfl uD) ?_
                  refine zP ?_)
                |(refine kG (.agg (kX d).toArray) qK (fun w' hS=>rG 154 (.tmp 61) rfl g (j*8) rfl (kX d) _ hS.2.2.2.2 uH rfl uD) ?_
                  refine zP ?_)
                |(refine kN 287 #[.agg (kX ⟨cr,cm,1,c1,c2,c3,c4,c5⟩).toArray,.agg (kX d).toArray] (.bool true) qK ?_ (fun w' hS=>(HPA.o w').mono fun e w2 ⟨he,hb⟩=>⟨he,jN hS.1 hb,jA hb hS.2.1,jA hb hS.2.2.1,pS hS.2.2.2.1 hb,pS hS.2.2.2.2 hb⟩) ?_;· (intro w';go_simp;done)
                  refine zP ?_)
                |(refine kG ?_ qK ?_ ?_;rotate_left;· (intro w' hS;obtain⟨_,_,_,_,_⟩:=hS;go_simp;first|done|with_reducible rfl)
                  refine zP ?_))
               refine kU (fun w' hS=>?_);have HB6:=Hd (jN HBW.o hS.1);clear hS x2 z2;have HS:=Hd (QI (c:=⟨cr,cm,1,c1,c2,c3,c4,c5⟩) (d:=d) (by rw[UY,HPF.o,HD2.o];rfl) (l.drop (i+2)))
               go_wp2
               go_roundw
               case rel=>
                refine⟨i+2,P++[⟨cr,cm,1,c1,c2,c3,c4,c5⟩,d],by have :=HJ.o;go_num,by have :=HJ.o;omega,by simp[HP.o],?_,?_,HM.o.then_below HB6.o⟩
                · rw[HE.o,HDR.o,HDR2.o,HS.o];simp
                · have hk:=HO.o.below HB6.o;rw[HDR.o,HDR2.o]at hk;rw[uK];exact hk
               case measure=>have :=HJ.o;simp[intOf];omega
        · have h1b:(ch==1)=false:=zb h1
          by_cases h33:ch=3
          · subst h33;have hib:=h3b rfl;clear h3b h0b
            go_upto_region 6 with fail
            generalize hW:World.alloc _ _=W;have HBW:=Hd (show Below wr.heap.size wr W from by rw[←hW];exact jW (jU _ _) _);have HCW:=Hd (show W.heap[wr.heap.size]? =some (.cells (kX ⟨cr,cm,3,c1,c2,c3,c4,c5⟩).toArray 154 (0,0))from by rw[←hW];exact kZ rfl);have HLW:=Hd (show wr.heap.size<W.heap.size from by rw[←hW];simp);clear hW;have x2:=(kC HCW.o 2 _ rfl).1;refine zU1 28 x2 ?_
            repeat(first
             |(refine kV qK ?_;refine zP ?_)
             |(refine kG ?_ qK ?_ ?_;rotate_left;· (intro w' hS;obtain⟨_,_⟩:=hS;go_simp;first|done|with_reducible rfl)
               refine zP ?_))
            refine kU (fun w' hS=>?_);have HB6:=Hd (jN HBW.o hS.1);have y3:=jA hS.1 (kC HCW.o 3 _ rfl).1;have y4:=jA hS.1 (kC HCW.o 4 _ rfl).1;have y5:=jA hS.1 (kC HCW.o 5 _ rfl).1;have y6:=jA hS.1 (kC HCW.o 6 _ rfl).1;have y7:=jA hS.1 (kC HCW.o 7 _ rfl).1;clear hS x2
            go_wp2_with(first
             |(go_at_call 288;refine(HEM.o _).mono ?_;rintro e w1 ⟨rfl,hb1⟩;have HB7:=Hd (jN HB6.o hb1);clear hb1;have HTH:=Hd ((HO.o.below HB7.o).there (i:=i) qJx))
             |(refine wpList_store_mid (op:=⟨none,.store 154 (.tmp 19) (.tmp 18),_,_,_,_⟩) rfl 154 (.tmp 19) (.tmp 18) rfl g (i*8) (kX (pM ⟨c1,c2,c3,c4,c5⟩)).toArray rfl rfl HTH.o uD (bU (pM ⟨c1,c2,c3,c4,c5⟩)) ?_))
            obtain⟨k1,k2⟩:=(HO.o.below HB7.o).set (i:=i) qJx (pM ⟨c1,c2,c3,c4,c5⟩);have K1:=Hd k1;have K2:=Hd k2;clear k1 k2;have HS:=Hd (cZ (c:=⟨cr,cm,3,c1,c2,c3,c4,c5⟩) (l:=l.drop (i+1)) qV (fun hh=>by have h5:=congrArg List.length hh.2;rw[List.length_drop,List.length_nil]at h5;have h6:(i:Int)=(l.length:Int)-1:=qJ;exact(beq_eq_false_iff_ne.1 hib) h6) (fun d m _=>rfl))
            go_roundw
            case rel=>
             refine⟨i+1,P++[pM ⟨c1,c2,c3,c4,c5⟩],by go_num,by omega,by simp[HP.o],?_,?_,(HM.o.then_below HB7.o).trans K2.o (fun k hk=>.inl hk)⟩
             · rw[HE.o,HDR.o,HS.o,uK];rfl
             · have hk:=K1.o;rw[HDR.o,List.set_append_right _ _ qKs,HP.o,Nat.sub_self,jX]at hk;rw[uK];exact hk
            case measure=>exact zm
          · have h3c:(ch==3)=false:=zb h33;clear h3b
            go_upto_region 6 with fail
            generalize hW:World.alloc _ _=W;have HBW:=Hd (show Below wr.heap.size wr W from by rw[←hW];exact jW (jU _ _) _);have HCW:=Hd (show W.heap[wr.heap.size]? =some (.cells (kX ⟨cr,cm,ch,c1,c2,c3,c4,c5⟩).toArray 154 (0,0))from by rw[←hW];exact kZ rfl);have HLW:=Hd (show wr.heap.size<W.heap.size from by rw[←hW];simp);clear hW;have x2:=(kC HCW.o 2 _ rfl).1;refine zU1 28 x2 ?_
            repeat(first
             |(refine kV qK ?_;refine zP ?_)
             |(refine kG ?_ qK ?_ ?_;rotate_left;· (intro w' hS;obtain⟨_,_⟩:=hS;go_simp;first|done|with_reducible rfl)
               refine zP ?_))
            refine kU (fun w' hS=>?_);have HB6:=Hd (jN HBW.o hS.1);have y3:=jA hS.1 (kC HCW.o 3 _ rfl).1;have y4:=jA hS.1 (kC HCW.o 4 _ rfl).1;have y5:=jA hS.1 (kC HCW.o 5 _ rfl).1;have y6:=jA hS.1 (kC HCW.o 6 _ rfl).1;have y7:=jA hS.1 (kC HCW.o 7 _ rfl).1;clear hS x2
            go_wp2_with(first
             |(go_at_call 288;refine(HEM.o _).mono ?_;rintro e w1 ⟨rfl,hb1⟩;have HB7:=Hd (jN HB6.o hb1);clear hb1;have HTH:=Hd ((HO.o.below HB7.o).there (i:=i) qJx))
             |(refine wpList_store_mid (op:=⟨none,.store 154 (.tmp 19) (.tmp 18),_,_,_,_⟩) rfl 154 (.tmp 19) (.tmp 18) rfl g (i*8) (kX (pM ⟨c1,c2,c3,c4,c5⟩)).toArray rfl rfl HTH.o uD (bU (pM ⟨c1,c2,c3,c4,c5⟩)) ?_))
            obtain⟨k1,k2⟩:=(HO.o.below HB7.o).set (i:=i) qJx (pM ⟨c1,c2,c3,c4,c5⟩);have K1:=Hd k1;have K2:=Hd k2;clear k1 k2;have HS:=Hd (cZ (c:=⟨cr,cm,ch,c1,c2,c3,c4,c5⟩) (l:=l.drop (i+1)) h0 (fun hh=>h33 hh.1) (fun d m _=>by unfold fA;simp[h1]))
            go_roundw
            case rel=>
             refine⟨i+1,P++[pM ⟨c1,c2,c3,c4,c5⟩],by go_num,by omega,by simp[HP.o],?_,?_,(HM.o.then_below HB7.o).trans K2.o (fun k hk=>.inl hk)⟩
             · rw[HE.o,HDR.o,HS.o,uK];rfl
             · have hk:=K1.o;rw[HDR.o,List.set_append_right _ _ qKs,HP.o,Nat.sub_self,jX]at hk;rw[uK];exact hk
            case measure=>exact zm
def XG(l:List (Int×Int))(w:World)(e:Ending)(w':World):Prop:=∃g,e=.returned (.slice (some ⟨g,0,none⟩) (l.length*2) (l.length*2))∧pA Qm 2 w' (some ⟨g,0,none⟩) l∧Below w.heap.size w w'
set_option maxHeartbeats 1600000 in
theorem Xb(w:World):Calls jG 248 #[] w (XG lK w):=by
 go_enter Tryz.func248,Tryz.ntmps248
 go_wp2
 go_ret
 exact⟨w.heap.size,rfl,VU rU (l:=lK) (kZ rfl),jW (jU _ _) _⟩
set_option maxHeartbeats 1600000 in
theorem Xp(w:World):Calls jG 249 #[] w (XG iS w):=by
 go_enter Tryz.func249,Tryz.ntmps249
 go_wp2
 go_ret
 exact⟨w.heap.size,rfl,VU rU (l:=iS) (kZ rfl),jW (jU _ _) _⟩
set_option maxHeartbeats 3200000 in
theorem UQ(r:Int)(a:Nat)(l:List (Int×Int))(w:World)(hl:pA Qm 2 w (some ⟨a,0,none⟩) l)(hz:l.length≤1000):
 Calls jG 247 #[.slice (some ⟨a,0,none⟩) (l.length*2) (l.length*2),.int .i32 r] w fun e w'=>e=.returned (.bool (bM l r))∧w=w':=by
 obtain⟨L2,hL2⟩:∃L2,l.length*2=L2:=⟨_,rfl⟩;rw[hL2];have HL:=Hd hl;have HL2:=Hd hL2;clear hl hL2
 go_enter Tryz.func247,Tryz.ntmps247
 go_wp2_with fail
 go_loopw [5] (fun s5 wr=>∃i j:Nat,s5=.int .i64 j∧j=i*2∧i≤l.length∧bM (l.take i) r=false∧wr=w) (fun s5 _=>L2-(intOf s5).toNat)
 case atStart=>exact⟨0,0,rfl,rfl,kT _,rfl,rfl⟩
 case round=>
  obtain⟨i,j,rfl,hij,hi,hf,rfl⟩:=hrel;have HIJ:=Hd hij;have HF:=Hd hf;clear hf
  by_cases hlt:i<l.length
  rotate_left
  · have hge:¬(j:Int)<(L2:Int):=by have :=HL2.o;omega
    have HE:Hid (bM l r=false):=Hd (by have :=HF.o;rwa[vT qJ]at this);clear hij
    go_wp2
    go_ret
    exact⟨by rw[HE.o];rfl,rfl⟩
  · have hltI:(j:Int)<(L2:Int):=by have :=HL2.o;omega
    obtain⟨j1,hj1⟩:∃j1:Nat,j1=j+1:=⟨_,rfl⟩;have hj1I:(j:Int)+1=(j1:Int):=by omega
    have hwj1:jP.wrap (j1:Int)=(j1:Int):=jH _ qJ;have hj1L:(j1:Int)<(L2:Int):=by have :=HL2.o;omega
    obtain⟨j2,hj2⟩:∃j2:Nat,j2=j+2:=⟨_,rfl⟩;have hj2I:(j:Int)+2=(j2:Int):=by omega
    have hwj2:jP.wrap (j2:Int)=(j2:Int):=jH _ qJ;obtain⟨b,off,x,e,hx,hc⟩:=HL.o.at_ hlt;simp only[Option.some.injEq,Addr.mk.injEq,and_true]at e;obtain⟨rfl,rfl⟩:=e;have y0:wr.cell? ⟨a,j,none⟩=some (.int .i32 x.1):=by have :=hc 0 _ rfl;rw[hij];simpa using this
    have y1:wr.cell? ⟨a,j1,none⟩=some (.int .i32 x.2):=by have :=hc 1 _ rfl;rw[hj1,hij];simpa using this
    have HX:=Hd hx;have HJ2:=Hd hj2;have hjL:j<L2:=by omega
    have hj1LN:j1<L2:=by omega
    clear hc hx hij hj1 hj2
    by_cases h1:x.1≤r
    · by_cases h2:r≤x.2
      · have HE:Hid (bM l r=true):=Hd (rF (k:=i+1) (by rw[nM HX.o];unfold Zp;simp[h1,h2]))
        go_wp2
        go_ret
        exact⟨by rw[HE.o];rfl,rfl⟩
      · have HE:Hid (bM (l.take (i+1)) r=false):=Hd (by rw[nM HX.o,HF.o];unfold Zp;simp;omega)
        go_wp2
        go_roundw
        case rel=>exact⟨i+1,j2,by go_num,by have :=HIJ.o;have :=HJ2.o;omega,by omega,HE.o,by first|rfl|trivial⟩
        case measure=>have :=HJ2.o;simp[intOf];omega
    · have HE:Hid (bM (l.take (i+1)) r=false):=Hd (by rw[nM HX.o,HF.o];unfold Zp;simp;omega)
      go_wp2
      go_roundw
      case rel=>exact⟨i+1,j2,by go_num,by have :=HIJ.o;have :=HJ2.o;omega,by omega,HE.o,by first|rfl|trivial⟩
      case measure=>have :=HJ2.o;simp[intOf];omega
theorem ZF(r:Int):(dZ r=true∧(r<32∨(126<r∧r<160∧¬r<32)∨(55295<r∧r<57344∧126<r∧¬r<160∧¬r<32)∨(1114111<r∧55295<r∧¬r<57344∧126<r∧¬r<160∧¬r<32)))∨
 (dZ r=false∧((¬r<32∧¬126<r∧¬55295<r∧¬1114111<r)∨(¬r<32∧126<r∧¬r<160∧¬55295<r∧¬1114111<r)∨(¬r<32∧126<r∧¬r<160∧55295<r∧¬r<57344∧¬1114111<r))):=by
 unfold dZ;simp only[Bool.or_eq_true,Bool.and_eq_true,decide_eq_true_eq,Bool.or_eq_false_iff,Bool.and_eq_false_iff,decide_eq_false_iff_not];omega
set_option maxHeartbeats 3200000 in
theorem tZ(r:Int)(w:World):Calls jG 176 #[.int .i32 r] w fun e w'=>e=.returned (.int .i64 (pR r))∧Below w.heap.size w w':=by
 have HM:=Hd (fun w=>Xb w);have HW:=Hd (fun w=>Xp w);have HA1:=Hd (fun a w hl=>UQ r a lK w hl qZ);have HA2:=Hd (fun a w hl=>UQ r a iS w hl qZ);unfold pR;rcases ZF r with⟨hn,h⟩|⟨hn,h⟩
 · rw[hn];clear hn HM HW HA1 HA2;rcases h with h1|⟨h1,h2,h3⟩|⟨h1,h2,h3,h4,h5⟩|⟨h1,h2,h3,h4,h5,h6⟩
   all_goals
    go_enter Tryz.func176,Tryz.ntmps176
    go_wp2
    go_ret
    exact⟨rfl,jU _ _⟩
 · rw[hn];clear hn;generalize bM lK r=b1 at HA1;generalize bM iS r=b2 at HA2;rcases h with⟨h1,h2,h3,h4⟩|⟨h1,h2,h3,h4,h5⟩|⟨h1,h2,h3,h4,h5,h6⟩<;>cases b1<;>cases b2
   all_goals
    go_enter Tryz.func176,Tryz.ntmps176
    go_wp2_with(first
     |(go_at_call 248;refine(HM.o _).mono ?_;rintro e w2 ⟨g,rfl,hg,hb2⟩;have HG:=Hd hg;have HB:=Hd hb2;clear hg hb2)
     |(go_at_call 249;refine(HW.o _).mono ?_;rintro e w4 ⟨g2,rfl,hg,hb2⟩;have HG2:=Hd hg;have HB3:=Hd (jN HB.o hb2);clear hg hb2)
     |(go_at_call 247;first
        |(have hpv:=HB3.o;clear hpv;refine(HA2.o _ _ HG2.o).mono ?_;rintro e w5 ⟨rfl,rfl⟩)
        |(refine(HA1.o _ _ HG.o).mono ?_;rintro e w3 ⟨rfl,rfl⟩)))
    go_ret
    exact⟨rfl,by first|exact HB3.o|exact HB.o⟩
theorem dY:(jG.info? 154).map (fun i=>(i.zero,i.size,i.bytes))=some (some (.agg #[.int .i32 0,.string kD,.int .i64 0,.int .i64 0,.int .i64 0,.int .i64 0,.int .i64 0,.int .i64 0]),8,72):=by kernel_rfl
def pK(l:List Cl)(w:World)(e:Ending)(w':World):Prop:=∃g cap,e=.returned (.slice (some ⟨g,0,none⟩) l.length cap)∧CrO w' w.heap.size g cap l∧Below w.heap.size w w'
set_option maxHeartbeats 3200000 in
theorem iL(A:Option Addr)(l:List Cl)(ca:Nat)(f:FuncId)(capt:Array Value)(F:List Cl→List Cl)(w:World)(hl:pA kX 8 w A l)(h0:0<l.length)(hz:l.length≤10000)(hF:(F (uX l)).length=l.length)(hf:∀(args:Array Value) (w:World),(callFunc f args).run jG w=.ok (.enter f args) w)
 (hdo:∀g cap w',CrO w' w.heap.size g cap (uX l)→Below w.heap.size w w'→Calls jG f (#[.slice (some ⟨g,0,none⟩) l.length cap]++capt) w' (dM w.heap.size g cap (F (uX l)) w')):
 Calls jG 228 #[.slice A l.length ca,.func (.func f) #[] capt] w (pK (uX (F (uX l))) w):=by
 obtain⟨j0,hj,gz0,gz1,gz2⟩:=info_parts dY;obtain⟨b,off,rfl,-⟩:=hl h0;have HN:=Hd (hl.news vF);have HFL:=Hd (yP vF l);have HDO:=Hd hdo;clear hl hdo
 go_enter Tryz.func228,Tryz.ntmps228
 go_upto_region 1 with fail
 refine wp_region_lit ?_;refine zG (.slice (some ⟨b,off,none⟩) l.length ca) ?_;refine wpList_append_own _ rfl (.const (.slice none 0 0)) (.tmp 6) _ rfl w.heap.size 154 j0 (.agg #[.int .i32 0,.string kD,.int .i64 0,.int .i64 0,.int .i64 0,.int .i64 0,.int .i64 0,.int .i64 0]) 8 72 uT hj gz0 gz1 gz2 rfl qZ _ _ _ rfl (uE _ _ _ _) ⟨b,off,none⟩ l.length ca (uS kX l) rfl HFL.o HN.o (mC gL l) qJv qJ qJ6 ?_;intro v1 w1 hown1 hg1 _;rw[kB]at hown1;obtain⟨g,cap,hv⟩:=Go.Joins.ownsRow_form hown1 qJ;subst hv;have hB1:Below w.heap.size w w1:=(jU _ _).grown hg1 (jS _) (fun k hk=>by cases hk);have C1:CrO w1 w.heap.size g cap l:=by unfold CrO;simpa using hown1
 have HB1:=Hd hB1;have HM1:=Hd (KT w.heap.size g cap l w1 C1 hz);have HM2:Hid (∀w',CrO w' w.heap.size g cap (F (uX l))→Calls jG 277 #[.slice (some ⟨g,0,none⟩) l.length cap] w' (dM w.heap.size g cap (uX (F (uX l))) w')):=Hd (fun w' h=>by
  have :=KT w.heap.size g cap (F (uX l)) w' h (by rw[hF];exact hz)
  rwa[hF]at this)
 have hgb:=C1.lt;clear hown1 hg1 hB1 C1
 go_wp2_with(first
  |(go_at_call 277;first
     |(have hpv:=HC3.o;clear hpv;refine(HM2.o _ HC3.o).mono ?_;rintro e w4 ⟨rfl,hc4,hm4⟩;have HC4:=Hd hc4;have HB4:=Hd (HB3.o.trans (hm4.below (B:=w.heap.size) (fun x hx=>by rw[jR.1 hx];exact hgb.1) HB3.o.size));clear hc4 hm4)
     |(refine HM1.o.mono ?_;rintro e w2 ⟨rfl,hc2,hm2⟩;have HC2:=Hd hc2;have HB2:=Hd (HB1.o.trans (hm2.below (B:=w.heap.size) (fun x hx=>by rw[jR.1 hx];exact hgb.1) HB1.o.size));clear hc2 hm2))
  |(refine(HDO.o g cap _ HC2.o HB2.o).mono ?_;rintro e w3 ⟨rfl,hc3,hm3⟩;have HC3:=Hd hc3;have HB3:=Hd (HB2.o.trans (hm3.below (B:=w.heap.size) (fun x hx=>by rw[jR.1 hx];exact hgb.1) HB2.o.size));clear hc3 hm3))
 go_ret
 exact⟨g,cap,by rw[kR,hF];rfl,HC4.o,HB4.o⟩
theorem Wu(z:Cl)(n:Nat):(madeCells (kX z).toArray (n*8)).toList=uS kX (kJ n z):=by
 refine vV fun m=>?_
 by_cases hm:m<n*8
 · have h1:(kJ n z)[m/8]? =some z:=by rw[List.getElem?_replicate];rw[if_pos qJ]
   have h2:=bS vF (kJ n z) (m/8) z (m%8) h1 (Nat.mod_lt _ qZ);rw[show m/8*8+m%8=m by omega]at h2;rw[h2];have hj:m%8<(kX z).length:=by rw[vF];exact Nat.mod_lt _ qZ
   unfold madeCells;simp only[Array.toList_map,Array.toList_range,vQ,List.getElem?_range hm,Option.map_some];rw[jD hj]
   congr 1
   have hs:(kX z).toArray.size=8:=by rw[List.size_toArray,vF]
   rw[hs,getElem!_pos _ _ (by rw[hs];exact Nat.mod_lt _ qZ)];simp
 · rw[kI (by simp[size_madeCells];omega),kI (by rw[yP vF,kS];omega)]
theorem rB{n i:Nat}{c d:Cl}(h:i<n):(kJ i c++kJ (n-i) d).set i c=kJ (i+1) c++kJ (n-(i+1)) d:=by
 rw[List.set_append_right _ _ qV,kS,Nat.sub_self,show n-i=(n-(i+1))+1 by omega,List.replicate_succ,jX,List.replicate_succ',uK];rfl
def Ys:Cl:=pM ⟨0,0,0,0,0⟩
set_option maxHeartbeats 3200000 in
theorem Zt(n:Nat)(b:Col)(w:World)(hn0:0<n)(hn:n≤1000):
 Calls jG 268 #[.int .i64 n,.agg #[.int .i64 b.k,.int .i64 b.n]] w (pK (kJ n (vD b)) w):=by
 obtain⟨j0,hj,gz0,gz1,gz2⟩:=info_parts dY;have hmin:min (n:Int) 1000=(n:Int):=by omega
 have hmax:max 0 (n:Int)=(n:Int):=by omega
 have hpos:(0:Int)<(n:Int):=by omega
 have hnle:¬(n:Int)≤0:=by omega
 have hn1k:¬(1000:Int)<(n:Int):=by omega
 have HBL:=Hd (fun w=>JZ b w);have HB0:=Hd (jW (jU w.heap.size w) (.cells #[.int .i64 b.k,.int .i64 b.n] 38));have HK:Hid (bD (w.alloc (.cells #[.int .i64 b.k,.int .i64 b.n] 38)) w.heap.size 0 (.int .i64 b.k)∧bD (w.alloc (.cells #[.int .i64 b.k,.int .i64 b.n] 38)) w.heap.size 1 (.int .i64 b.n)):=Hd ⟨at_ (kZ rfl) 0 _ rfl,at_ (kZ rfl) 1 _ rfl⟩
 go_enter Tryz.func268,Tryz.ntmps268
 go_wp2_with(refine wpList_make_full _ rfl (.tmp 9) (.tmp 9) _ rfl w.heap.size 154 j0 _ 8 uT hj gz0 gz1 .i64 .i64 _ _ n rfl rfl ?_ ?_ ?_ ?_ ?_ ?_)
 all_goals first
  |rfl
  |omega
  |(simp only[maxLen];omega)
  |(rw[gz2];omega)
  |(simp;done)
  |skip
 intro w1 hown hg;have HO:=Hd hown;have HG:=Hd hg;clear hown hg
 go_wp2_with fail
 have hC:CrO w1 w.heap.size (w.heap.size+1) n (kJ n Ys):=by
  have h:=HO.o;have e:=Wu Ys n;unfold CrO;rw[kS,←e];exact h
 have HC:=Hd hC;have HB1:=Hd (show Below w.heap.size w w1 from HB0.o.grown HG.o qV (fun k hk=>by cases hk));have HK1:=Hd (show bD w1 w.heap.size 0 (.int .i64 b.k)∧bD w1 w.heap.size 1 (.int .i64 b.n)from⟨⟨HG.o.cell HK.o.1.1 (fun e=>by cases e),xD HG.o HK.o.1.1 HK.o.1.2⟩,⟨HG.o.cell HK.o.2.1 (fun e=>by cases e),xD HG.o HK.o.2.1 HK.o.2.2⟩⟩);have hsz:=hC.lt.2;clear hC HO HG
 go_loopw [13] (fun s13 wr=>∃i:Nat,s13=.int .i64 i∧i≤n∧CrO wr w.heap.size (w.heap.size+1) n (kJ i (vD b)++kJ (n-i) Ys)∧Mod [w.heap.size+1] w1 wr) (fun s13 _=>n-(intOf s13).toNat)
 case atStart=>exact⟨0,rfl,kT _,by simpa using HC.o,Mod.refl _ _⟩
 case round=>
  obtain⟨i,rfl,hi,hO,hM⟩:=hrel;have HO:=Hd hO;have HM:=Hd hM;have k0:=(hM.hold qV HK1.o.1).1;have k1:=(hM.hold qV HK1.o.2).1;clear hO hM
  by_cases hlt:i<n
  rotate_left
  · obtain rfl:i=n:=by omega
    go_wp2
    go_ret
    refine⟨w.heap.size+1,i,by simp,?_,HB1.o.trans (HM.o.below (fun x hx=>by rw[jR.1 hx];omega) HB1.o.size)⟩;simpa using HO.o
  · have hltI:(i:Int)<(n:Int):=by omega
    go_wp2_with(first
     |(go_at_call 286;refine(HBL.o _).mono ?_;rintro e w3 ⟨rfl,hb⟩;have HB3:=Hd hb;clear hb;have HTH:=Hd ((HO.o.below HB3.o).there (i:=i) qW))
     |(refine wpList_store_mid (op:=⟨none,.store 154 (.tmp 20) (.tmp 19),_,_,_,_⟩) rfl 154 (.tmp 20) (.tmp 19) rfl (w.heap.size+1) (i*8) (kX (vD b)).toArray rfl rfl HTH.o uD (bU (vD b)) ?_))
    obtain⟨q1,q2⟩:=(HO.o.below HB3.o).set (i:=i) qW (vD b);rw[rB hlt]at q1;have Q1:=Hd q1;have Q2:=Hd q2;clear q1 q2
    go_roundw
    case rel=>exact⟨i+1,by go_num,by omega,Q1.o,(HM.o.then_below HB3.o).trans Q2.o (fun k hk=>.inl hk)⟩
    case measure=>exact zm
def aZ(o:List Cl)(x r:Int)(a:Atr):List Cl:=
 if pR r=1∧0≤x∧x<o.length then o.set x.toNat (yO r kD 0 a)
 else if pR r=2∧0≤x∧x+1<o.length then(o.set x.toNat (yO r kD 1 a)).set (x.toNat+1) (yO r kD 2 a)
 else o
theorem U5(o:List Cl)(x r:Int)(a:Atr):(aZ o x r a).length=o.length:=by
 unfold aZ
 split
 · simp
 split
 · simp
 · rfl
theorem Xs(l:List Cl)(x r:Int)(a:Atr):uX (aZ (uX l) x r a)=dS l x r a:=by
 unfold aZ dS;simp only[]
 split
 · rfl
 split
 · rfl
 · exact bT l
theorem tI(r:Int):pR r= -1∨pR r=0∨pR r=2∨pR r=1:=by
 unfold pR
 split
 · exact .inl rfl
 split
 · exact .inr (.inl rfl)
 split
 · exact .inr (.inr (.inl rfl))
 · exact .inr (.inr (.inr rfl))
def UD(a:Atr):List Value:=[.int .i64 a.fk,.int .i64 a.fn,.int .i64 a.bk,.int .i64 a.bn,.int .i64 a.fl]
theorem bL:(jG.info? 40).map (·.size)=some 5:=by kernel_rfl
theorem CrO.mend_post{w:World}{base g cap:Nat}{l:List Cl}(h:CrO w base g cap l):dM base g cap l w (.returned (.tuple #[])) w:=⟨rfl,h,Mod.refl _ _⟩
set_option maxHeartbeats 3200000 in
theorem Yb(base g cap:Nat)(o:List Cl)(w:World)(h:CrO w base g cap o)(h0:0<o.length)(hz:o.length≤10000):
 Calls jG 292 #[.slice (some ⟨g,0,none⟩) o.length cap] w (dM base g cap (o.set (o.length-1) wH) w):=by
 obtain⟨n,hn⟩:∃n,o.length=n+1:=⟨o.length-1,by omega⟩;have hpos:(0:Int)<(o.length:Int):=by omega
 have hw:jP.wrap ((o.length:Int)-1)=(n:Int):=by rw[jH _ qJ];omega
 have HTH:=Hd (h.there (i:=n) qJ);have HS:=Hd (h.set (i:=n) qJ wH);have hnl:(n:Int)<(o.length:Int):=by omega
 have HN:=Hd hn;clear h hn
 go_enter Tryz.func292,Tryz.ntmps292
 go_wp2_with(refine wpList_store_mid (op:=⟨none,.store 154 (.tmp 10) (.tmp 9),_,_,_,_⟩) rfl 154 (.tmp 10) (.tmp 9) rfl g (n*8) (kX wH).toArray rfl rfl HTH.o uD (bU wH) ?_)
 go_end0
 refine⟨rfl,?_,HS.o.2⟩;have :=HS.o.1;rw[show o.length-1=n by have :=HN.o;omega];exact this
set_option maxHeartbeats 3200000 in
theorem U8(base g cap:Nat)(o:List Cl)(br bx ba:Nat)(x r:Int)(a:Atr)(w:World)(h:CrO w base g cap o)(hz:o.length≤10000)(hr:w.cell? ⟨br,0,none⟩=some (.int .i32 r))(hx:w.cell? ⟨bx,0,none⟩=some (.int .i64 x))(ha:w.rangeAt ba 0 (UD a))
 (hb1:br<base) (hb2:bx<base) (hb3:ba<base):
 Calls jG 267 #[.slice (some ⟨g,0,none⟩) o.length cap,.pointer (some ⟨br,0,none⟩),.pointer (some ⟨bx,0,none⟩),.pointer (some ⟨ba,0,none⟩)] w (dM base g cap (aZ o x r a) w):=by
 have HW:=Hd (fun w=>tO r w);have H:=Hd h;have hgb:=h.lt;have HX:=Hd hx;have HA:=Hd ha;have HR:=Hd hr;clear h ha;have HV:=Hd (show aZ o x r a=if pR r=1∧0≤x∧x<o.length then o.set x.toNat (yO r kD 0 a)else if pR r=2∧0≤x∧x+1<o.length then(o.set x.toNat (yO r kD 1 a)).set (x.toNat+1) (yO r kD 2 a)else o from rfl);generalize aZ o x r a=RES at HV;have HWR:=Hd (tI r);generalize pR r=wd at HW HV HWR
 by_cases hx0:x<0
 · go_enter Tryz.func267,Tryz.ntmps267
   go_wp2_with(go_at_call 170;refine(HW.o _).mono ?_;rintro e w1 ⟨rfl,hb⟩;have HB:=Hd hb;have hx':=jA hb HX.o;clear hx hr hb)
   go_end0
   rw[HV.o,if_neg qJ,if_neg qJ];exact qZd
 by_cases hw1:wd<1
 · go_enter Tryz.func267,Tryz.ntmps267
   go_wp2_with(go_at_call 170;refine(HW.o _).mono ?_;rintro e w1 ⟨rfl,hb⟩;have HB:=Hd hb;have hx':=jA hb HX.o;clear hx hr hb)
   go_end0
   rw[HV.o,if_neg qJ,if_neg qJ];exact qZd
 have hwI:jP.wrap ((o.length:Int)-wd)=(o.length:Int)-wd:=jH _ (by have :=HWR.o;omega)
 by_cases hbig:(o.length:Int)-wd<x
 · go_enter Tryz.func267,Tryz.ntmps267
   go_wp2_with(go_at_call 170;refine(HW.o _).mono ?_;rintro e w1 ⟨rfl,hb⟩;have HB:=Hd hb;have hx':=jA hb HX.o;clear hx hr hb)
   go_end0
   rw[HV.o,if_neg qJ,if_neg qJ];exact qZd
 obtain⟨k,hk⟩:∃k:Nat,x=(k:Int):=⟨x.toNat,by omega⟩;subst hk;obtain⟨fk,fn,bk,bn,fl⟩:=a;clear hwI;have hxl:(k:Int)+wd≤(o.length:Int):=by omega
 rcases HWR.o with hw|hw|hw|hw
 · omega
 · omega
 · subst hw;obtain⟨j,hj⟩:∃j:Nat,j=k+1:=⟨_,rfl⟩;have hkk:(k:Int)+1=(j:Int):=by omega
   have hwj:jP.wrap (j:Int)=(j:Int):=jH _ qJ;have hkl:(j:Int)<(o.length:Int):=by omega
   have hkl2:(k:Int)<(o.length:Int):=by omega
   have hkl3:j<o.length:=by omega
   have hkl4:k<o.length:=by omega
   have HJ:=Hd hj;clear hj;have HK:=Hd (show 0≤(k:Int)∧(k:Int)+1<(o.length:Int)from by omega);have hw2:jP.wrap ((o.length:Int)-2)=(o.length:Int)-2:=jH _ qJ;have htn:((k:Int)).toNat=k:=by omega
   have HTN:=Hd htn;clear htn;clear HWR
   go_enter Tryz.func267,Tryz.ntmps267
   go_upto_region 4 with(first
    |(go_at_call 170;refine(HW.o _).mono ?_;rintro e w1 ⟨rfl,hb⟩;have HB:=Hd hb;have hx':=jA hb HX.o;have hr':=jA hb HR.o;have HA1:=pS HA.o hb
      have a0:=HA1 0 _ rfl;have a1:=HA1 1 _ rfl;have a2:=HA1 2 _ rfl;have a3:=HA1 3 _ rfl;have a4:=HA1 4 _ rfl;have l1:=gO hx';have l2:=gO hr';have l3:=gO a0;clear HA1 hx hr hb)
    |fail)
   generalize hW2:World.alloc _ _=W2;have hb2:Below w1.heap.size w1 W2:=by rw[←hW2];exact jW (jU _ _) _
   have hc2:W2.heap[w1.heap.size]? =some (.cells (kX (yO r kD 0 ⟨fk,fn,bk,bn,fl⟩)).toArray 154 (0,0)):=by rw[←hW2];exact kZ rfl
   have x2:=jA hb2 hx';obtain⟨y2,y2f⟩:=kC hc2 2 _ rfl;have HB2:=Hd (jN HB.o (kH hb2 (jS _) (o:=2) (.int .i64 2)));have HC2:=Hd (kY hc2 2 (.int .i64 2) (cs':=kX (yO r kD 2 ⟨fk,fn,bk,bn,fl⟩)) rfl);have X2:=Hd (show(W2.setCell ⟨w1.heap.size,2,none⟩ (.int .i64 2)).cell? ⟨bx,0,none⟩=some (.int .i64 k)from(World.cell?_setCell_other _ _ _ _ (fun e=>by injection e with e1 e2;omega)).trans x2);clear hW2 hb2 hc2 hx' hr' a0 a1 a2 a3 a4 l2 l3 l1
   go_upto_region 5 with fail
   generalize uQ _ _ _=W3 at HB2 HC2 X2 ⊢;have x3:=X2.o;have HTH:=Hd ((H.o.below HB2.o).there (i:=j) qJ);have HS:=Hd ((H.o.below HB2.o).set (i:=j) qJ (yO r kD 2 ⟨fk,fn,bk,bn,fl⟩));clear X2 x2 y2 y2f;refine wp_region_lit ?_;refine zG (.slice (some ⟨g,0,none⟩) o.length cap) ?_;refine zGs (.int .i64 (k:Int)) ?_;refine zGs (.int .i64 (j:Int)) ?_;refine uF qK 154 (.tmp 6) rfl (w1.heap.size) (0) rfl (kX (yO r kD 2 ⟨fk,fn,bk,bn,fl⟩)) _ (kA HC2.o) uH rfl uD ?_;refine zP ?_;refine zGs (.pointer (some ⟨g,j*8,none⟩)) ?_;refine wpList_store_mid rfl 154 (.tmp 33) (.tmp 32) rfl (g) (j*8) ((kX (yO r kD 2 ⟨fk,fn,bk,bn,fl⟩)).toArray) rfl rfl (HTH.o) uD (bU _) ?_;simp only[Act.put];have hne:g≠w1.heap.size:=by have :=HB.o.size;omega
   have HC3:Hid ((W3.setCells g (j*8) (kX (yO r kD 2 ⟨fk,fn,bk,bn,fl⟩))).heap[w1.heap.size]? =some (.cells (kX (yO r kD 2 ⟨fk,fn,bk,bn,fl⟩)).toArray 154 (0,0))):=Hd ((HS.o.2.block _ (kF.1 HC2.o).1 qW).trans HC2.o);have x4:(W3.setCells g (j*8) (kX (yO r kD 2 ⟨fk,fn,bk,bn,fl⟩))).cell? ⟨bx,0,none⟩=some (.int .i64 k):=HS.o.2.cell qW x3;change wpList _ _ _ _ _ (W3.setCells g (j*8) (kX (yO r kD 2 ⟨fk,fn,bk,bn,fl⟩)));generalize W3.setCells g (j*8) (kX (yO r kD 2 ⟨fk,fn,bk,bn,fl⟩))=W4 at HS HC3 x4 ⊢;obtain⟨y4,y4f⟩:=kC HC3.o 2 _ rfl;clear x3
   go_upto_region 7 with fail
   have l1:=gO x4;have HC5:=Hd (kY HC3.o 2 (.int .i64 1) (cs':=kX (yO r kD 1 ⟨fk,fn,bk,bn,fl⟩)) rfl);have HM5:Hid (Mod [g] w (W4.setCell ⟨w1.heap.size,2,none⟩ (.int .i64 1))):=Hd (((Mod.of_below HB2.o).trans HS.o.2 (fun b hb=>.inl hb)).setCell (a:=⟨w1.heap.size,2,none⟩) (.inr HB.o.size) _);have HO5:Hid (CrO (W4.setCell ⟨w1.heap.size,2,none⟩ (.int .i64 1)) base g cap (o.set j (yO r kD 2 ⟨fk,fn,bk,bn,fl⟩))):=Hd (HS.o.1.mod ((Mod.refl [w1.heap.size] W4).setCell (a:=⟨w1.heap.size,2,none⟩) (.inl qV) _) qW);have X5:Hid ((W4.setCell ⟨w1.heap.size,2,none⟩ (.int .i64 1)).cell? ⟨bx,0,none⟩=some (.int .i64 k)):=Hd ((World.cell?_setCell_other _ _ _ _ (fun e=>by injection e with e1 e2;have :=HB.o.size;omega)).trans x4);generalize uQ _ _ _=W5 at HC5 HM5 HO5 X5 ⊢;have x5:=X5.o;have HTH5:=Hd (HO5.o.there (i:=k) qW);have HS5:=Hd (HO5.o.set (i:=k) qW (yO r kD 1 ⟨fk,fn,bk,bn,fl⟩));clear X5 x4 y4 y4f HTH;refine wp_region_lit ?_;refine zG (.slice (some ⟨g,0,none⟩) o.length cap) ?_;refine zGs (.int .i64 (k:Int)) ?_;refine uF qK 154 (.tmp 6) rfl (w1.heap.size) (0) rfl (kX (yO r kD 1 ⟨fk,fn,bk,bn,fl⟩)) _ (kA HC5.o) uH rfl uD ?_;refine zP ?_;refine zGs (.pointer (some ⟨g,k*8,none⟩)) ?_
   refine wpList_store_mid rfl 154 (.tmp 38) (.tmp 37) rfl (g) (k*8) ((kX (yO r kD 1 ⟨fk,fn,bk,bn,fl⟩)).toArray) rfl rfl (HTH5.o) uD (bU _) ?_
   go_wp2
   go_end0
   rw[HV.o,if_neg qV,if_pos (by first|exact⟨rfl,HK.o⟩|exact⟨trivial,HK.o⟩),HTN.o,List.set_comm _ _ qJ,←HJ.o];refine⟨rfl,?_,HM5.o.trans HS5.o.2 (fun b hb=>.inl hb)⟩;have :=HS5.o.1;unfold CrO at this ⊢;simpa using this
 · subst hw;have hkl:(k:Int)<(o.length:Int):=by omega
   have HK:=Hd (show 0≤(k:Int)∧(k:Int)<(o.length:Int)from by omega);have hw2:jP.wrap ((o.length:Int)-1)=(o.length:Int)-1:=jH _ qJ;clear HWR
   go_enter Tryz.func267,Tryz.ntmps267
   go_upto_region 7 with(first
    |(go_at_call 170;refine(HW.o _).mono ?_;rintro e w1 ⟨rfl,hb⟩;have HB:=Hd hb;have hx':=jA hb HX.o;have hr':=jA hb HR.o;have HA1:=pS HA.o hb
      have a0:=HA1 0 _ rfl;have a1:=HA1 1 _ rfl;have a2:=HA1 2 _ rfl;have a3:=HA1 3 _ rfl;have a4:=HA1 4 _ rfl;have l1:=gO hx';have l2:=gO hr';have l3:=gO a0;clear HA1 hx hr hb)
    |fail)
   generalize hW2:World.alloc _ _=W2;have hb2:Below w1.heap.size w1 W2:=by rw[←hW2];exact jW (jU _ _) _
   have hc2:W2.heap[w1.heap.size]? =some (.cells (kX (yO r kD 0 ⟨fk,fn,bk,bn,fl⟩)).toArray 154 (0,0)):=by rw[←hW2];exact kZ rfl
   have HB2:=Hd (jN HB.o hb2);have HC2:=Hd hc2;have x2:=jA hb2 hx';have HTH:=Hd ((H.o.below HB2.o).there (i:=k) qJ);have HS:=Hd ((H.o.below HB2.o).set (i:=k) qJ (yO r kD 0 ⟨fk,fn,bk,bn,fl⟩));clear hW2 hb2 hc2 hx' hr' a0 a1 a2 a3 a4 l1 l2 l3;refine wp_region_lit ?_;refine zG (.slice (some ⟨g,0,none⟩) o.length cap) ?_;refine zGs (.int .i64 (k:Int)) ?_;refine uF qK 154 (.tmp 6) rfl w1.heap.size 0 rfl (kX (yO r kD 0 ⟨fk,fn,bk,bn,fl⟩)) _ (kA HC2.o) uH rfl uD ?_;refine zP ?_;refine zGs (.pointer (some ⟨g,k*8,none⟩)) ?_;refine wpList_store_mid rfl 154 (.tmp 38) (.tmp 37) rfl g (k*8) (kX (yO r kD 0 ⟨fk,fn,bk,bn,fl⟩)).toArray rfl rfl HTH.o uD (bU _) ?_
   go_wp2
   go_end0
   rw[HV.o,if_pos (by first|exact⟨rfl,HK.o⟩|exact⟨trivial,HK.o⟩)];exact⟨rfl,HS.o.1,(Mod.of_below HB2.o).trans HS.o.2 (fun b hb=>.inl hb)⟩
theorem iC{α:Type}{enc:α→List Value}{K:Nat}(hl:∀x,(enc x).length=K):∀(l:List α) (k:Nat),(uS enc l).take (k*K)=uS enc (l.take k)
 |[],k=>by simp[uS]
 |x::l,0=>by simp[uS]
 |x::l,k+1=>by
  have e:uS enc (x::l)=enc x++uS enc l:=rfl;have e2:uS enc ((x::l).take (k+1))=enc x++uS enc (l.take k):=rfl;rw[e,e2,←iC hl l k,List.take_append,vT qVa,hl,show(k+1)*K-K=k*K by rw[Nat.add_mul];omega]
theorem iD{α:Type}{enc:α→List Value}{K:Nat}(hl:∀x,(enc x).length=K):∀(l:List α) (k:Nat),(uS enc l).drop (k*K)=uS enc (l.drop k)
 |[],k=>by simp[uS]
 |x::l,0=>by simp
 |x::l,k+1=>by
  have e:uS enc (x::l)=enc x++uS enc l:=rfl;have e2:uS enc ((x::l).drop (k+1))=uS enc (l.drop k):=rfl;rw[e,e2,←iD hl l k,List.drop_append,vR qVa,hl,show(k+1)*K-K=k*K by rw[Nat.add_mul];omega,List.nil_append]
theorem CrO.setMany{w:World}{base g cap:Nat}{l:List Cl}(h:CrO w base g cap l)(off:Nat)(cs:List Cl)(hi:off+cs.length≤l.length):
 CrO (w.setCells g (off*8) (uS kX cs)) base g cap (l.take off++cs++l.drop (off+cs.length))∧Mod [g] w (w.setCells g (off*8) (uS kX cs)):=by
 refine⟨?_,gM (.inl qV) _ _ _ (Mod.refl _ _)⟩;have h1:=fF (uS kX cs) (off*8) (uS kX l) w h (by rw[yP vF,yP vF];omega);have hlen:(l.take off++cs++l.drop (off+cs.length)).length=l.length:=by simp;omega
 unfold CrO;rw[hlen];rw[iC vF,yP vF,show off*8+cs.length*8=(off+cs.length)*8 by omega,iD vF,←uC,←uC,←uK]at h1;exact h1
def fQ(o:List Cl)(off n:Nat)(b:Col):List Cl:=o.take off++kJ n (vD b)++o.drop (off+n)
theorem oT{o:List Cl}{off n:Nat}(b:Col)(h:off+n≤o.length):(fQ o off n b).length=o.length:=by unfold fQ;simp;omega
theorem XC{o:List Cl}{off i:Nat}{b:Col}(h:off+i<o.length):(fQ o off i b).set (off+i) (vD b)=fQ o off (i+1) b:=by
 unfold fQ;rw[List.set_append_right _ _ qW,jI,vH,kS,show off+i-(min off o.length+i)=0 by omega];rw[List.drop_eq_getElem_cons h,jX,List.replicate_succ',uK,uK,uK];simp[Nat.add_assoc]
set_option maxHeartbeats 3200000 in
theorem wF(base g cap off n c:Nat)(o:List Cl)(b:Col)(w:World)(h:CrO w base g cap o)(hn:off+n≤o.length)(hz:o.length≤10000):
 Calls jG 264 #[.slice (some ⟨g,off*8,none⟩) n c,.agg #[.int .i64 b.k,.int .i64 b.n]] w (dM base g cap (fQ o off n b) w):=by
 have hnle:off+n≤o.length:=hn;have HL:=Hd hn;have HZ:=Hd hz;have HBL:=Hd (fun w=>JZ b w);have HB0:=Hd (jW (jU w.heap.size w) (.cells #[.int .i64 b.k,.int .i64 b.n] 38));have HK:Hid (bD (w.alloc (.cells #[.int .i64 b.k,.int .i64 b.n] 38)) w.heap.size 0 (.int .i64 b.k)∧bD (w.alloc (.cells #[.int .i64 b.k,.int .i64 b.n] 38)) w.heap.size 1 (.int .i64 b.n)):=Hd ⟨at_ (kZ rfl) 0 _ rfl,at_ (kZ rfl) 1 _ rfl⟩;have HO:=Hd (h.below HB0.o);have hg:=h.lt.2;clear h hn hnle hz
 go_enter Tryz.func264,Tryz.ntmps264
 go_wp2_with fail
 generalize World.alloc _ _=W at HB0 HK HO ⊢
 go_loopw [7] (fun s7 wr=>∃i:Nat,s7=.int .i64 i∧i≤n∧CrO wr base g cap (fQ o off i b)∧Mod [g] W wr) (fun s7 _=>n-(intOf s7).toNat)
 case atStart=>exact⟨0,rfl,kT _,by have :=HO.o;unfold fQ;simpa using this,Mod.refl _ _⟩
 case round=>
  obtain⟨i,rfl,hi,hO,hM⟩:=hrel;have HOi:=Hd hO;have HM:=Hd hM;obtain⟨k0,-⟩:=hM.hold qW HK.o.1;obtain⟨k1,-⟩:=hM.hold qW HK.o.2;clear hO hM
  by_cases hlt:i<n
  rotate_left
  · obtain rfl:i=n:=by omega
    go_wp2
    go_end0
    exact⟨rfl,HOi.o,(Mod.of_below HB0.o).trans HM.o (fun b hb=>.inl hb)⟩
  · have hltI:(i:Int)<(n:Int):=by omega
    have hw:jP.wrap ((i:Int)+1)=(i:Int)+1:=jH _ (by have :=HL.o;have :=HZ.o;omega)
    go_wp2_with(first
     |(go_at_call 286;refine(HBL.o _).mono ?_;rintro e w3 ⟨rfl,hb⟩;have HB3:=Hd hb;clear hb;have HTH:=Hd ((HOi.o.below HB3.o).there (i:=off+i) (by rw[oT b (by have :=HL.o;omega)];have :=HL.o;omega)))
     |(refine wpList_store_mid (op:=⟨none,.store 154 (.tmp 14) (.tmp 13),_,_,_,_⟩) rfl 154 (.tmp 14) (.tmp 13) rfl g ((off+i)*8) (kX (vD b)).toArray (by rw[Nat.add_mul];rfl) rfl HTH.o uD (bU (vD b)) ?_))
    obtain⟨q1,q2⟩:=(HOi.o.below HB3.o).set (i:=off+i) (by rw[oT b (by have :=HL.o;omega)];have :=HL.o;omega) (vD b);rw[XC (by have :=HL.o;omega)]at q1;have Q1:=Hd q1;have Q2:=Hd q2;clear q1 q2
    go_roundw
    case rel=>exact⟨i+1,by go_num,by omega,Q1.o,(HM.o.then_below HB3.o).trans Q2.o (fun k hk=>.inl hk)⟩
    case measure=>exact zm
def nY(o:List Cl)(x y:Int)(b:Col):List Cl:=if max 0 x<min y o.length then fQ o (max 0 x).toNat (min y o.length-max 0 x).toNat b else o
theorem Kv(o:List Cl)(x y:Int)(b:Col):nB b x y o=nY o x y b:=by
 unfold nB nY
 split
 · next h=>
   refine vV fun i=>?_;rw[List.getElem?_mapIdx];unfold fQ;rcases Nat.lt_or_ge i o.length with hi|hi
   · rw[jD hi];simp only[Option.map_some]
     by_cases h1:(i:Int)<max 0 x
     · rw[if_neg qJ,uK,vE (by rw[vH];omega),List.getElem?_take,if_pos qJ,jD hi]
     · by_cases h2:(i:Int)<min y o.length
       · rw[if_pos qJ,vE (by rw[jI,vH,kS];omega),vU (by rw[vH];omega),List.getElem?_replicate,if_pos (by rw[vH];omega)]
       · rw[if_neg qJ,vU (by rw[jI,vH,kS];omega),jI,vH,kS,gV,←jD hi]
         congr 1
         omega
   · rw[kI hi,kI qW];rfl
 · next h=>
   refine vV fun i=>?_;rw[List.getElem?_mapIdx];rcases Nat.lt_or_ge i o.length with hi|hi
   · rw[jD hi];simp only[Option.map_some];rw[if_neg qJ]
   · rw[kI hi];rfl
theorem YA(o:List Cl)(x y:Int)(b:Col):(nY o x y b).length=o.length:=by
 rw[←Kv];unfold nB;simp
def fR(o:List Cl)(x n:Int)(b:Col):List Cl:=
 if x<0∨(o.length:Int)≤x∨n<1 then o
 else fQ (o.take (x.toNat+(min n (o.length-x)).toNat)++(o.drop x.toNat).take (o.length-(x.toNat+(min n (o.length-x)).toNat))) x.toNat (min n (o.length-x)).toNat b
theorem KU(l:List Cl)(x n:Int)(b:Col):uX (fR (uX l) x n b)=pU l x n b:=by
 unfold fR pU;simp only[];generalize hm:uX l=o
 split
 · rw[←hm];exact bT l
 · next h=>
   congr 1
   refine vV fun i=>?_;unfold fQ;obtain⟨k,rfl⟩:∃k:Nat,x=k:=⟨x.toNat,by omega⟩;obtain⟨m,rfl⟩:∃m:Nat,n=m:=⟨n.toNat,by omega⟩;obtain⟨q,hq⟩:∃q:Nat,q=min m (o.length-k):=⟨_,rfl⟩;have e1:(min (m:Int) ((o.length:Int)-k)).toNat=q:=by omega
   rw[e1];simp only[uJ];simp only[List.getElem?_take,uK,List.getElem?_append,jI,vH,kS,List.getElem?_replicate,gV,List.length_drop]
   repeat' split
   all_goals first
    |rfl
    |(congr 1;omega)
    |(exfalso;omega)
    |(rw[kI qJ])
    |skip
   all_goals first
    |omega
    |(symm;rw[kI qJ])
    |skip
def fS(o:List Cl)(x n:Int)(b:Col):List Cl:=
 if x<0∨(o.length:Int)≤x∨n<1 then o
 else fQ (o.take x.toNat++o.drop (x.toNat+(min n (o.length-x)).toNat)++o.drop (o.length-(min n (o.length-x)).toNat)) (o.length-(min n (o.length-x)).toNat) (min n (o.length-x)).toNat b
theorem KD(l:List Cl)(x n:Int)(b:Col):uX (fS (uX l) x n b)=yC l x n b:=by
 unfold fS yC;simp only[];generalize hm:uX l=o
 split
 · rw[←hm];exact bT l
 · next h=>
   congr 1
   refine vV fun i=>?_;unfold fQ;obtain⟨k,rfl⟩:∃k:Nat,x=k:=⟨x.toNat,by omega⟩;obtain⟨m,rfl⟩:∃m:Nat,n=m:=⟨n.toNat,by omega⟩;obtain⟨q,hq⟩:∃q:Nat,q=min m (o.length-k):=⟨_,rfl⟩;have e1:(min (m:Int) ((o.length:Int)-k)).toNat=q:=by omega
   rw[e1];simp only[uJ];simp only[List.getElem?_take,uK,List.getElem?_append,jI,vH,kS,List.getElem?_replicate,gV,List.length_drop]
   repeat' split
   all_goals first
    |rfl
    |(congr 1;omega)
    |(exfalso;omega)
    |(rw[kI qJ])
    |skip
   all_goals first
    |omega
    |(symm;rw[kI qJ])
    |skip
theorem xF(o:List Cl)(x n:Int)(b:Col):(fR o x n b).length=o.length:=by
 unfold fR
 split
 · rfl
 · have e:(o.take (x.toNat+(min n (o.length-x)).toNat)++(o.drop x.toNat).take (o.length-(x.toNat+(min n (o.length-x)).toNat))).length=o.length:=by simp;omega
   rw[oT b (by rw[e];omega),e]
theorem xO(o:List Cl)(x n:Int)(b:Col):(fS o x n b).length=o.length:=by
 unfold fS
 split
 · rfl
 · have e:(o.take x.toNat++o.drop (x.toNat+(min n (o.length-x)).toNat)++o.drop (o.length-(min n (o.length-x)).toNat)).length=o.length:=by simp;omega
   rw[oT b (by rw[e];omega),e]
set_option maxHeartbeats 3200000 in
theorem YO(base g cap:Nat)(o:List Cl)(bx bz bb:Nat)(x y:Int)(b:Col)(w:World)(h:CrO w base g cap o)(hz:o.length≤10000)(hx:w.cell? ⟨bx,0,none⟩=some (.int .i64 x))(hy:w.cell? ⟨bz,0,none⟩=some (.int .i64 y))
 (hk:w.cell? ⟨bb,0,none⟩=some (.int .i64 b.k)) (hn:w.cell? ⟨bb,1,none⟩=some (.int .i64 b.n)):
 Calls jG 263 #[.slice (some ⟨g,0,none⟩) o.length cap,.pointer (some ⟨bx,0,none⟩),.pointer (some ⟨bz,0,none⟩),.pointer (some ⟨bb,0,none⟩)] w (dM base g cap (nY o x y b) w):=by
 have H:=Hd h;have hgb:=h.lt;have hcap:o.length≤cap:=by
  rcases h.2 with⟨e,-⟩|⟨g',c',cur,e,_,_,hc,_⟩
  · cases e
  · simp only[Value.slice.injEq]at e;omega
 clear h;obtain⟨X,hX⟩:∃X,(if 0<x then x else 0)=X:=⟨_,rfl⟩;obtain⟨Y,hY⟩:∃Y,(if(o.length:Int)<y then(o.length:Int)else y)=Y:=⟨_,rfl⟩;have hX2:max 0 x=X:=by rw[←hX];omega
 have hY2:min y (o.length:Int)=Y:=by rw[←hY];omega
 have HV:=Hd (show nY o x y b=if X<Y then fQ o X.toNat (Y-X).toNat b else o from by rw[←hX2,←hY2];rfl);generalize nY o x y b=RES at HV;have hX0:0≤X:=by omega
 have hYl:Y≤(o.length:Int):=by omega
 clear hX2 hY2
 by_cases hlt:X<Y
 rotate_left
 · go_enter Tryz.func263,Tryz.ntmps263
   go_upto_region 0 with fail
   refine zW2 7 hx hy fun w' hS=>?_;have HB1:=Hd hS.1;clear hS hx hy
   go_wp2
   go_end0
   rw[HV.o,if_neg qJ];exact⟨rfl,H.o.below HB1.o,Mod.of_below HB1.o⟩
 · obtain⟨k,rfl⟩:∃k:Nat,X=(k:Int):=⟨X.toNat,by omega⟩;obtain⟨m,rfl⟩:∃m:Nat,Y=(m:Int):=⟨Y.toNat,by omega⟩;have hml:m≤o.length:=by omega
   have hkmN:k<m:=by omega
   have HL:=Hd (kM hml hkmN)
   go_enter Tryz.func263,Tryz.ntmps263
   go_upto_region 0 with fail
   refine zW2 7 hx hy fun w' hS=>?_;have HB1:=Hd hS.1;have hk1:=jA hS.1 hk;have hn1:=jA hS.1 hn;clear hS hx hy hk hn
   go_upto_region 2 with fail
   clear hX hY;have hc1:m≤cap:=by omega
   have hc2:k≤m:=by omega
   have hc3:¬cap=k:=by omega
   have hm8:(m:Int)-(k:Int)=((m-k:Nat):Int):=by omega
   refine zU 5 (fun w2=>Below w'.heap.size w' w2∧w2.cell? ⟨bb,0,none⟩=some (.int .i64 b.k)∧w2.cell? ⟨bb,1,none⟩=some (.int .i64 b.n)) ⟨(jU _ _).drew,hk1,hn1⟩ ?_
   repeat first|refine zS ?_|refine zV ?_
   refine kU (fun w' hS=>?_);have HB2:=Hd (jN HB1.o hS.1);have HWP:=Hd (wF base g cap k (m-k) (cap-k) o b _ (H.o.below HB2.o) qJ hz);have HM:=Hd hm8;clear hS hk1 hn1 hc1 hc2 hc3 hm8
   go_wp2_with(go_at_call 264;refine HWP.o.mono ?_;rintro e w3 ⟨rfl,hc,hm⟩)
   go_end0
   rw[HV.o,if_pos qJ,HM.o];exact⟨rfl,hc,(Mod.of_below HB2.o).trans hm (fun b hb=>.inl hb)⟩
theorem CrO.cap{w:World}{base g cap:Nat}{o:List Cl}(h:CrO w base g cap o):o.length≤cap:=by
 rcases h.2 with⟨e,-⟩|⟨g',c',cur,e,_,_,hc,_⟩
 · cases e
 · simp only[Value.slice.injEq]at e;omega
theorem CrO.copy{w:World}{base g cap:Nat}{o:List Cl}(h:CrO w base g cap o)(i k n oi ok dl sl dc sc:Nat)(hi:i+n≤o.length)(hk:k+n≤o.length)(hmin:Nat.min sl dl=n)(hoi:0<n→oi=i*8)(hok:0<n→ok=k*8):
 ∃w',(Builtin.copy_ #[95,95] 3 #[.slice (some ⟨g,oi,none⟩) dl dc,.slice (some ⟨g,ok,none⟩) sl sc]).run jG w=.ok (goInt n) w'∧CrO w' base g cap (o.take i++(o.drop k).take n++o.drop (i+n))∧Mod [g] w w':=by
 have hlen:((o.drop k).take n).length=n:=by simp;omega
 have key:∀(o1 o2:Nat),(0<n→o1=i*8)→(0<n→o2=k*8)→(Builtin.copy_ #[95,95] 3 #[.slice (some ⟨g,o1,none⟩) dl dc,.slice (some ⟨g,o2,none⟩) sl sc]).run jG w=.ok (goInt n) (w.setCells g o1 (uS kX ((o.drop k).take n))):=fun o1 o2 h1 h2=>by
  have hcl:(uS kX ((o.drop k).take n)).length=n*8:=by rw[yP vF,hlen]
  have :=QX (P:=jG) w 95 95 3 154 g o1 dl dc ⟨g,o2,none⟩ sl sc 8 (uS kX ((o.drop k).take n)) uT uD (by rw[hmin,hcl]) (fun j v hj=>?_) (fun j hj=>?_) (fun j hj=>?_) (mC gL _)
  · rw[hmin]at this;exact this
  · have hj':=(jE.1 hj).1;rw[hcl]at hj';rw[vZ,h2 qJ];rw[←iC vF,List.getElem?_take,if_pos qJ,←iD vF,gV]at hj;exact(pC h hj).1
  · rw[hcl]at hj;obtain⟨v,hv⟩:∃v,(uS kX o)[o1+j]? =some v:=⟨_,jD (by rw[yP vF,h1 qJ];omega)⟩;rw[(pC h hv).1];rfl
  · rw[hcl]at hj;obtain⟨v,hv⟩:∃v,(uS kX o)[o1+j]? =some v:=⟨_,jD (by rw[yP vF,h1 qJ];omega)⟩;exact(pC h hv).2
 refine⟨_,key oi ok hoi hok,?_⟩;rcases Nat.eq_zero_or_pos n with rfl|hn
 · simp only[jL,List.append_nil,vO,List.take_append_drop];exact⟨h,Mod.refl _ _⟩
 · rw[hoi hn];have :=h.setMany i ((o.drop k).take n) (by rw[hlen];omega)
   rwa[hlen]at this
set_option maxHeartbeats 3200000 in
theorem Zk(base g cap:Nat)(o:List Cl)(bx bn bb:Nat)(x n:Int)(b:Col)(w:World)(h:CrO w base g cap o)(hz:o.length≤10000)(hx:w.cell? ⟨bx,0,none⟩=some (.int .i64 x))(hn:w.cell? ⟨bn,0,none⟩=some (.int .i64 n))
 (hk0:w.cell? ⟨bb,0,none⟩=some (.int .i64 b.k)) (hn0:w.cell? ⟨bb,1,none⟩=some (.int .i64 b.n)) (hb1:bx<base) (hb2:bn<base) (hb3:bb<base):
 Calls jG 265 #[.slice (some ⟨g,0,none⟩) o.length cap,.pointer (some ⟨bx,0,none⟩),.pointer (some ⟨bn,0,none⟩),.pointer (some ⟨bb,0,none⟩)] w (dM base g cap (fR o x n b) w):=by
 have H:=Hd h;have hgb:=h.lt;have hcap:=h.cap;clear h;have HV:=Hd (show fR o x n b=if x<0∨(o.length:Int)≤x∨n<1 then o else fQ (o.take (x.toNat+(min n (o.length-x)).toNat)++(o.drop x.toNat).take (o.length-(x.toNat+(min n (o.length-x)).toNat))) x.toNat (min n (o.length-x)).toNat b from rfl);have HVL:=Hd (xF o x n b);generalize fR o x n b=RES at HV HVL
 by_cases hx0:x<0
 · go_enter Tryz.func265,Tryz.ntmps265
   go_wp2
   go_end0
   rw[HV.o,if_pos qJ];exact H.o.mend_post
 by_cases hxl:(o.length:Int)≤x
 · go_enter Tryz.func265,Tryz.ntmps265
   go_wp2
   go_end0
   rw[HV.o,if_pos qJ];exact H.o.mend_post
 by_cases hn1:n<1
 · go_enter Tryz.func265,Tryz.ntmps265
   go_wp2
   go_end0
   rw[HV.o,if_pos qJ];exact H.o.mend_post
 obtain⟨k,rfl⟩:∃k:Nat,x=(k:Int):=⟨x.toNat,by omega⟩;have hw1:jP.wrap ((o.length:Int)-(k:Int))=(o.length:Int)-(k:Int):=jH _ qJ;obtain⟨q,hq⟩:∃q:Nat,(if(o.length:Int)-(k:Int)<n then(o.length:Int)-(k:Int)else n)=(q:Int):=⟨(min n ((o.length:Int)-(k:Int))).toNat,by omega⟩;have hq2:(min n ((o.length:Int)-(k:Int))).toNat=q:=by omega
 obtain⟨j,hj⟩:∃j:Nat,j=k+q:=⟨_,rfl⟩;have hjl:j≤o.length:=by omega
 have hq0:0<q:=by omega
 have hkj:(k:Int)+(q:Int)=(j:Int):=by omega
 have hwj:jP.wrap (j:Int)=(j:Int):=jH _ qJ;have hkl:k<o.length:=by omega
 rw[if_neg qJ,hq2,uJ,←hj]at HV;have HQ:=Hd (kM hj hq0);obtain⟨off,hoff⟩:∃off,(if cap=j then(some ⟨g,0,none⟩:Option Addr)else some ⟨g,j*8,none⟩)=some ⟨g,off,none⟩:=by
  by_cases h:cap=j
  · exact⟨0,if_pos h⟩
  · exact⟨j*8,if_neg h⟩
 have HOFF:Hid (0<o.length-j→off=j*8):=Hd (fun h=>by rw[if_neg qJ]at hoff;simp at hoff;omega);have hc3:¬cap=k:=by omega
 have HBX:=Hd hx;have HBN:=Hd hn;have HBK:=Hd hk0;have HBM:=Hd hn0;clear hq2 hj
 go_enter Tryz.func265,Tryz.ntmps265
 go_upto_region 2 with fail
 clear hq hw1 hk0 hn0 hn;have hc4:o.length≤cap:=hcap;have hc5:k≤o.length:=by omega
 refine zW1 8 hx fun w' hS=>?_;have HB1:=Hd hS.1;obtain⟨w2,hcp,hO2,hM2⟩:=(H.o.below HB1.o).copy j k (o.length-j) off (k*8) (o.length-j) (o.length-k) (cap-j) (cap-k) qJ qV6 (Nat.min_eq_right qV6) HOFF.o (fun _=>rfl);have hdn:List.drop (j+(o.length-j)) o=[]:=vR qJ;rw[hdn,List.append_nil]at hO2;clear hdn;have HO2:=Hd hO2;have HM2:=Hd ((Mod.of_below (X:=[g]) HB1.o).trans hM2 (fun b hb=>.inl hb));have hlen:(List.take j o++List.take (o.length-j) (List.drop k o)).length=o.length:=by
  have :=HQ.o;simp;omega
 have HWP:=Hd (fun w3 (h:CrO w3 base g cap (List.take j o++List.take (o.length-j) (List.drop k o)))=>wF base g cap k q (cap-k) _ b w3 h (by rw[hlen];have :=HQ.o;omega) (by rw[hlen];exact hz));have x2:=HM2.o.cell qW HBX.o;have b0:=HM2.o.cell qW HBK.o;have b1:=HM2.o.cell qW HBM.o;have HLEN:=Hd hlen;clear hS hO2 hM2 hlen hx
 go_upto_region 3 with fail
 clear hcp hoff;have hc6:j≤cap:=by omega
 have hc7:k≤j:=by have :=HQ.o;omega
 have hjk:j-k=q:=by have :=HQ.o;omega
 refine zW3 7 x2 b0 b1 fun w' hS=>?_;have HB3:=Hd hS.1;clear hS x2 b0 b1
 go_wp2_with(go_at_call 264;refine(HWP.o _ (HO2.o.below HB3.o)).mono ?_;rintro e w4 ⟨rfl,hc,hm⟩)
 go_end0
 rw[HV.o];exact⟨rfl,hc,(HM2.o.then_below HB3.o).trans hm (fun b hb=>.inl hb)⟩
set_option maxHeartbeats 3200000 in
theorem Zi(base g cap:Nat)(o:List Cl)(bx bn bb:Nat)(x n:Int)(b:Col)(w:World)(h:CrO w base g cap o)(hz:o.length≤10000)(hx:w.cell? ⟨bx,0,none⟩=some (.int .i64 x))(hn:w.cell? ⟨bn,0,none⟩=some (.int .i64 n))
 (hk0:w.cell? ⟨bb,0,none⟩=some (.int .i64 b.k)) (hn0:w.cell? ⟨bb,1,none⟩=some (.int .i64 b.n)) (hb1:bx<base) (hb2:bn<base) (hb3:bb<base):
 Calls jG 266 #[.slice (some ⟨g,0,none⟩) o.length cap,.pointer (some ⟨bx,0,none⟩),.pointer (some ⟨bn,0,none⟩),.pointer (some ⟨bb,0,none⟩)] w (dM base g cap (fS o x n b) w):=by
 have H:=Hd h;have hgb:=h.lt;have hcap:=h.cap;clear h;have HV:=Hd (show fS o x n b=if x<0∨(o.length:Int)≤x∨n<1 then o else fQ (o.take x.toNat++o.drop (x.toNat+(min n (o.length-x)).toNat)++o.drop (o.length-(min n (o.length-x)).toNat)) (o.length-(min n (o.length-x)).toNat) (min n (o.length-x)).toNat b from rfl);have HVL:=Hd (xO o x n b);generalize fS o x n b=RES at HV HVL
 by_cases hx0:x<0
 · go_enter Tryz.func266,Tryz.ntmps266
   go_wp2
   go_end0
   rw[HV.o,if_pos qJ];exact H.o.mend_post
 by_cases hxl:(o.length:Int)≤x
 · go_enter Tryz.func266,Tryz.ntmps266
   go_wp2
   go_end0
   rw[HV.o,if_pos qJ];exact H.o.mend_post
 by_cases hn1:n<1
 · go_enter Tryz.func266,Tryz.ntmps266
   go_wp2
   go_end0
   rw[HV.o,if_pos qJ];exact H.o.mend_post
 obtain⟨k,rfl⟩:∃k:Nat,x=(k:Int):=⟨x.toNat,by omega⟩;have hw1:jP.wrap ((o.length:Int)-(k:Int))=(o.length:Int)-(k:Int):=jH _ qJ;obtain⟨q,hq⟩:∃q:Nat,(if(o.length:Int)-(k:Int)<n then(o.length:Int)-(k:Int)else n)=(q:Int):=⟨(min n ((o.length:Int)-(k:Int))).toNat,by omega⟩;have hq2:(min n ((o.length:Int)-(k:Int))).toNat=q:=by omega
 obtain⟨j,hj⟩:∃j:Nat,j=k+q:=⟨_,rfl⟩;have hjl:j≤o.length:=by omega
 have hq0:0<q:=by omega
 have hkj:(k:Int)+(q:Int)=(j:Int):=by omega
 have hwj:jP.wrap (j:Int)=(j:Int):=jH _ qJ;have hkl:k<o.length:=by omega
 obtain⟨p,hp⟩:∃p:Nat,p=o.length-q:=⟨_,rfl⟩;rw[if_neg qJ,hq2,uJ,←hj,←hp]at HV;have HQ:=Hd (kM hj hq0);obtain⟨off,hoff⟩:∃off,(if cap=j then(some ⟨g,0,none⟩:Option Addr)else some ⟨g,j*8,none⟩)=some ⟨g,off,none⟩:=by
  by_cases h:cap=j
  · exact⟨0,if_pos h⟩
  · exact⟨j*8,if_neg h⟩
 have HOFF:Hid (0<o.length-j→off=j*8):=Hd (fun h=>by rw[if_neg qJ]at hoff;simp at hoff;omega);have hc3:¬cap=k:=by omega
 have HBX:=Hd hx;have HBN:=Hd hn;have HBK:=Hd hk0;have HBM:=Hd hn0;clear hq2 hj
 go_enter Tryz.func266,Tryz.ntmps266
 go_upto_region 2 with fail
 clear hq hw1 hk0 hn0 hn;have hc4:o.length≤cap:=hcap;have hc5:k≤o.length:=by omega
 refine zW1 8 hx fun w' hS=>?_;have HB1:=Hd hS.1;obtain⟨w2,hcp,hO2,hM2⟩:=(H.o.below HB1.o).copy k j (o.length-j) (k*8) off (o.length-k) (o.length-j) (cap-k) (cap-j) qV6 qJ (Nat.min_eq_left qV6) (fun _=>rfl) HOFF.o;have hdn:List.drop (k+(o.length-j)) o=List.drop p o:=by have :=HQ.o;congr 1;omega
 have hdt:List.take (o.length-j) (List.drop j o)=List.drop j o:=vT qV;rw[hdn,hdt]at hO2;clear hdn hdt;have HO2:=Hd hO2;have HM2:=Hd ((Mod.of_below (X:=[g]) HB1.o).trans hM2 (fun b hb=>.inl hb));have hlen:(List.take k o++List.drop j o++List.drop p o).length=o.length:=by
  have :=HQ.o;simp;omega
 have HWP:=Hd (fun w3 (h:CrO w3 base g cap (List.take k o++List.drop j o++List.drop p o))=>wF base g cap p q (cap-p) _ b w3 h (by rw[hlen];have :=HQ.o;omega) (by rw[hlen];exact hz));have b0:=HM2.o.cell qW HBK.o;have b1:=HM2.o.cell qW HBM.o;have HLEN:=Hd hlen;clear hS hO2 hM2 hlen hx
 go_upto_region 3 with fail
 clear hcp hoff;have hc6:p≤o.length:=by omega
 have hc7:¬cap=p:=by have :=HQ.o;omega
 have hpN:o.length-q=p:=hp.symm;clear hp;have hpI:(o.length:Int)-(q:Int)=(p:Int):=by omega
 have hwp:jP.wrap (p:Int)=(p:Int):=jH _ qJ;have hjk:o.length-p=q:=by have :=HQ.o;omega
 refine zW2 7 b0 b1 fun w' hS=>?_;have HB3:=Hd hS.1;clear hS b0 b1
 go_wp2_with(go_at_call 264;refine(HWP.o _ (HO2.o.below HB3.o)).mono ?_;rintro e w4 ⟨rfl,hc,hm⟩)
 go_end0
 rw[HV.o];exact⟨rfl,hc,(HM2.o.then_below HB3.o).trans hm (fun b hb=>.inl hb)⟩
theorem pK.rebase{l:List Cl}{w W w':World}{e:Ending}(hb:Below w.heap.size w W)(h:pK l W e w'):pK l w e w':=by
 obtain⟨g,cap,he,hc,hb2⟩:=h;exact⟨g,cap,he,gJ hc hb.size,jN hb hb2⟩
theorem vM{w:World}{b:Nat}{t:TypeId}{cs:List Value}(h:w.heap[b]? =some (.cells cs.toArray t (0,0)))(j:Nat)(v:Value)(hv:cs[j]? =some v):w.cell? ⟨b,j,none⟩=some v:=(kC h j v hv).1
set_option maxHeartbeats 3200000 in
theorem Ye(A:Option Addr)(l:List Cl)(ca:Nat)(w:World)(hl:pA kX 8 w A l)(h0:0<l.length)(hz:l.length≤10000):
 Calls jG 283 #[.slice A l.length ca] w (pK (cH l) w):=by
 have HW:=Hd (iL A l ca 292 #[] (fun o=>o.set (o.length-1) wH) w hl h0 hz (by simp[kR]) (fun args w=>by kernel_rfl) (fun g cap w' hc _=>by
  have :=Yb w.heap.size g cap (uX l) w' hc (by rw[kR];exact h0) qKw;rw[kR]at this;simp only[kR];exact this))
 rw[kR,show uX ((uX l).set (l.length-1) wH)=cH l from rfl]at HW;clear hl
 go_enter Tryz.func283,Tryz.ntmps283
 go_wp2_with(go_at_call 228;refine HW.o.mono ?_;rintro e w1 ⟨g,cap,rfl,hc,hb⟩;have HC:=Hd hc;clear hc)
 go_ret
 exact qZe
set_option maxHeartbeats 3200000 in
theorem Yd(A:Option Addr)(l:List Cl)(ca:Nat)(x y:Int)(b:Col)(w:World)(hl:pA kX 8 w A l)(h0:0<l.length)(hz:l.length≤10000):
 Calls jG 202 #[.slice A l.length ca,.int .i64 x,.int .i64 y,.agg #[.int .i64 b.k,.int .i64 b.n]] w (pK (pG l x y b) w):=by
 have hb0:Below w.heap.size w (((w.alloc (.cells #[.int .i64 x] 3)).alloc (.cells #[.int .i64 y] 3)).alloc (.cells #[.int .i64 b.k,.int .i64 b.n] 38)):=jW (jW (jW (jU w.heap.size w) _) _) _;have hp0:((((w.alloc (.cells #[.int .i64 x] 3)).alloc (.cells #[.int .i64 y] 3)).alloc (.cells #[.int .i64 b.k,.int .i64 b.n] 38)):World).heap[w.heap.size+0]? =some (.cells #[.int .i64 x] 3 (0,0)):=by first|exact uI (uI (kZ qV))|(refine uI ?_;refine uI ?_;exact kZ rfl)
 have hp1:((((w.alloc (.cells #[.int .i64 x] 3)).alloc (.cells #[.int .i64 y] 3)).alloc (.cells #[.int .i64 b.k,.int .i64 b.n] 38)):World).heap[w.heap.size+1]? =some (.cells #[.int .i64 y] 3 (0,0)):=by first|exact uI (kZ qV)|(refine uI ?_;refine uI ?_;exact kZ rfl)
 have hp2:((((w.alloc (.cells #[.int .i64 x] 3)).alloc (.cells #[.int .i64 y] 3)).alloc (.cells #[.int .i64 b.k,.int .i64 b.n] 38)):World).heap[w.heap.size+2]? =some (.cells #[.int .i64 b.k,.int .i64 b.n] 38 (0,0)):=by first|exact kZ qV|(refine uI ?_;refine uI ?_;exact kZ rfl)
 have HB0:=Hd hb0;have HW:=Hd (iL A l ca 263 #[.pointer (some ⟨w.heap.size,0,none⟩),.pointer (some ⟨w.heap.size+1,0,none⟩),.pointer (some ⟨w.heap.size+2,0,none⟩)] (fun o=>nY o x y b) (((w.alloc (.cells #[.int .i64 x] 3)).alloc (.cells #[.int .i64 y] 3)).alloc (.cells #[.int .i64 b.k,.int .i64 b.n] 38)) (hl.below hb0) h0 hz (by rw[YA,kR]) (fun args w=>by kernel_rfl) (fun g cap w' hc hb=>by
  have :=YO _ g cap (uX l) _ _ _ x y b w' hc qKw (jA hb (vM hp0 0 _ rfl)) (jA hb (vM hp1 0 _ rfl)) (jA hb (vM hp2 0 _ rfl)) (jA hb (vM hp2 1 _ rfl))
  rwa[kR]at this))
 have HL:=Hd (show uX ((fun o=>nY o x y b) (uX l))=pG l x y b from by unfold pG;rw[Kv]);rw[HL.o]at HW;clear hl hb0 hp0 hp1 hp2
 go_enter Tryz.func202,Tryz.ntmps202
 go_wp2_with(go_at_call 228;refine HW.o.mono ?_;intro e w1 hp;obtain⟨g,cap,rfl,hc,hb⟩:=pK.rebase HB0.o hp;have HC:=Hd hc;clear hc hp)
 go_ret
 exact qZe
set_option maxHeartbeats 3200000 in
theorem Zr(A:Option Addr)(l:List Cl)(ca:Nat)(x n:Int)(b:Col)(w:World)(hl:pA kX 8 w A l)(h0:0<l.length)(hz:l.length≤10000):
 Calls jG 208 #[.slice A l.length ca,.int .i64 x,.int .i64 n,.agg #[.int .i64 b.k,.int .i64 b.n]] w (pK (pU l x n b) w):=by
 have hb0:Below w.heap.size w (((w.alloc (.cells #[.int .i64 x] 3)).alloc (.cells #[.int .i64 n] 3)).alloc (.cells #[.int .i64 b.k,.int .i64 b.n] 38)):=jW (jW (jW (jU w.heap.size w) _) _) _;have hp0:((((w.alloc (.cells #[.int .i64 x] 3)).alloc (.cells #[.int .i64 n] 3)).alloc (.cells #[.int .i64 b.k,.int .i64 b.n] 38)):World).heap[w.heap.size+0]? =some (.cells #[.int .i64 x] 3 (0,0)):=by first|exact uI (uI (kZ qV))|(refine uI ?_;refine uI ?_;exact kZ rfl)
 have hp1:((((w.alloc (.cells #[.int .i64 x] 3)).alloc (.cells #[.int .i64 n] 3)).alloc (.cells #[.int .i64 b.k,.int .i64 b.n] 38)):World).heap[w.heap.size+1]? =some (.cells #[.int .i64 n] 3 (0,0)):=by first|exact uI (kZ qV)|(refine uI ?_;refine uI ?_;exact kZ rfl)
 have hp2:((((w.alloc (.cells #[.int .i64 x] 3)).alloc (.cells #[.int .i64 n] 3)).alloc (.cells #[.int .i64 b.k,.int .i64 b.n] 38)):World).heap[w.heap.size+2]? =some (.cells #[.int .i64 b.k,.int .i64 b.n] 38 (0,0)):=by first|exact kZ qV|(refine uI ?_;refine uI ?_;exact kZ rfl)
 have HB0:=Hd hb0;have HW:=Hd (iL A l ca 265 #[.pointer (some ⟨w.heap.size,0,none⟩),.pointer (some ⟨w.heap.size+1,0,none⟩),.pointer (some ⟨w.heap.size+2,0,none⟩)] (fun o=>fR o x n b) (((w.alloc (.cells #[.int .i64 x] 3)).alloc (.cells #[.int .i64 n] 3)).alloc (.cells #[.int .i64 b.k,.int .i64 b.n] 38)) (hl.below hb0) h0 hz (by rw[xF,kR]) (fun args w=>by kernel_rfl) (fun g cap w' hc hb=>by
  have :=Zk _ g cap (uX l) _ _ _ x n b w' hc qKw (jA hb (vM hp0 0 _ rfl)) (jA hb (vM hp1 0 _ rfl)) (jA hb (vM hp2 0 _ rfl)) (jA hb (vM hp2 1 _ rfl)) qJ6 qJ6 qJ6
  rwa[kR]at this))
 have HL:=Hd (show uX ((fun o=>fR o x n b) (uX l))=pU l x n b from KU l x n b);rw[HL.o]at HW;clear hl hb0 hp0 hp1 hp2
 go_enter Tryz.func208,Tryz.ntmps208
 go_wp2_with(go_at_call 228;refine HW.o.mono ?_;intro e w1 hp;obtain⟨g,cap,rfl,hc,hb⟩:=pK.rebase HB0.o hp;have HC:=Hd hc;clear hc hp)
 go_ret
 exact qZe
set_option maxHeartbeats 3200000 in
theorem Zs(A:Option Addr)(l:List Cl)(ca:Nat)(x n:Int)(b:Col)(w:World)(hl:pA kX 8 w A l)(h0:0<l.length)(hz:l.length≤10000):
 Calls jG 210 #[.slice A l.length ca,.int .i64 x,.int .i64 n,.agg #[.int .i64 b.k,.int .i64 b.n]] w (pK (yC l x n b) w):=by
 have hb0:Below w.heap.size w (((w.alloc (.cells #[.int .i64 x] 3)).alloc (.cells #[.int .i64 n] 3)).alloc (.cells #[.int .i64 b.k,.int .i64 b.n] 38)):=jW (jW (jW (jU w.heap.size w) _) _) _;have hp0:((((w.alloc (.cells #[.int .i64 x] 3)).alloc (.cells #[.int .i64 n] 3)).alloc (.cells #[.int .i64 b.k,.int .i64 b.n] 38)):World).heap[w.heap.size+0]? =some (.cells #[.int .i64 x] 3 (0,0)):=by first|exact uI (uI (kZ qV))|(refine uI ?_;refine uI ?_;exact kZ rfl)
 have hp1:((((w.alloc (.cells #[.int .i64 x] 3)).alloc (.cells #[.int .i64 n] 3)).alloc (.cells #[.int .i64 b.k,.int .i64 b.n] 38)):World).heap[w.heap.size+1]? =some (.cells #[.int .i64 n] 3 (0,0)):=by first|exact uI (kZ qV)|(refine uI ?_;refine uI ?_;exact kZ rfl)
 have hp2:((((w.alloc (.cells #[.int .i64 x] 3)).alloc (.cells #[.int .i64 n] 3)).alloc (.cells #[.int .i64 b.k,.int .i64 b.n] 38)):World).heap[w.heap.size+2]? =some (.cells #[.int .i64 b.k,.int .i64 b.n] 38 (0,0)):=by first|exact kZ qV|(refine uI ?_;refine uI ?_;exact kZ rfl)
 have HB0:=Hd hb0;have HW:=Hd (iL A l ca 266 #[.pointer (some ⟨w.heap.size,0,none⟩),.pointer (some ⟨w.heap.size+1,0,none⟩),.pointer (some ⟨w.heap.size+2,0,none⟩)] (fun o=>fS o x n b) (((w.alloc (.cells #[.int .i64 x] 3)).alloc (.cells #[.int .i64 n] 3)).alloc (.cells #[.int .i64 b.k,.int .i64 b.n] 38)) (hl.below hb0) h0 hz (by rw[xO,kR]) (fun args w=>by kernel_rfl) (fun g cap w' hc hb=>by
  have :=Zi _ g cap (uX l) _ _ _ x n b w' hc qKw (jA hb (vM hp0 0 _ rfl)) (jA hb (vM hp1 0 _ rfl)) (jA hb (vM hp2 0 _ rfl)) (jA hb (vM hp2 1 _ rfl)) qJ6 qJ6 qJ6
  rwa[kR]at this))
 have HL:=Hd (show uX ((fun o=>fS o x n b) (uX l))=yC l x n b from KD l x n b);rw[HL.o]at HW;clear hl hb0 hp0 hp1 hp2
 go_enter Tryz.func210,Tryz.ntmps210
 go_wp2_with(go_at_call 228;refine HW.o.mono ?_;intro e w1 hp;obtain⟨g,cap,rfl,hc,hb⟩:=pK.rebase HB0.o hp;have HC:=Hd hc;clear hc hp)
 go_ret
 exact qZe
set_option maxHeartbeats 3200000 in
theorem qJi(A:Option Addr)(l:List Cl)(ca:Nat)(x r:Int)(a:Atr)(w:World)(hl:pA kX 8 w A l)(h0:0<l.length)(hz:l.length≤10000):
 Calls jG 214 #[.slice A l.length ca,.int .i64 x,.int .i32 r,.agg #[.int .i64 a.fk,.int .i64 a.fn,.int .i64 a.bk,.int .i64 a.bn,.int .i64 a.fl]] w (pK (dS l x r a) w):=by
 have hb0:Below w.heap.size w (((w.alloc (.cells #[.int .i64 x] 3)).alloc (.cells #[.int .i32 r] 21)).alloc (.cells #[.int .i64 a.fk,.int .i64 a.fn,.int .i64 a.bk,.int .i64 a.bn,.int .i64 a.fl] 40)):=jW (jW (jW (jU w.heap.size w) _) _) _;have hp0:((((w.alloc (.cells #[.int .i64 x] 3)).alloc (.cells #[.int .i32 r] 21)).alloc (.cells #[.int .i64 a.fk,.int .i64 a.fn,.int .i64 a.bk,.int .i64 a.bn,.int .i64 a.fl] 40)):World).heap[w.heap.size+0]? =some (.cells #[.int .i64 x] 3 (0,0)):=by first|exact uI (uI (kZ qV))|(refine uI ?_;refine uI ?_;exact kZ rfl)
 have hp1:((((w.alloc (.cells #[.int .i64 x] 3)).alloc (.cells #[.int .i32 r] 21)).alloc (.cells #[.int .i64 a.fk,.int .i64 a.fn,.int .i64 a.bk,.int .i64 a.bn,.int .i64 a.fl] 40)):World).heap[w.heap.size+1]? =some (.cells #[.int .i32 r] 21 (0,0)):=by first|exact uI (kZ qV)|(refine uI ?_;refine uI ?_;exact kZ rfl)
 have hp2:((((w.alloc (.cells #[.int .i64 x] 3)).alloc (.cells #[.int .i32 r] 21)).alloc (.cells #[.int .i64 a.fk,.int .i64 a.fn,.int .i64 a.bk,.int .i64 a.bn,.int .i64 a.fl] 40)):World).heap[w.heap.size+2]? =some (.cells #[.int .i64 a.fk,.int .i64 a.fn,.int .i64 a.bk,.int .i64 a.bn,.int .i64 a.fl] 40 (0,0)):=by first|exact kZ qV|(refine uI ?_;refine uI ?_;exact kZ rfl)
 have HB0:=Hd hb0;have HW:=Hd (iL A l ca 267 #[.pointer (some ⟨w.heap.size+1,0,none⟩),.pointer (some ⟨w.heap.size,0,none⟩),.pointer (some ⟨w.heap.size+2,0,none⟩)] (fun o=>aZ o x r a) (((w.alloc (.cells #[.int .i64 x] 3)).alloc (.cells #[.int .i32 r] 21)).alloc (.cells #[.int .i64 a.fk,.int .i64 a.fn,.int .i64 a.bk,.int .i64 a.bn,.int .i64 a.fl] 40)) (hl.below hb0) h0 hz (by rw[U5,kR]) (fun args w=>by kernel_rfl) (fun g cap w' hc hb=>by
  have :=U8 _ g cap (uX l) _ _ _ x r a w' hc qKw (jA hb (vM hp1 0 _ rfl)) (jA hb (vM hp0 0 _ rfl)) (fun j v hv=>by rw[kB];exact jA hb (vM (cs:=UD a) hp2 j v hv)) qJ6 qJ6 qJ6
  rwa[kR]at this))
 have HL:=Hd (show uX ((fun o=>aZ o x r a) (uX l))=dS l x r a from Xs l x r a);rw[HL.o]at HW;clear hl hb0 hp0 hp1 hp2
 go_enter Tryz.func214,Tryz.ntmps214
 go_wp2_with(go_at_call 228;refine HW.o.mono ?_;intro e w1 hp;obtain⟨g,cap,rfl,hc,hb⟩:=pK.rebase HB0.o hp;have HC:=Hd hc;clear hc hp)
 go_ret
 exact qZe
theorem Xj(r:Int)(w:World):Calls jG 291 #[.int .i32 r] w fun e w'=>e=.returned (.bool (nV r))∧w=w':=by
 unfold nV
 by_cases h1:0≤r<;>by_cases h2:r≤1114111<;>by_cases h3:r<55296<;>
 · go_enter Tryz.func291,Tryz.ntmps291
   go_wp2
   go_ret
   refine⟨?_,rfl⟩;simp[h1,h2,h3]
   try omega
def tailV(r:Int):Nat→Int
 |0=>128+r%64
 |1=>128+r/64%64
 |_=>128+r/4096%64
theorem Ug(r:Int)(k g:Nat)(hk:k≤2)(h0:0≤r)(h1:r≤1114111)(w:World)(hg:w.cell? ⟨g,0,none⟩=some (.int .i32 r)):Calls jG 290 #[.int .i64 k,.pointer (some ⟨g,0,none⟩)] w fun e w'=>e=.returned (.int .u8 (tailV r k))∧w=w':=by
 rcases k with _|_|_|k
 · go_enter Tryz.func290,Tryz.ntmps290
   go_wp2
   go_ret
   exact⟨rfl,rfl⟩
 · go_enter Tryz.func290,Tryz.ntmps290
   go_wp2
   go_ret
   exact⟨rfl,rfl⟩
 · go_enter Tryz.func290,Tryz.ntmps290
   go_wp2
   go_ret
   exact⟨rfl,rfl⟩
 · omega
theorem Kt(h i:Nat)(x:Int)(hh:h<256)(hx0:0≤x)(hx1:x<256)(hd:h%2 ^ i=0)(hx:x.toNat<2 ^ i):bits .or .u8 (h:Int) x=h+x:=by
 rw[u8_or _ _ qJ qJ hx0 hx1,uJ,nat_join i _ _ hd hx];omega
theorem tP(xs:List Int)(n c g:Nat)(w:World)(t:TypeId)(h:w.heap[g]? =some (.cells (xs.map (Value.int .u8)).toArray t (0,0)))(hn:xs.length=n):
 (convert 223 9 (.slice (some ⟨g,0,none⟩) n c)).run jG w=.ok (.string (strOfNums xs)) w:=by
 refine run_convert_bytes_arg w 223 5 Tryz.underlying223 Tryz.underlying5 g 0 n c xs hn (fun i hi=>?_) 9 Tryz.underlying9;rw[kB];refine(at_ h i _ ?_).1;rw[List.getElem?_toArray,vQ,jD qJ];simp[List.getD,jD (show i<xs.length by omega)]
set_option maxHeartbeats 1600000 in
theorem K8(r:Int)(w:World):Calls jG 282 #[.int .i32 r] w fun e w'=>e=.returned (.string (cV r))∧Below w.heap.size w w':=by
 have HS:=Hd (fun w=>Xj r w);cases hs:nV r with
 |false=>
  have HV:=Hd (show cV r=kD from by unfold cV;rw[hs];rfl);rw[hs]at HS;clear hs
  go_enter Tryz.func282,Tryz.ntmps282
  go_wp2_with(go_at_call 291;refine(HS.o _).mono ?_;rintro e w1 ⟨rfl,rfl⟩)
  go_ret
  rw[HV.o];exact⟨rfl,jW (jU _ _) _⟩
 |true=>
  rw[hs]at HS;have hr:0≤r∧r≤1114111:=by unfold nV at hs;simp at hs;omega
  obtain⟨hr0,hr1⟩:=hr
  by_cases hA:r<128
  · have HV:=Hd (show cV r=⟨#[r.toNat.toUInt8]⟩from by unfold cV;rw[hs,if_pos rfl,if_pos hA]);clear hs;have hcv:=tP [r] 1 1 (w.heap.size+1) ((w.alloc (.cells #[.int .i32 r] 21)).alloc (.cells #[.int .u8 r] 5)) 5 (kZ qV) rfl
    go_enter Tryz.func282,Tryz.ntmps282
    go_wp2_with(go_at_call 291;refine(HS.o _).mono ?_;rintro e w1 ⟨rfl,rfl⟩)
    go_ret
    rw[HV.o];exact⟨rfl,jW (jW (jU _ _) _) _⟩
  have x0:(w.alloc (.cells #[.int .i32 r] 21)).cell? ⟨w.heap.size,0,none⟩=some (.int .i32 r):=(at_ (kZ rfl) 0 _ rfl).1;have HX0:=Hd x0;have HB0:=Hd (jW (jU w.heap.size w) (.cells #[.int .i32 r] 21));clear x0;have HT:Hid (∀(k:Nat),k≤2→∀(w2:World),w2.cell? ⟨w.heap.size,0,none⟩=some (.int .i32 r)→Calls jG 290 #[.int .i64 k,.pointer (some ⟨w.heap.size,0,none⟩)] w2 fun e w'=>e=.returned (.int .u8 (tailV r k))∧w2=w'):=Hd (fun k hk w2 h=>Ug r k w.heap.size hk hr0 hr1 w2 h)
  by_cases hB:r<2048
  · have HV:=Hd (show cV r=⟨#[(192+r/64).toNat.toUInt8,(128+r%64).toNat.toUInt8]⟩from by unfold cV;rw[hs,if_pos rfl,if_neg (show ¬r<0x80 from hA),if_pos hB]);clear hs;have hw8:IntKind.u8.wrap (r/64)=r/64:=by rw[IntKind.wrap_u8'];omega
    have hor:bits .or .u8 192 (r/64)=192+r/64:=Kt 192 5 (r/64) qJ qJ qJ qZ qJ
    go_enter Tryz.func282,Tryz.ntmps282
    go_upto_region 7 with(go_at_call 291;refine(HS.o _).mono ?_;rintro e w1 ⟨rfl,rfl⟩)
    generalize World.alloc _ _=W at HX0 HB0 ⊢;have x0:=HX0.o;refine zU1 6 x0 ?_
    repeat first|refine zS ?_|refine zD 290 #[.int .i64 0,.pointer (some ⟨w.heap.size,0,none⟩)] (.int .u8 (128+r%64)) (fun w' hS=>(HT.o 0 qJ w' hS.2).mono (fun e w'' h=>⟨h.1,h.2▸hS⟩)) ?_|refine zV ?_
    refine kU (fun w' hS=>?_);have HB1:=Hd (jN HB0.o hS.1);have hcv:=tP [192+r/64,128+r%64] 2 2 w'.heap.size (w'.alloc (.cells #[.int .u8 (192+r/64),.int .u8 (128+r%64)] 5)) 5 (kZ rfl) rfl;clear hS x0 hw8 hor
    go_wp2
    go_ret
    rw[HV.o];exact⟨rfl,jW HB1.o _⟩
  by_cases hC:r<65536
  · have HV:=Hd (show cV r=⟨#[(224+r/4096).toNat.toUInt8,(128+r/64%64).toNat.toUInt8,(128+r%64).toNat.toUInt8]⟩from by unfold cV;rw[hs,if_pos rfl,if_neg (show ¬r<0x80 from hA),if_neg (show ¬r<0x800 from hB),if_pos hC]);clear hs;have hw8:IntKind.u8.wrap (r/4096)=r/4096:=by rw[IntKind.wrap_u8'];omega
    have hor:bits .or .u8 224 (r/4096)=224+r/4096:=Kt 224 4 (r/4096) qJ qJ qJ qZ qJ
    go_enter Tryz.func282,Tryz.ntmps282
    go_upto_region 9 with(go_at_call 291;refine(HS.o _).mono ?_;rintro e w1 ⟨rfl,rfl⟩)
    generalize World.alloc _ _=W at HX0 HB0 ⊢;have x0:=HX0.o;refine zU1 8 x0 ?_
    repeat first|refine zS ?_|refine zD 290 #[.int .i64 1,.pointer (some ⟨w.heap.size,0,none⟩)] (.int .u8 (128+r/64%64)) (fun w' hS=>(HT.o 1 qJ w' hS.2).mono (fun e w'' h=>⟨h.1,h.2▸hS⟩)) ?_|refine zD 290 #[.int .i64 0,.pointer (some ⟨w.heap.size,0,none⟩)] (.int .u8 (128+r%64)) (fun w' hS=>(HT.o 0 qJ w' hS.2).mono (fun e w'' h=>⟨h.1,h.2▸hS⟩)) ?_|refine zV ?_
    refine kU (fun w' hS=>?_);have HB1:=Hd (jN HB0.o hS.1);have hcv:=tP [224+r/4096,128+r/64%64,128+r%64] 3 3 w'.heap.size (w'.alloc (.cells #[.int .u8 (224+r/4096),.int .u8 (128+r/64%64),.int .u8 (128+r%64)] 5)) 5 (kZ rfl) rfl;clear hS x0 hw8 hor
    go_wp2
    go_ret
    rw[HV.o];exact⟨rfl,jW HB1.o _⟩
  · have HV:=Hd (show cV r=⟨#[(240+r/262144).toNat.toUInt8,(128+r/4096%64).toNat.toUInt8,(128+r/64%64).toNat.toUInt8,(128+r%64).toNat.toUInt8]⟩from by unfold cV;rw[hs,if_pos rfl,if_neg (show ¬r<0x80 from hA),if_neg (show ¬r<0x800 from hB),if_neg (show ¬r<0x10000 from hC)]);clear hs;have hw8:IntKind.u8.wrap (r/262144)=r/262144:=by rw[IntKind.wrap_u8'];omega
    have hor:bits .or .u8 240 (r/262144)=240+r/262144:=Kt 240 3 (r/262144) qJ qJ qJ qZ qJ
    go_enter Tryz.func282,Tryz.ntmps282
    go_upto_region 10 with(go_at_call 291;refine(HS.o _).mono ?_;rintro e w1 ⟨rfl,rfl⟩)
    generalize World.alloc _ _=W at HX0 HB0 ⊢;have x0:=HX0.o;refine zU1 10 x0 ?_
    repeat first|refine zS ?_|refine zD 290 #[.int .i64 2,.pointer (some ⟨w.heap.size,0,none⟩)] (.int .u8 (128+r/4096%64)) (fun w' hS=>(HT.o 2 qJ w' hS.2).mono (fun e w'' h=>⟨h.1,h.2▸hS⟩)) ?_|refine zD 290 #[.int .i64 1,.pointer (some ⟨w.heap.size,0,none⟩)] (.int .u8 (128+r/64%64)) (fun w' hS=>(HT.o 1 qJ w' hS.2).mono (fun e w'' h=>⟨h.1,h.2▸hS⟩)) ?_|refine zD 290 #[.int .i64 0,.pointer (some ⟨w.heap.size,0,none⟩)] (.int .u8 (128+r%64)) (fun w' hS=>(HT.o 0 qJ w' hS.2).mono (fun e w'' h=>⟨h.1,h.2▸hS⟩)) ?_|refine zV ?_
    refine kU (fun w' hS=>?_);have HB1:=Hd (jN HB0.o hS.1);have hcv:=tP [240+r/262144,128+r/4096%64,128+r/64%64,128+r%64] 4 4 w'.heap.size (w'.alloc (.cells #[.int .u8 (240+r/262144),.int .u8 (128+r/4096%64),.int .u8 (128+r/64%64),.int .u8 (128+r%64)] 5)) 5 (kZ rfl) rfl;clear hS x0 hw8 hor
    go_wp2
    go_ret
    rw[HV.o];exact⟨rfl,jW HB1.o _⟩
def eV(o:List Cl)(x r:Int):List Cl:=
 match o[x.toNat]? with
 |none=>o
 |some c=>
  if x<0∨c.r=0∨pR r≠0∨32<(c.more++cV r).size then o
  else
   let m:=c.more++cV r
   let o1:=if c.half=1 then o.modify (x.toNat+1) (yV m)else if c.half=2 then o.modify (x.toNat-1) (yV m)else o
   o1.modify x.toNat (yV m)
theorem WO(o:List Cl)(x r:Int):(eV o x r).length=o.length:=by
 unfold eV
 split
 · rfl
 split
 · rfl
 · simp only[List.length_modify]
   split
   · simp
   split<;>simp
theorem VV(l:List Cl)(x r:Int):uX (eV (uX l) x r)=fK l x r:=by
 unfold eV fK;simp only[];cases(uX l)[x.toNat]? with
 |none=>exact bT l
 |some c=>
  simp only[]
  split
  · exact bT l
  · rfl
theorem fE:∀(l:List Cl) (k:Nat) (c:Cl),(uX l)[k]? =some c→(c.half=1→k+1<(uX l).length)∧(c.half=2→1≤k)
 |[],k,c,h=>by simp[uX]at h
 |[d],k,c,h=>by
  rw[mG]at h ⊢
  split at h
  · next hd=>
    have :k=0:=by have :=(jE.1 h).1;simpa using this
    subst this;simp at h;subst h;exact⟨fun e=>by omega,fun e=>by omega⟩
  · have :k=0:=by have :=(jE.1 h).1;simpa using this
    subst this;simp at h;subst h;exact⟨fun e=>by simp[uU,pM,yO]at e,fun e=>by simp[uU,pM,yO]at e⟩
 |d::e::l,k,c,h=>by
  rw[nK]at h ⊢
  split at h
  · next hd=>
    rw[if_pos hd]
    match k with
    |0=>
     simp at h;subst h;exact⟨fun e=>by omega,fun e=>by omega⟩
    |k+1=>
     have :=fE (e::l) k c qK3;exact qZf
  · next hd=>
    rw[if_neg hd]
    split at h
    · next hp=>
      rw[if_pos hp]
      match k with
      |0=>
       simp at h;subst h;refine⟨fun e=>by simp,fun e=>?_⟩;unfold fA at hp;simp only[Bool.and_eq_true,decide_eq_true_eq]at hp;omega
      |1=>
       simp at h;subst h;refine⟨fun e=>?_,fun e=>by omega⟩;unfold fA at hp;simp only[Bool.and_eq_true,decide_eq_true_eq]at hp;omega
      |k+2=>
       have :=fE l k c qK3;exact qZf
    · next hp=>
      rw[if_neg hp]
      match k with
      |0=>
       simp at h;subst h;exact⟨fun e=>by simp[uU,pM,yO]at e,fun e=>by simp[uU,pM,yO]at e⟩
      |k+1=>
       have :=fE (e::l) k c qK3;exact qZf
theorem CrO.more{w:World}{base g cap:Nat}{l:List Cl}(h:CrO w base g cap l){i:Nat}(hi:i<l.length)(m:ByteArray):
 CrO (w.setCell ⟨g,i*8+1,none⟩ (.string m)) base g cap (l.modify i (yV m)):=by
 have h1:=cR h (i*8+1) (.string m);have hc:l[i]? =some l[i]:=jD hi;rw[cT vF l i l[i] (yV m l[i]) 1 (.string m) hc qZ rfl]at h1;unfold CrO;rw[List.length_modify,show l.modify i (yV m)=l.set i (yV m l[i])from by
  haveI:Inhabited Cl:=⟨Ys⟩;rw[List.modify_eq_set];simp[hc]]
 exact h1
theorem Jn(r:Int):(cV r).size≤32:=by
 unfold cV
 split
 · split
   · exact(by decide:1≤32)
   split
   · exact(by decide:2≤32)
   split
   · exact(by decide:3≤32)
   · exact(by decide:4≤32)
 · exact kT _
theorem CrO.holdMore{w:World}{base g cap:Nat}{l:List Cl}(h:CrO w base g cap l){i:Nat}{c:Cl}(hc:l[i]? =some c):w.cell? ⟨g,i*8+1,none⟩=some (.string c.more)∧w.frozen? ⟨g,i*8+1,none⟩=false:=
 pC h (i:=i*8+1) (by rw[bS vF l i c 1 hc qZ];rfl)
theorem CrO.len{w:World}{base g cap:Nat}{l:List Cl}{n:Nat}(h:CrO w base g cap l)(hn:l.length=n):w.ownsRow base 154 8 (.slice (some ⟨g,0,none⟩) n cap) n (uS kX l):=by subst hn;exact h
set_option maxHeartbeats 3200000 in
theorem Wk(base g cap:Nat)(o:List Cl)(bx br:Nat)(x r:Int)(w:World)(h:CrO w base g cap o)(hz:o.length≤10000)(hx:w.cell? ⟨bx,0,none⟩=some (.int .i64 x))(hr:w.cell? ⟨br,0,none⟩=some (.int .i32 r))(hb1:bx<base)(hb2:br<base)
 (hM:∀c∈o,c.more.size≤32) (hH:∀(k:Nat) (c:Cl),o[k]? =some c→(c.half=1→k+1<o.length)∧(c.half=2→1≤k)):
 Calls jG 281 #[.slice (some ⟨g,0,none⟩) o.length cap,.pointer (some ⟨bx,0,none⟩),.pointer (some ⟨br,0,none⟩)] w (dM base g cap (eV o x r) w):=by
 have HW:=Hd (fun w=>tO r w);have HU:=Hd (fun w=>K8 r w);have H:=Hd h;have hgb:=h.lt;have HX:=Hd hx;have HR:=Hd hr
 by_cases hx0:x<0
 · have HV:=Hd (show eV o x r=o from by
    unfold eV
    split
    · rfl
    · rw[if_pos (Or.inl hx0)])
   clear h hH hM
   go_enter Tryz.func281,Tryz.ntmps281
   go_wp2
   go_end0
   rw[HV.o];exact H.o.mend_post
 obtain⟨k,rfl⟩:∃k:Nat,x=(k:Int):=⟨x.toNat,by omega⟩
 by_cases hxl:(o.length:Int)≤(k:Int)
 · have HV:=Hd (show eV o k r=o from by unfold eV;rw[uJ,kI qJ]);clear h hH hM
   go_enter Tryz.func281,Tryz.ntmps281
   go_wp2
   go_end0
   rw[HV.o];exact H.o.mend_post
 have hkl:k<o.length:=by omega
 have hklI:(k:Int)<(o.length:Int):=by omega
 obtain⟨c,hc⟩:∃c,o[k]? =some c:=⟨o[k],jD hkl⟩;have HRG:=Hd (h.range hc);have q0:w.cell? ⟨g,k*8,none⟩=some (.int .i32 c.r):=HRG.o 0 _ rfl;have HV0:Hid (eV o k r=if(k:Int)<0∨c.r=0∨pR r≠0∨32<(c.more++cV r).size then o else(if c.half=1 then o.modify (k+1) (yV (c.more++cV r))else if c.half=2 then o.modify (k-1) (yV (c.more++cV r))else o).modify k (yV (c.more++cV r))):=Hd (by unfold eV;rw[uJ,hc]);have HH:=Hd (hH k c hc);have hm32:c.more.size≤32:=hM c (uW hc);have hp32:(cV r).size≤32:=Jn r;generalize eV o k r=RES at HV0;have HC:=Hd hc;clear hH hM h hc
 by_cases hr0:c.r=0
 · have hr0b:(c.r==0)=true:=beq_iff_eq.2 hr0
   go_enter Tryz.func281,Tryz.ntmps281
   go_wp2
   go_end0
   rw[HV0.o,if_pos (.inr (.inl hr0))];exact H.o.mend_post
 have hr0b:(c.r==0)=false:=zb hr0;have HC0:=Hd hr0;generalize hwd:pR r=wd at HW HV0
 by_cases hw0:wd=0
 rotate_left
 · have hw0b:(wd==0)=false:=zb hw0;clear hwd
   go_enter Tryz.func281,Tryz.ntmps281
   go_wp2_with(go_at_call 170;refine(HW.o _).mono ?_;rintro e w1 ⟨rfl,hb⟩;have HB:=Hd hb;clear hb)
   go_end0
   rw[HV0.o,if_pos (.inr (.inr (.inl hw0)))];exact qZd
 subst hw0;clear hwd;generalize cV r=pr at HU HV0 hp32;obtain⟨m,hm⟩:∃m,c.more++pr=m:=⟨_,rfl⟩;rw[hm]at HV0;have hsz:¬9223372036854775807<c.more.size+pr.size:=by omega
 clear hm32 hp32
 go_enter Tryz.func281,Tryz.ntmps281
 go_upto_region 1 with(go_at_call 170;refine(HW.o _).mono ?_;rintro e w1 ⟨rfl,hb⟩;have HB:=Hd hb;have x1:=jA hb HX.o;have r1:=jA hb HR.o;have m1:w1.cell? ⟨g,k*8+1,none⟩=some (.string c.more):=pS HRG.o hb 1 _ rfl;clear hx hr hb q0)
 clear hx0 hxl hr0 hr0b;refine zU3 8 x1 r1 m1 ?_
 repeat first|refine zS ?_|refine zD 282 #[.int .i32 r] (.string pr) (fun w' hS=>(HU.o w').mono (fun e w'' h=>⟨h.1,jN hS.1 h.2,jA h.2 hS.2.1,jA h.2 hS.2.2.1,jA h.2 hS.2.2.2⟩)) ?_|refine zV ?_
 refine kU (fun w' hS=>?_);have HB2:=Hd (jN HB.o hS.1);have x2:=hS.2.1;have h2:w'.cell? ⟨g,k*8+2,none⟩=some (.int .i64 c.half):=pS HRG.o HB2.o 2 _ rfl;clear hS x1 r1 m1;have HO:=Hd (H.o.below HB2.o);clear HRG H;have HM:=Hd hm;have wv:=Mod.of_below (X:=[g]) HB2.o;have HMB:=Hd wv;clear wv hm
 by_cases hbig:32<m.size
 · have hbI:(32:Int)<(m.size:Int):=by omega
   go_wp2
   go_end0
   rw[HV0.o,if_pos (.inr (.inr (.inr hbig)))];exact⟨rfl,HO.o,HMB.o⟩
 have hbI:¬(32:Int)<(m.size:Int):=by omega
 have HNB:=Hd hbig;clear hbig hsz;obtain⟨km,hkm⟩:=HO.o.holdMore (i:=k) (c:=c) HC.o
 by_cases h1:c.half=1
 · have hj1:=HH.o.1 h1;obtain⟨j,hj⟩:∃j:Nat,j=k+1:=⟨_,rfl⟩;have HJ:=Hd hj;have hjI:(k:Int)+1=(j:Int):=by omega
   have hwj:jP.wrap (j:Int)=(j:Int):=jH _ qJ;have hjl:(j:Int)<(o.length:Int):=by omega
   have hjN:j<o.length:=by omega
   obtain⟨d,hd⟩:∃d,o[j]? =some d:=⟨o[j],jD hjN⟩;obtain⟨dm,hdm⟩:=HO.o.holdMore hd;have h1b:(c.half==1)=true:=beq_iff_eq.2 h1;clear hd hj km hkm;rw[h1]at h2
   go_upto_region 8 with fail
   have HO2:=Hd (HO.o.more hjN m);have HM2:=Hd (HMB.o.setCell (a:=⟨g,j*8+1,none⟩) (.inl qV) (.string m));have X2:=Hd (HM2.o.cell qW HX.o);have HC2:Hid ((o.modify j (yV m))[k]? =some c):=Hd qKt;generalize uQ _ _ _=W2 at HO2 HM2 X2 ⊢;obtain⟨em,hem⟩:=HO2.o.holdMore HC2.o;have x3:=X2.o;clear x2 h2 dm hdm
   go_wp2
   go_end0
   rw[HV0.o,if_neg qK6,if_pos h1,←HJ.o];exact qZg
 have h1b:(c.half==1)=false:=zb h1
 by_cases h22:c.half=2
 · have hj1:=HH.o.2 h22;obtain⟨j,hj⟩:∃j:Nat,j=k-1:=⟨_,rfl⟩;have HJ:=Hd hj;have hjI:(k:Int)-1=(j:Int):=by omega
   have hjS:k-1=j:=hj.symm;have hwj:jP.wrap (j:Int)=(j:Int):=jH _ qJ;have hjl:(j:Int)<(o.length:Int):=by omega
   have hjN:j<o.length:=by omega
   obtain⟨d,hd⟩:∃d,o[j]? =some d:=⟨o[j],jD hjN⟩;obtain⟨dm,hdm⟩:=HO.o.holdMore hd;have h2b:(c.half==2)=true:=beq_iff_eq.2 h22;clear hd hj km hkm;rw[h22]at h2
   go_upto_region 8 with fail
   have HO2:=Hd (HO.o.more hjN m);have HM2:=Hd (HMB.o.setCell (a:=⟨g,j*8+1,none⟩) (.inl qV) (.string m));have X2:=Hd (HM2.o.cell qW HX.o);have HC2:Hid ((o.modify j (yV m))[k]? =some c):=Hd qKt;generalize uQ _ _ _=W2 at HO2 HM2 X2 ⊢;obtain⟨em,hem⟩:=HO2.o.holdMore HC2.o;have x3:=X2.o;clear x2 h2 dm hdm
   go_wp2
   go_end0
   rw[HV0.o,if_neg qK6,if_neg h1,if_pos h22,←HJ.o];exact qZg
 have h2b:(c.half==2)=false:=zb h22
 go_wp2
 go_end0
 rw[HV0.o,if_neg qK6,if_neg h1,if_neg h22];exact⟨rfl,HO.o.more hkl m,HMB.o.setCell (a:=⟨g,k*8+1,none⟩) (.inl qV) (.string m)⟩
def zN(l:List Cl):Prop:=∀c∈l,c.more.size≤32
theorem Qe(c:Cl):(uU c).more.size≤32:=kT _
theorem zN.mend:∀{l:List Cl},zN l→zN (uX l)
 |[],h=>h
 |[c],h=>by
  rw[mG]
  split
  · exact h
  · intro d hd;rw[jR.1 hd];exact Qe c
 |c::d::l,h=>by
  rw[nK];have hc:=h c qV;have hd:=h d qV;have h1:zN (d::l):=fun x hx=>h x (by simp[kW.1 hx]);have h2:zN l:=fun x hx=>h x qZa;have i1:=zN.mend h1;have i2:=zN.mend h2
  split
  · intro x hx;rcases kW.1 hx with rfl|hx
    · exact hc
    · exact i1 x hx
  split
  · intro x hx;rcases kW.1 hx with rfl|hx
    · exact hc
    rcases kW.1 hx with rfl|hx
    · exact hd
    · exact i2 x hx
  · intro x hx;rcases kW.1 hx with rfl|hx
    · exact Qe c
    · exact i1 x hx
theorem zN.set{l:List Cl}(h:zN l)(i:Nat){c:Cl}(hc:c.more.size≤32):zN (l.set i c):=fun x hx=>by
 rcases List.mem_or_eq_of_mem_set hx with hx|rfl
 · exact h x hx
 · exact hc
theorem zN.append{l m:List Cl}(h:zN l)(h2:zN m):zN (l++m):=fun x hx=>by
 rcases kL.1 hx with hx|hx
 · exact h x hx
 · exact h2 x hx
theorem zN.take{l:List Cl}(h:zN l)(n:Nat):zN (l.take n):=fun x hx=>h x (List.mem_of_mem_take hx)
theorem zN.drop{l:List Cl}(h:zN l)(n:Nat):zN (l.drop n):=fun x hx=>h x (List.mem_of_mem_drop hx)
theorem Qd(n:Nat)(b:Col):zN (kJ n (vD b)):=fun x hx=>by rw[(List.mem_replicate.1 hx).2];exact kT _
theorem zN.wipe{l:List Cl}(h:zN l)(off n:Nat)(b:Col):zN (fQ l off n b):=((h.take _).append (Qd _ _)).append (h.drop _)
theorem zN.put{l:List Cl}(h:zN l)(x r:Int)(a:Atr):zN (dS l x r a):=by
 rw[←Xs];refine zN.mend ?_;unfold aZ;have hz:∀hf,(yO r kD hf a).more.size≤32:=fun _=>kT _
 split
 · exact h.mend.set _ (hz _)
 split
 · exact(h.mend.set _ (hz _)).set _ (hz _)
 · exact h.mend
theorem zN.close{l:List Cl}(h:zN l):zN (cH l):=(h.mend.set _ (show wH.more.size≤32 from kT _)).mend
theorem zN.erase{l:List Cl}(h:zN l)(x y:Int)(b:Col):zN (pG l x y b):=by
 unfold pG;rw[Kv];unfold nY
 split
 · exact(h.mend.wipe _ _ _).mend
 · exact h.mend.mend
theorem zN.insert{l:List Cl}(h:zN l)(x n:Int)(b:Col):zN (pU l x n b):=by
 rw[←KU];refine zN.mend ?_;unfold fR
 split
 · exact h.mend
 · exact((h.mend.take _).append ((h.mend.drop _).take _)).wipe _ _ _
theorem zN.delete{l:List Cl}(h:zN l)(x n:Int)(b:Col):zN (yC l x n b):=by
 rw[←KD];refine zN.mend ?_;unfold fS
 split
 · exact h.mend
 · exact(((h.mend.take _).append (h.mend.drop _)).append (h.mend.drop _)).wipe _ _ _
theorem ZA{α:Type}{f:α→α}{y:α}{l:List α}{i:Nat}(h:y∈l.modify i f):y∈l∨∃x,y=f x:=by
 rcases sX h with h|⟨x,-,e⟩
 · exact .inl h
 · exact .inr ⟨x,e⟩
theorem zN.mod{l:List Cl}(h:zN l)(i:Nat){m:ByteArray}(hm:m.size≤32):zN (l.modify i (yV m)):=fun x hx=>by
 rcases ZA hx with hx|⟨y,rfl⟩
 · exact h x hx
 · exact hm
theorem zN.mark{l:List Cl}(h:zN l)(x r:Int):zN (fK l x r):=by
 rw[←VV];refine zN.mend ?_;unfold eV
 split
 · exact h.mend
 · split
   · exact h.mend
   · next hc=>
     have hm:=Nat.not_lt.1 (fun hh=>hc (.inr (.inr (.inr hh))));simp only[];refine zN.mod ?_ _ hm
     split
     · exact h.mend.mod _ hm
     split
     · exact h.mend.mod _ hm
     · exact h.mend
set_option maxHeartbeats 3200000 in
theorem Q6(A:Option Addr)(l:List Cl)(ca:Nat)(x r:Int)(w:World)(hl:pA kX 8 w A l)(h0:0<l.length)(hz:l.length≤10000)(hf:zN l):
 Calls jG 243 #[.slice A l.length ca,.int .i64 x,.int .i32 r] w (pK (fK l x r) w):=by
 have hb0:Below w.heap.size w ((w.alloc (.cells #[.int .i64 x] 3)).alloc (.cells #[.int .i32 r] 21)):=jW (jW (jU w.heap.size w) _) _;have hp0:((w.alloc (.cells #[.int .i64 x] 3)).alloc (.cells #[.int .i32 r] 21)).heap[w.heap.size]? =some (.cells #[.int .i64 x] 3 (0,0)):=uI (kZ rfl);have hp1:((w.alloc (.cells #[.int .i64 x] 3)).alloc (.cells #[.int .i32 r] 21)).heap[w.heap.size+1]? =some (.cells #[.int .i32 r] 21 (0,0)):=kZ qV;have HB0:=Hd hb0;have HW:=Hd (iL A l ca 281 #[.pointer (some ⟨w.heap.size,0,none⟩),.pointer (some ⟨w.heap.size+1,0,none⟩)] (fun o=>eV o x r) ((w.alloc (.cells #[.int .i64 x] 3)).alloc (.cells #[.int .i32 r] 21)) (hl.below hb0) h0 hz (by rw[WO,kR]) (fun args w=>by kernel_rfl) (fun g cap w' hc hb=>by
  have :=Wk _ g cap (uX l) _ _ x r w' hc qKw (jA hb (vM hp0 0 _ rfl)) (jA hb (vM hp1 0 _ rfl)) qJ6 qJ6 hf.mend (fun k c hk=>fE l k c hk)
  rwa[kR]at this))
 have HL:=Hd (VV l x r);rw[HL.o]at HW;clear hl hb0 hp0 hp1
 go_enter Tryz.func243,Tryz.ntmps243
 go_wp2_with(go_at_call 228;refine HW.o.mono ?_;intro e w1 hp;obtain⟨g,cap,rfl,hc,hb⟩:=pK.rebase HB0.o hp;have HC:=Hd hc;clear hc hp)
 go_ret
 exact qZe
end Go.Proofs.YtjcpdcncfjkejaaGreatDoor
