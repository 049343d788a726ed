/- Joined by a tool of this claim out of smaller texts. Conditions: as stated. -/
import Derived.Test.YtaefcahblmopfaaGreatDoorDj08
set_option linter.unusedVariables false
set_option linter.unusedSimpArgs false
set_option maxRecDepth 100000
open Go.Lib renaming hid → Hd
open List renaming setIfInBounds_toArray → jZ, set_cons_zero → jX, set_cons_succ → jY, getElem?_eq_getElem → jN, getElem?_eq_some_iff → jP, mem_cons → kJ, mem_append → kU, length_set → uV, getElem?_map → uX, mem_of_getElem? → uB, ext_getElem? → gM, getElem?_drop → gN
open Go.Proofs.Tryz renaming prog → jG
open Go.RowKit.Below renaming refl → jU
open Nat renaming le_refl → jD, le_trans → jI, zero_add → kP, add_zero → uA
open Option renaming mem_toList → jA
open And renaming intro → kY
open Array renaming getElem?_eq_some_iff → kB
open Int renaming toNat_natCast → vV
namespace Go.RL
open Go
section
variable {P:Program}{ops:Array Oper}{md:Region.Mode}{I:World→Prop}
def upL(P:Program)(n:Nat)(dst:Option Tmp)(V:Value→World→Prop):Result Next→Prop
 | .ok (.value u) w'=>∃v,pL n dst u v∧V v w'
 | .ok .skip w'=>∃v,pL n dst undef v∧V v w'
 | .ok (.enter f args) w'=>Calls P f args w' fun e w''=>match e with
    | .returned u=>∃v,pL n dst u v∧V v w''
    |_=>False
 | .ok (.row row args) w'=>Rows P row args w' fun u w''=>∃v,pL n dst u v∧V v w''
 |_=>False
def StabL(P:Program)(ops:Array Oper)(S:World→Prop)(o:Oper)(V:Value→World→Prop)(a:Act):Prop:=
 (Region.wanted o (yielded ops a.tmps)=true∧∀w,S w→upL P a.tmps.size o.dst V ((execOp a.eval o).run P w))∨
 (Region.wanted o (yielded ops a.tmps)=false∧∀w,S w→V undef w)
theorem StabL.of_same{S:World→Prop}{o:Oper}{V:Value→World→Prop}{a a':Act}(hy:StabL P ops S o V a)(he:execOp a'.eval o=execOp a.eval o)
 (hw:Region.wanted o (yielded ops a'.tmps)=Region.wanted o (yielded ops a.tmps)) (hs:a'.tmps.size=a.tmps.size):StabL P ops S o V a':=by
 unfold StabL at *;rw[he,hw,hs];exact hy
theorem StabL.wpOp{S:World→Prop}{Q:Exit→Act→World→Prop}{i:Nat}{o:Oper}{V:Value→World→Prop}{a:Act}(hi:ops[i]? =some o)(hy:StabL P ops S o V a)
 {K:Act→World→Prop} {w:World} (hS:S w) (h:∀v w',V v w'→K (a.put o.dst v) w'):wpOp P ops Q i K a w:=by
 unfold Go.wpOp;simp only[hi];rcases hy with⟨hw,hv⟩|⟨hw,hv⟩
 · simp only[hw,if_true,Oper.wp];refine .inl ?_;have hv:=hv w hS;generalize (execOp a.eval o).run P w=r at *;cases r with
   |ok n w'=>
    cases n<;>simp only[upL,Oper.upon]at hv ⊢
    case value u=>obtain⟨v,h1,h2⟩:=hv;rw[h1 a rfl];exact h _ _ h2
    case skip=>obtain⟨v,h1,h2⟩:=hv;rw[h1 a rfl];exact h _ _ h2
    case enter f args=>
     refine Calls.mono hv fun e w'' he=>?_;cases e with
     |returned u=>obtain⟨v,h1,h2⟩:=he;simp only;rw[h1 a rfl];exact h _ _ h2
     |panicked c=>exact he.elim
     |outgrown=>exact he.elim
    case row row args=>exact Rows.mono hv fun u w'' he=>(by obtain⟨v,h1,h2⟩:=he;rw[h1 a rfl];exact h _ _ h2)
   |halt x w'=>exact hv.elim
 · simp only[hw,Bool.false_eq_true,if_false];exact h _ _ (hv w hS)
def Pure(P:Program)(ops:Array Oper)(I:World→Prop)(o:Oper)(v:Value)(a:Act):Prop:=
 (Region.wanted o (yielded ops a.tmps)=true∧∀w,I w→(execOp a.eval o).run P w=.ok (.value v) w)∨
 (Region.wanted o (yielded ops a.tmps)=false∧v=undef)
theorem Pure.of_same{o:Oper}{v:Value}{a a':Act}(hy:Pure P ops I o v a)(he:execOp a'.eval o=execOp a.eval o)
 (hw:Region.wanted o (yielded ops a'.tmps)=Region.wanted o (yielded ops a.tmps)):Pure P ops I o v a':=by
 unfold Pure at *;rw[he,hw];exact hy
theorem Pure.stab{o:Oper}{v:Value}{a:Act}(hy:Pure P ops I o v a)(S:World→Prop):StabL P ops (fun w=>I w∧S w) o (fun u w=>u=v∧I w∧S w) a:=by
 rcases hy with⟨hw,hv⟩|⟨hw,rfl⟩
 · exact .inl ⟨hw,fun w hS=>by rw[hv w hS.1];exact⟨v,pL.rfl',rfl,hS⟩⟩
 · exact .inr ⟨hw,fun w hS=>⟨rfl,hS⟩⟩
def xS(P:Program)(md:Region.Mode)(ops:Array Oper)(I:World→Prop)(n:Nat)(L:Array Bool→Act→(World→Prop)→Prop):Nat→Array Bool→Act→(World→Prop)→Prop
 |0,listed,a,S=>L listed a S
 |f+1,listed,a,S=>
  Region.ready md ops listed≠[]∧∀i∈Region.ready md ops listed,i<n∧∃(o:Oper) (A:Value→Prop) (T:Value→World→Prop),ops[i]? =some o∧StabL P ops (fun w=>I w∧S w) o (fun v w=>A v∧I w∧T v w) a∧
   ∀v,A v→xS P md ops I n L f (listed.setIfInBounds i true) (a.put o.dst v) (T v)
theorem lE{n g:Nat}{L:Array Bool→Act→(World→Prop)→Prop}{Q':Exit→Act→World→Prop}(hL:∀listed a S,L listed a S→∀w,I w→S w→wpAny P md ops Q' g listed a w):
 ∀(f:Nat) (listed:Array Bool) (a:Act) (S:World→Prop),xS P md ops I n L f listed a S→∀w,I w→S w→wpAny P md ops Q' (f+g) listed a w
 |0,listed,a,S,h,w,hI,hS=>by rw[kP];exact hL _ _ _ h w hI hS
 |f+1,listed,a,S,h,w,hI,hS=>by
  rw[show f+1+g=(f+g)+1 by omega];refine⟨fun h0=>absurd h0 h.1,fun i hi=>?_⟩;obtain⟨_,o,A,T,ho,hy,hr⟩:=h.2 i hi;exact hy.wpOp ho (kY hI hS) (fun v w' hv=>lE hL f _ _ _ (hr v hv.1) w' hv.2.1 hv.2.2)
theorem oM{n i:Nat}{oi:Oper}{v:Value}{L:Array Bool→Act→(World→Prop)→Prop}(hi:ops[i]? =some oi)(hsel:∀(j:Nat) (o:Oper) cs b,ops[j]? =some o→o.op≠ .select cs b)
 (hs:Region.sinkB md ops n=true) (hc:Region.chainB md ops n=true) (hn:n<ops.size) (hin:i<n)
 (hdone:∀listed a S,L listed a S→∀j∈Region.ready md ops listed,n≤j):
 ∀(f:Nat) (listed:Array Bool) (a:Act) (S:World→Prop),HeadInv md ops n listed→
  (∀j oj,ops[j]? =some oj→j≠i→listed.getD j true=false→(∀e∈oj.after,Region.binds md e=true→e.on≠i)→oi.apart ops oj=true)→
  i∈Region.ready md ops listed→Pure P ops I oi v a→
  xS P md ops I n L f (listed.setIfInBounds i true) (a.put oi.dst v) S→xS P md ops I n L (f+1) listed a S:=by
 intro f
 induction f with
 |zero=>
  intro listed a S inv _ hr hy H;have hun:=(mem_ready.1 hr).1;refine⟨fun h=>qZg,fun j hj=>?_⟩;have hjn:j<n:=by
   rcases Nat.lt_or_ge j n with h|h
   · exact h
   · exact qXd
  refine⟨hjn,?_⟩
  by_cases hji:j=i
  · subst hji;exact⟨oi,(· =v),fun _=>S,hi,hy.stab S,fun u hu=>by subst hu;exact H⟩
  · have :=hdone _ _ _ H j (ready_mono hj hji);omega
 |succ f ih=>
  intro listed a S inv hfree hr hy H;have hun:=(mem_ready.1 hr).1;refine⟨fun h=>qZg,fun j hj=>?_⟩;have hjn:j<n:=by
   rcases Nat.lt_or_ge j n with h|h
   · exact h
   · exact qXd
  refine⟨hjn,?_⟩
  by_cases hji:j=i
  · subst hji;exact⟨oi,(· =v),fun _=>S,hi,hy.stab S,fun u hu=>by subst hu;exact H⟩
  · obtain⟨_,oj',A,T,hoj',hyj,Hj⟩:=H.2 j (ready_mono hj hji);obtain⟨hjun,oj,hoj,hall⟩:=mem_ready.1 hj;obtain rfl:oj'=oj:=Option.some.inj (hoj'.symm.trans hoj);have hnot:∀e∈oj'.after,Region.binds md e=true→e.on≠i:=fun e he hb heq=>by
     have h1:=hall e he hb;rw[heq,getD_both hun]at h1;cases h1
    obtain⟨h1,h2,h3⟩:=Oper.apart_spec (hfree j oj' hoj hji hjun hnot);have hsi:=fun cs b=>hsel i oi cs b hi;have hsj:=fun cs b=>hsel j oj' cs b hoj;have hyj':=hyj.of_same (execOp_put oj' hsj a oi.dst v h1).symm (wanted_put oj' a oi.dst v h1).symm (Act.put_size _ _ _).symm;have hfree':∀k ok,ops[k]? =some ok→k≠i→(listed.setIfInBounds j true).getD k true=false→
     (∀e∈ok.after,Region.binds md e=true→e.on≠i)→oi.apart ops ok=true:=fun k ok hk hki hun hno=>by
     refine hfree k ok hk hki ?_ hno
     by_cases hjk:j=k
     · subst hjk;exact hjun
     · rw[getD_set_ne true hjk]at hun;exact hun
    refine⟨oj',A,T,hoj,hyj',fun u hu=>?_⟩;have hyi':Pure P ops I oi v (a.put oj'.dst u):=hy.of_same (execOp_put oi hsi a oj'.dst u h3) (wanted_put oi a oj'.dst u h3);refine ih (listed.setIfInBounds j true) _ _ (inv.set hj hjn) hfree' (ready_mono hr (Ne.symm hji)) hyi' ?_;rw[Array.setIfInBounds_comm _ _ hji,←Act.put_comm a v u h2];exact Hj u hu
def tailL(P:Program)(ops:Array Oper)(I:World→Prop)(Q:Exit→Act→World→Prop)(n:Nat):Array Bool→Act→(World→Prop)→Prop:=fun listed a S=>
 Region.seqB .any ops (ops.size-n) n listed=true∧∀w,I w→S w→wpList P ops Q (ops.toList.drop n) a w
structure AtL(P:Program)(ops:Array Oper)(I:World→Prop)(Q:Exit→Act→World→Prop)(n:Nat)(f:Nat)(listed:Array Bool)(a:Act)(S:World→Prop):Prop where
 h:HeadInv .any ops n listed→xS P .any ops I n (tailL P ops I Q n) f listed a S
variable {Q:Exit→Act→World→Prop}{S:World→Prop}{a:Act}{listed:Array Bool}{n f:Nat}
def Region.tailB(ops:Array Oper)(n:Nat):Bool:=Region.noSelect ops&&decide (n<ops.size)&&Region.sinkB .any ops n&&Region.chainB .any ops n
theorem AtL.take(i:Nat){o:Oper}{v:Value}(hB:RL.Region.tailB ops n=true)(hi:ops[i]? =some o)(hin:(i<n)=True)(hf:Region.free .any ops listed i=true)(hr:(Region.ready .any ops listed).contains i=true)
 (hy:Pure P ops I o v a) (h:AtL P ops I Q n f (listed.setIfInBounds i true) (a.put o.dst v) S):AtL P ops I Q n (f+1) listed a S:=⟨fun inv=>by
 simp only[RL.Region.tailB,Bool.and_eq_true,decide_eq_true_eq]at hB;obtain⟨⟨⟨hsel,hn⟩,hs⟩,hc⟩:=hB;have hr':i∈Region.ready .any ops listed:=by simpa using hr
 have hin':i<n:=by rw[hin];trivial
 exact oM hi (Region.noSelect_spec hsel) hs hc hn hin' (fun listed a S hL=>seqB_ready hL.1) f listed a S inv (Region.free_spec hi hf) hr' hy (h.h (inv.set hr' hin'))⟩
def AtK(c:Nat)(P:Program)(ops:Array Oper)(I:World→Prop)(Q:Exit→Act→World→Prop)(n:Nat)(f:Nat)(listed:Array Bool)(a:Act)(S:World→Prop):Prop:=c≤c∧AtL P ops I Q n f listed a S
theorem AtL.go(c:Nat)(h:AtK c P ops I Q n f listed a S):AtL P ops I Q n f listed a S:=h.2
theorem AtK.back{c:Nat}(h:AtL P ops I Q n f listed a S):AtK c P ops I Q n f listed a S:=⟨jD c,h⟩
theorem AtK.take{i:Nat}{o:Oper}{v:Value}(hB:RL.Region.tailB ops n=true)(hi:ops[i]? =some o)(hin:(i<n)=True)(hf:Region.free .any ops listed i=true)(hr:(Region.ready .any ops listed).contains i=true)
 (hy:Pure P ops I o v a) (h:AtK (i+1) P ops I Q n f (listed.setIfInBounds i true) (a.put o.dst v) S):AtK i P ops I Q n (f+1) listed a S:=⟨jD i,AtL.take i hB hi hin hf hr hy h.2⟩
theorem AtL.one(i:Nat){o:Oper}(A:Value→Prop)(T:Value→World→Prop)(hin:(i<n)=True)(hr:Region.ready .any ops listed=[i])(hi:ops[i]? =some o)
 (hy:StabL P ops (fun w=>I w∧S w) o (fun v w=>A v∧I w∧T v w) a) (h:∀v,A v→AtL P ops I Q n f (listed.setIfInBounds i true) (a.put o.dst v) (T v)):AtL P ops I Q n (f+1) listed a S:=⟨fun inv=>by
 have hin':i<n:=by rw[hin];trivial
 refine⟨by rw[hr];simp,fun j hj=>?_⟩;have hj':=hj;rw[hr]at hj;obtain rfl:j=i:=by simpa using hj
 exact⟨hin',o,A,T,hi,hy,fun v hv=>(h v hv).h (inv.set hj' hin')⟩⟩
theorem AtL.done(hB:Region.seqB .any ops (ops.size-n) n listed=true)(h:∀w,I w→S w→wpList P ops Q (ops.toList.drop n) a w):AtL P ops I Q n 0 listed a S:=⟨fun _=>⟨hB,h⟩⟩
theorem wp_region_l{id:Nat}{w:World}(n:Nat)(I S:World→Prop)(hm:P.follows .mixedOrders=true)(hB:RL.Region.tailB ops n=true)(hI:I w.drew)(hS:S w.drew)
 (h:AtL P ops I Q n n (Array.replicate ops.size false) a S):(Code.region id ops true).wp P Q a w:=by
 simp only[RL.Region.tailB,Bool.and_eq_true,decide_eq_true_eq]at hB;obtain⟨⟨⟨hsel,hn⟩,hs⟩,hc⟩:=hB;have inv0:HeadInv .any ops n (Array.replicate ops.size false):=
  ⟨by simp,fun j oj _ hl=>qZs,fun t _ ht=>getD_in (by simpa using ht) (getD_replicate_false _ _)⟩
 refine wp_region_any hm ?_;have :=lE (Q':=Q) (g:=ops.size-n) (fun listed a' S hL w' hI' hS'=>by
  have :=wpAny_of_seq (md:=.any) (Q':=Q) (ops.toList.drop n) n listed a' w' (fun j=>by simp[gN]) (by simpa using hL.1) (hL.2 w' hI' hS');simpa using this) _ _ _ _ (h.h inv0) w.drew hI hS
 rw[show n+(ops.size-n)=ops.size by omega]at this;exact this
theorem Pure.val{o:Oper}{v:Value}(hw:Region.wanted o (yielded ops a.tmps)=true)(h:∀w,I w→(execOp a.eval o).run P w=.ok (.value v) w):Pure P ops I o v a:=.inl ⟨hw,h⟩
theorem StabL.op{o:Oper}(A:Value→Prop)(T:Value→World→Prop)(hw:Region.wanted o (yielded ops a.tmps)=true)
 (h:∀w,I w→S w→∃v w',(execOp a.eval o).run P w=.ok (.value v) w'∧A v∧I w'∧T v w'):StabL P ops (fun w=>I w∧S w) o (fun v w=>A v∧I w∧T v w) a:=
 .inl ⟨hw,fun w hS=>by
  obtain⟨v,w',hr,hA,hI,hT⟩:=h w hS.1 hS.2;rw[hr];exact⟨v,pL.rfl',hA,hI,hT⟩⟩
theorem StabL.unit{o:Oper}(A:Value→Prop)(T:Value→World→Prop)(hw:Region.wanted o (yielded ops a.tmps)=true)
 (h:∀w,I w→S w→∃w',(execOp a.eval o).run P w=.ok .skip w'∧A undef∧I w'∧T undef w'):StabL P ops (fun w=>I w∧S w) o (fun v w=>A v∧I w∧T v w) a:=
 .inl ⟨hw,fun w hS=>by
  obtain⟨w',hr,hA,hI,hT⟩:=h w hS.1 hS.2;rw[hr];exact⟨undef,pL.rfl',hA,hI,hT⟩⟩
theorem StabL.call{o:Oper}(fn:FuncId)(args:Array Value)(A:Value→Prop)(T:Value→World→Prop)(hw:Region.wanted o (yielded ops a.tmps)=true)(h:∀w,(execOp a.eval o).run P w=.ok (.enter fn args) w)
 (hc:∀w,I w→S w→Calls P fn args w fun e w'=>∃v,e=.returned v∧A v∧I w'∧T v w'):StabL P ops (fun w=>I w∧S w) o (fun v w=>A v∧I w∧T v w) a:=
 .inl ⟨hw,fun w hS=>by
  rw[h w];refine(hc w hS.1 hS.2).mono fun e w' ⟨v,he,hv⟩=>?_;rw[he];exact⟨v,pL.rfl',hv⟩⟩
end
end Go.RL
namespace Go.RL
section
variable {P:Program}{ops:Array Oper}{I:World→Prop}{Q:Exit→Act→World→Prop}{S:World→Prop}{a:Act}{listed:Array Bool}{n f:Nat}
theorem AtL.two(i j:Nat){o o':Oper}(A A':Value→Prop)(T T':Value→World→Prop)(hin:(i<n)=True)(hjn:(j<n)=True)(hr:Region.ready .any ops listed=[i,j])(hi:ops[i]? =some o)(hj:ops[j]? =some o')
 (hy:StabL P ops (fun w=>I w∧S w) o (fun v w=>A v∧I w∧T v w) a) (hy':StabL P ops (fun w=>I w∧S w) o' (fun v w=>A' v∧I w∧T' v w) a)
 (h:∀v,A v→AtL P ops I Q n f (listed.setIfInBounds i true) (a.put o.dst v) (T v))
 (h':∀v,A' v→AtL P ops I Q n f (listed.setIfInBounds j true) (a.put o'.dst v) (T' v)):AtL P ops I Q n (f+1) listed a S:=⟨fun inv=>by
 have hin':i<n:=by rw[hin];trivial
 have hjn':j<n:=by rw[hjn];trivial
 refine⟨by rw[hr];simp,fun k hk=>?_⟩;have hk':=hk;rw[hr]at hk;have hk2:k=i∨k=j:=by simpa using hk
 rcases hk2 with rfl|rfl
 · exact⟨hin',o,A,T,hi,hy,fun v hv=>(h v hv).h (inv.set hk' hin')⟩
 · exact⟨hjn',o',A',T',hj,hy',fun v hv=>(h' v hv).h (inv.set hk' hjn')⟩⟩
end
end Go.RL
namespace Go.Proofs.YtaefcahblmopfaaGreatDoor
open Go.RowKit
def sA(t:Tl):List Value:=[.int .i64 t.k,.int .i64 t.a,.int .i64 t.n]
theorem Y4:∀t,∀v∈sA t,v.oneCell'=true:=fun t v hv=>by
 simp only[sA,kJ,List.not_mem_nil,or_false]at hv;rcases hv with rfl|rfl|rfl<;>rfl
structure Pv where
 P:Nat
 R:Nat
 vs:Value
 vl:Value
 vt:Value
 S:List Rh
 SL:List Rh
 first :Nat
 n:Nat
def pgX(q:Pv):List Nat:=q.P::(q.vs.ownBlock.toList++(q.vt.ownBlock.toList++gK q.R q.vl))
structure PgO(base:Nat)(w:World)(q:Pv)(g:Pg):Prop where
 blk:w.heap[q.P]? =some (.cells #[.pointer (some ⟨q.R,0,none⟩),q.vs,.int .i64 g.cols,q.vt] 175 (0,0))
 hb:base≤q.P
 ring:RgO base w q.R q.vl q.SL g.room q.first q.n (g.gone%18446744073709551616)
 own:w.ownsRow base 52 2 q.vs q.S.length (uM yG q.S)
 told:w.ownsRow base 94 3 q.vt g.told.length (uM sA g.told)
 apart:∀b,q.vs.ownBlock=some b→q.vl.ownBlock≠some b
 scr:q.S.map zU=g.scr
 hist:(pS q.SL q.first q.n).map zU=g.hist
 rows:∀r∈q.S,zZ w r∧r.cs.length=g.cols
 cols2:2≤g.cols
 cols1000:g.cols≤1000
 rows1000:q.S.length≤1000
 gone0:0≤g.gone
theorem vM{w:World}{a b:Nat}{ca cb:Array Value}{ta tb:TypeId}{fa fb:Nat×Nat}(ha:w.heap[a]? =some (.cells ca ta fa))(hb:w.heap[b]? =some (.cells cb tb fb))(ht:ta≠tb):a≠b:=by
 rintro rfl;rw[ha]at hb;injection hb with hb
 injection hb with _ h
 exact ht h
section
variable {base:Nat}{w:World}{q:Pv}{g:Pg}
theorem PgO.len(h:PgO base w q g):q.S.length=g.scr.length:=by rw[←h.scr,List.length_map]
theorem PgO.hlen(h:PgO base w q g):g.hist.length=q.n:=by rw[←h.hist,List.length_map,yC]
theorem PgO.nocel(h:PgO base w q g):yI w (pgX q):=by
 intro b hb cs f he;rcases kJ.1 hb with rfl|hb
 · exact vM h.blk he qZ rfl
 rcases kU.1 hb with hb|hb
 · obtain⟨cur,hc⟩:=uR h.own qZ1;exact vM hc he qZ rfl
 rcases kU.1 hb with hb|hb
 · obtain⟨cur,hc⟩:=uR h.told qZ1;exact vM hc he qZ rfl
 · exact h.ring.nocel b hb cs f he
theorem PgO.lt(h:PgO base w q g):∀b∈pgX q,base≤b∧b<w.heap.size:=by
 intro b hb;rcases kJ.1 hb with rfl|hb
 · exact⟨h.hb,(kB.1 h.blk).1⟩
 rcases kU.1 hb with hb|hb
 · exact h.own.lt b qZ1
 rcases kU.1 hb with hb|hb
 · exact h.told.lt b qZ1
 · exact h.ring.lt b hb
theorem PgO.mod{X:List Nat}{w':World}(h:PgO base w q g)(hm:Mod X w w')(hX:yI w X)(hd:∀b∈pgX q,b∉X):PgO base w' q g:=
 ⟨(hm.block q.P (kB.1 h.blk).1 (hd q.P qZz)).trans h.blk,h.hb,h.ring.mod hm hX (fun b hb=>hd b (by simp[pgX,hb])),kD h.own hm (fun b hb=>hd b (by simp[pgX,hb])),kD h.told hm (fun b hb=>hd b (by simp[pgX,hb])),
   h.apart,h.scr,h.hist,fun r hr=>⟨(h.rows r hr).1.mod hm hX,(h.rows r hr).2⟩,h.cols2,h.cols1000,h.rows1000,h.gone0⟩
theorem PgO.below{w':World}(h:PgO base w q g)(hb:Below w.heap.size w w'):PgO base w' q g:=h.mod (Mod.of_below (X:=[]) hb) (yI.nil w) (fun _ _ h=>by cases h)
def pV(base:Nat)(w:World)(q:Pv)(g':Pg)(w':World):Prop:=
 ∃q',q'.P=q.P∧q'.R=q.R∧PgO base w' q' g'∧Mod (pgX q) w w'∧∀b∈pgX q',b∈pgX q∨w.heap.size≤b
def pJ(base:Nat)(w:World)(q:Pv)(g':Pg)(e:Ending)(w':World):Prop:=e=.returned (.tuple #[])∧pV base w q g' w'
theorem PgO.res(h:PgO base w q g):pV base w q g w:=⟨q,rfl,rfl,h,Mod.refl _ _,fun b hb=>.inl hb⟩
theorem pV.trans{w1 w2:World}{q1:Pv}{g2:Pg}(h1:q1.P=q.P∧q1.R=q.R∧Mod (pgX q) w w1∧∀b∈pgX q1,b∈pgX q∨w.heap.size≤b)(h2:pV base w1 q1 g2 w2):pV base w q g2 w2:=by
 obtain⟨e1,e2,hm,hx⟩:=h1;obtain⟨q2,a1,a2,a3,a4,a5⟩:=h2;refine⟨q2,a1.trans e1,a2.trans e2,a3,hm.trans a4 hx,fun b hb=>?_⟩;rcases a5 b hb with h|h
 · exact hx b h
 · exact qXj
theorem pV.pre{w1 w2:World}{g2:Pg}(hb:Below w.heap.size w w1)(h2:pV base w1 q g2 w2):pV base w q g2 w2:=pV.trans ⟨rfl,rfl,Mod.of_below hb,fun b hb=>.inl hb⟩ h2
theorem pV.post{w1 w2:World}{g2:Pg}(h:pV base w q g2 w1)(hb:Below w1.heap.size w1 w2):pV base w q g2 w2:=by
 obtain⟨q',a1,a2,a3,a4,a5⟩:=h;exact⟨q',a1,a2,a3.below hb,a4.then_below hb,a5⟩
theorem PgO.cells(h:PgO base w q g):(w.cell? ⟨q.P,0,none⟩=some (.pointer (some ⟨q.R,0,none⟩))∧w.frozen? ⟨q.P,0,none⟩=false)∧(w.cell? ⟨q.P,1,none⟩=some q.vs∧w.frozen? ⟨q.P,1,none⟩=false)∧(w.cell? ⟨q.P,2,none⟩=some (.int .i64 g.cols)∧w.frozen? ⟨q.P,2,none⟩=false)∧w.cell? ⟨q.P,3,none⟩=some q.vt∧w.frozen? ⟨q.P,3,none⟩=false:=
 ⟨at_ h.blk 0 _ rfl,at_ h.blk 1 _ rfl,at_ h.blk 2 _ rfl,at_ h.blk 3 _ rfl⟩
theorem PgO.screen{w':World}{S':List Rh}{scr':List Ro}(h:PgO base w q g)(hl:S'.length=q.S.length)(ho:w'.ownsRow base 52 2 q.vs S'.length (uM yG S'))(hm:Mod q.vs.ownBlock.toList w w')(hs:S'.map zU=scr')(hr:∀r∈S',zZ w' r∧r.cs.length=g.cols):
 pV base w q {g with scr:=scr'} w':=by
 have hX:yI w q.vs.ownBlock.toList:=fun b hb cs f he=>h.nocel b (by simp[pgX,(jA.1 hb)]) cs f he;have hvs:∀b,q.vs.ownBlock=some b→∃cur:Array Value,w.heap[b]? =some (.cells cur 52 (0,0)):=fun b hb=>uR h.own hb;refine⟨{q with S:=S'},rfl,rfl,⟨(hm.block q.P (kB.1 h.blk).1 (fun hb=>?_)).trans h.blk,h.hb,h.ring.mod hm hX (fun b hb hbX=>?_),ho,kD h.told hm (fun b hb hbX=>?_),h.apart,hs,h.hist,hr,h.cols2,h.cols1000,by show S'.length≤1000;rw[hl];exact h.rows1000,h.gone0⟩,hm.mono (fun b hb=>by simp[pgX,(jA.1 hb)]),fun b hb=>.inl hb⟩
 · obtain⟨cur,hc⟩:=hvs _ (jA.1 hb);exact qXn
 · rcases kJ.1 hb with rfl|hb
   · obtain⟨cur,hc⟩:=hvs _ (jA.1 hbX);exact vM h.ring.blk hc qZ rfl
   · exact h.apart b (jA.1 hbX) (jA.1 hb)
 · obtain⟨cur,hc⟩:=hvs _ (jA.1 hbX);obtain⟨cur2,hc2⟩:=uR h.told hb;exact vM hc2 hc qZ rfl
end
section
variable {base:Nat}{w:World}{q:Pv}{g:Pg}
theorem PgO.vform(h:PgO base w q g):∃A c,q.vs=.slice A q.S.length c:=uT h.own
theorem tD(h:PgO base w q g):Calls jG 145 #[.pointer (some ⟨q.P,0,none⟩)] w fun e w'=>e=.returned (.int .i64 g.scr.length)∧w=w':=by
 obtain⟨A,c,hv⟩:=h.vform;have hl:=h.len;obtain⟨-,⟨x1,-⟩,-,-⟩:=h.cells;rw[hv,hl]at x1;clear h hl hv
 go_enter Tryz.func145,Tryz.ntmps145
 go_wp2
 go_ret
 exact⟨rfl,rfl⟩
theorem J9(h:PgO base w q g):Calls jG 226 #[.pointer (some ⟨q.P,0,none⟩)] w fun e w'=>e=.returned (.int .i64 g.cols)∧w=w':=by
 obtain⟨-,-,⟨x2,-⟩,-⟩:=h.cells;clear h
 go_enter Tryz.func226,Tryz.ntmps226
 go_wp2
 go_ret
 exact⟨rfl,rfl⟩
theorem Jb(h:PgO base w q g):Calls jG 91 #[.pointer (some ⟨q.P,0,none⟩)] w fun e w'=>e=.returned (.int .i64 g.hist.length)∧w=w':=by
 obtain⟨⟨x0,-⟩,-⟩:=h.cells;have HL:=Hd (Vm h.ring);rw[←h.hlen]at HL;clear h
 go_enter Tryz.func91,Tryz.ntmps91
 go_wp2_with(go_at_call 161;refine HL.o.mono ?_;rintro e w1 ⟨rfl,rfl⟩)
 go_ret
 exact⟨rfl,rfl⟩
theorem nU(h:PgO base w q g)(y:Int):Calls jG 289 #[.pointer (some ⟨q.P,0,none⟩),.int .i64 y] w fun e w'=>e=.returned (.bool (inP g y))∧w=w':=by
 have HR:=Hd (tD h);unfold inP;clear h
 by_cases hy:0≤y
 · go_enter Tryz.func289,Tryz.ntmps289
   go_wp2_with(go_at_call 145;refine HR.o.mono ?_;rintro e w1 ⟨rfl,rfl⟩)
   go_ret
   simp[hy]
 · go_enter Tryz.func289,Tryz.ntmps289
   go_wp2_with(go_at_call 145;refine HR.o.mono ?_;rintro e w1 ⟨rfl,rfl⟩)
   go_ret
   simp;omega
theorem PgO.setCont(h:PgO base w q g){k gs c:Nat}(hv:q.vs=.slice (some ⟨gs,0,none⟩) q.S.length c)(hk:k<q.S.length)(b:Bool):pV base w q (yB g k b) (w.setCell ⟨gs,k*2+1,none⟩ (.bool b)):=by
 have hx:q.S[k]? =some q.S[k]:=jN hk;have hM:Mod q.vs.ownBlock.toList w (w.setCell ⟨gs,k*2+1,none⟩ (.bool b)):=(Mod.refl _ _).setCell (a:=⟨gs,k*2+1,none⟩) (.inl qZ5) _;have hX:yI w q.vs.ownBlock.toList:=fun x hx cs f he=>h.nocel x (by simp[pgX,(jA.1 hx)]) cs f he;have hown:=h.own;rw[hv]at hown;have h1:=cA hown (k*2+1) (.bool b);rw[cO bH q.S k q.S[k] {q.S[k]with cont:=b} 1 (.bool b) hx qZ rfl]at h1;have hin:inP g k=true:=by unfold inP;have :=h.len;simp;omega
 unfold yB;rw[hin,if_pos rfl];refine h.screen (S':=q.S.set k {q.S[k]with cont:=b}) qV (by rw[uV,hv];exact h1) hM ?_ (fun r hr=>?_)
 · rw[←h.scr,vV];refine gM fun i=>?_;rw[uX,List.getElem?_set,List.getElem?_modify,uX]
   by_cases hi:k=i
   · subst hi;rw[if_pos rfl,if_pos hk,hx];simp[zU]
   · rw[if_neg hi];cases q.S[i]? with
     |none=>rfl
     |some x=>simp[hi]
 · rcases List.mem_or_eq_of_mem_set hr with hr|rfl
   · exact⟨(h.rows r hr).1.mod hM hX,(h.rows r hr).2⟩
   · have :=h.rows q.S[k] (List.getElem_mem hk);exact⟨(this.1.mod hM hX).cont b,this.2⟩
theorem KU{y:Int}(b:Bool)(h:inP g y=false):yB g y b=g:=by unfold yB;rw[h];rfl
theorem Q7(h:PgO base w q g)(y:Int):Calls jG 293 #[.pointer (some ⟨q.P,0,none⟩),.int .i64 y] w (pJ base w q (yB g y false)):=by
 have HIN:=Hd (nU h y);cases hin:inP g y with
 |false=>
  rw[hin]at HIN;have H:=Hd h.res;have HC:=Hd (KU false hin);clear h
  go_enter Tryz.func293,Tryz.ntmps293
  go_wp2_with(go_at_call 289;refine HIN.o.mono ?_;rintro e w1 ⟨rfl,rfl⟩)
  go_end0
  rw[HC.o];exact⟨rfl,H.o⟩
 |true=>
  rw[hin]at HIN;obtain⟨k,rfl⟩:∃k:Nat,y=k:=⟨y.toNat,by unfold inP at hin;simp at hin;omega⟩;have hk:k<q.S.length:=by unfold inP at hin;have :=h.len;simp at hin;omega
  obtain⟨gs,c,hv⟩:=gH h.own qJ;have HS:=Hd (h.setCont hv hk false);obtain⟨-,⟨x1,-⟩,-,-⟩:=h.cells;have hown:=h.own;rw[hv]at x1 hown;obtain⟨-,y1,y1f⟩:=zK hown (jN hk);have hkI:(k:Int)<(q.S.length:Int):=by omega
  clear h hown hv hin
  go_enter Tryz.func293,Tryz.ntmps293
  go_wp2_with(go_at_call 289;refine HIN.o.mono ?_;rintro e w1 ⟨rfl,rfl⟩)
  go_end0
  exact⟨rfl,HS.o⟩
theorem J7(h:PgO base w q g)(y:Int):Calls jG 342 #[.pointer (some ⟨q.P,0,none⟩),.int .i64 y] w (pJ base w q (yB g y true)):=by
 have HIN:=Hd (nU h y);cases hin:inP g y with
 |false=>
  rw[hin]at HIN;have H:=Hd h.res;have HC:=Hd (KU true hin);clear h
  go_enter Tryz.func342,Tryz.ntmps342
  go_wp2_with(go_at_call 289;refine HIN.o.mono ?_;rintro e w1 ⟨rfl,rfl⟩)
  go_end0
  rw[HC.o];exact⟨rfl,H.o⟩
 |true=>
  rw[hin]at HIN;obtain⟨k,rfl⟩:∃k:Nat,y=k:=⟨y.toNat,by unfold inP at hin;simp at hin;omega⟩;have hk:k<q.S.length:=by unfold inP at hin;have :=h.len;simp at hin;omega
  obtain⟨gs,c,hv⟩:=gH h.own qJ;have HS:=Hd (h.setCont hv hk true);obtain⟨-,⟨x1,-⟩,-,-⟩:=h.cells;have hown:=h.own;rw[hv]at x1 hown;obtain⟨-,y1,y1f⟩:=zK hown (jN hk);have hkI:(k:Int)<(q.S.length:Int):=by omega
  clear h hown hv hin
  go_enter Tryz.func342,Tryz.ntmps342
  go_wp2_with(go_at_call 289;refine HIN.o.mono ?_;rintro e w1 ⟨rfl,rfl⟩)
  go_end0
  exact⟨rfl,HS.o⟩
end
theorem qJr{g:Pg}{y:Int}(F:List Cl→List Cl)(h:inP g y=false):zC g y F=g:=by unfold zC;rw[h];rfl
section
variable {base:Nat}{w:World}{q:Pv}{g:Pg}
theorem PgO.setRow(h:PgO base w q g){k gs c:Nat}{r:Rh}(hv:q.vs=.slice (some ⟨gs,0,none⟩) q.S.length c)(hr:q.S[k]? =some r){A:Option Addr}{cap:Nat}(F:List Cl→List Cl)(hF:(F r.cs).length=r.cs.length)(hc:zZ w ⟨A,F r.cs,cap,r.cont⟩):
 pV base w q (zC g k F) (w.setCell ⟨gs,k*2,none⟩ (.slice A r.cs.length cap)):=by
 have hk:=(jP.1 hr).1;have hM:Mod q.vs.ownBlock.toList w (w.setCell ⟨gs,k*2,none⟩ (.slice A r.cs.length cap)):=(Mod.refl _ _).setCell (a:=⟨gs,k*2,none⟩) (.inl qZ5) _;have hX:yI w q.vs.ownBlock.toList:=fun x hx cs f he=>h.nocel x (by simp[pgX,(jA.1 hx)]) cs f he;have hown:=h.own;rw[hv]at hown;have h1:=cA hown (k*2) (.slice A r.cs.length cap);have e:=cO bH q.S k r ⟨A,F r.cs,cap,r.cont⟩ 0 (.slice A r.cs.length cap) hr qZ (by simp[yG,hF]);rw[uA]at e;rw[e]at h1;have hin:inP g k=true:=by unfold inP;have :=h.len;simp;omega
 unfold zC;rw[hin,if_pos rfl];refine h.screen (S':=q.S.set k ⟨A,F r.cs,cap,r.cont⟩) qV (by rw[uV,hv];exact h1) hM ?_ (fun x hx=>?_)
 · rw[←h.scr,vV];refine gM fun i=>?_;rw[uX,List.getElem?_set,List.getElem?_modify,uX]
   by_cases hi:k=i
   · subst hi;rw[if_pos rfl,if_pos hk,hr];simp[zU]
   · rw[if_neg hi];cases q.S[i]? with
     |none=>rfl
     |some x=>simp[hi]
 · rcases List.mem_or_eq_of_mem_set hx with hx|rfl
   · exact⟨(h.rows x hx).1.mod hM hX,(h.rows x hx).2⟩
   · exact⟨hc.mod hM hX,by show(F r.cs).length=g.cols;rw[hF];exact(h.rows r (uB hr)).2⟩
set_option maxHeartbeats 3200000 in
theorem sX(h:PgO base w q g)(y:Int)(f:FuncId)(capt:Array Value)(F:List Cl→List Cl)(hF:∀l,(F l).length=l.length)(hfine:∀l,yL l→yL (F l))
 (hf:∀(args:Array Value) (w:World),(callFunc f args).run jG w=.ok (.enter f args) w)
 (hdo:∀(r:Rh) (w':World),Below w.heap.size w w'→zZ w' r→r.cs.length=g.cols→Calls jG f (#[.slice r.A r.cs.length r.cap]++capt) w' (pG (F r.cs) w')):
 Calls jG 290 #[.pointer (some ⟨q.P,0,none⟩),.int .i64 y,.func (.func f) #[] capt] w (pJ base w q (zC g y F)):=by
 have HIN:=Hd (nU h y);cases hin:inP g y with
 |false=>
  rw[hin]at HIN;have H:=Hd h.res;have HC:=Hd (qJr F hin);clear h hdo
  go_enter Tryz.func290,Tryz.ntmps290
  go_wp2_with(go_at_call 289;refine HIN.o.mono ?_;rintro e w1 ⟨rfl,rfl⟩)
  go_end0
  rw[HC.o];exact⟨rfl,H.o⟩
 |true=>
  rw[hin]at HIN;obtain⟨k,rfl⟩:∃k:Nat,y=k:=⟨y.toNat,by unfold inP at hin;simp at hin;omega⟩;have hk:k<q.S.length:=by unfold inP at hin;have :=h.len;simp at hin;omega
  obtain⟨gs,c,hv⟩:=gH h.own qJ;obtain⟨r,hr⟩:∃r,q.S[k]? =some r:=⟨_,jN hk⟩;obtain⟨hrc,hrl⟩:=h.rows r (uB hr);obtain⟨-,⟨x1,-⟩,-,-⟩:=h.cells;have hown:=h.own;rw[hv]at x1 hown;obtain⟨⟨y0,y0f⟩,-⟩:=zK hown hr;have hkI:(k:Int)<(q.S.length:Int):=by omega
  have H:=Hd h;have HV:=Hd hv;have HR:=Hd hr;have HDO:=Hd hdo;have HRC:=Hd hrc;have HFI:=Hd hfine;have HF:=Hd hF;clear h hown hv hin hr hdo hrc hF hfine
  go_enter Tryz.func290,Tryz.ntmps290
  go_upto_region 1 with(go_at_call 289;refine HIN.o.mono ?_;rintro e w1 ⟨rfl,rfl⟩)
  refine gI 15 (fun w'=>Below w.heap.size w w'∧w'.cell? ⟨q.P,1,none⟩=some (.slice (some ⟨gs,0,none⟩) q.S.length c)∧w'.cell? ⟨gs,k*2,none⟩=some (.slice r.A r.cs.length r.cap)) qQ qQ (fun w1 w2 hS hb=>⟨jW hS.1 hb,kZ hb hS.2.1,kZ hb hS.2.2⟩) ⟨(jU _ _).drew,x1,y0⟩ ?_;refine AtN.go 0 ?_
  iterate 14 (refine AtC.take (o:=⟨_,_,_,_,_,_⟩) (v:=?_) qQ rfl qV qQ qQ ?_ ?_;rotate_left;(focus(first|exact uQ.skip qK|(refine uQ.val qK ?_;intro w' hS;obtain⟨_,_,_⟩:=hS;go_simp;first|done|with_reducible rfl)));simp only[Act.put,jZ,jX,jY])
  refine AtC.back ?_;refine AtN.one 14 (o:=⟨_,_,_,_,_,_⟩) (fun v=>∃g cap,v=.slice (some ⟨g,0,none⟩) r.cs.length cap) (fun v w'=>∃g cap,v=.slice (some ⟨g,0,none⟩) r.cs.length cap∧zZ w' ⟨some ⟨g,0,none⟩,F r.cs,cap,r.cont⟩) qV qQ rfl (fun v w1 w2 ⟨g,cap,hv,hr⟩ hb=>⟨g,cap,hv,hr.below hb⟩) (uQ.call f (#[.slice r.A r.cs.length r.cap]++capt) _ _ qK ?_ (fun w' hS=>?_)) ?_
  · intro w'
    go_simp
  · refine(HDO.o r w' hS.1 (HRC.o.below hS.1) hrl).mono ?_;rintro e w2 ⟨g1,cap,rfl,hc,hb⟩;rw[HF.o];exact⟨_,rfl,⟨⟨g1,cap,rfl⟩,g1,cap,rfl,.of_own hc (by rw[HF.o];exact HRC.o.1) (HFI.o _ HRC.o.2.1) _⟩,hb⟩
  rintro v ⟨g1,cap,rfl⟩;simp only[Act.put,jZ,jX,jY];refine AtN.done qQ (fun w' hS=>?_);obtain⟨⟨hb1,-,z0⟩,g1',cap',hv',hrc'⟩:=hS;simp only[Value.slice.injEq,Option.some.injEq,Addr.mk.injEq,and_true,true_and]at hv';obtain⟨rfl,rfl⟩:=hv';have HB1:=Hd hb1;have HRC':=Hd hrc';have hfz:w'.frozen? ⟨gs,k*2,none⟩=false:=(iH hb1 ⟨y0,y0f⟩).2;clear hb1 hrc' x1 y0 y0f
  go_wp2
  go_end0
  have key:=((H.o.below HB1.o).setRow HV.o HR.o F (HF.o _) HRC'.o).pre HB1.o;rw[hrl]at key;exact⟨rfl,key⟩
end
set_option maxHeartbeats 1600000 in
theorem Q6(r0:Rh)(x r:Int)(a:Atr)(bx br ba:Nat)(w:World)(hrc:zZ w r0)(h0:0<r0.cs.length)(hx:w.cell? ⟨bx,0,none⟩=some (.int .i64 x))(hr:w.cell? ⟨br,0,none⟩=some (.int .i32 r))(a0:w.cell? ⟨ba,0,none⟩=some (.int .i64 a.fk))(a1:w.cell? ⟨ba,1,none⟩=some (.int .i64 a.fn))(a2:w.cell? ⟨ba,2,none⟩=some (.int .i64 a.bk))(a3:w.cell? ⟨ba,3,none⟩=some (.int .i64 a.bn))(a4:w.cell? ⟨ba,4,none⟩=some (.int .i64 a.fl)):
 Calls jG 294 (#[.slice r0.A r0.cs.length r0.cap]++#[.pointer (some ⟨bx,0,none⟩),.pointer (some ⟨br,0,none⟩),.pointer (some ⟨ba,0,none⟩)]) w (pG (fV r0.cs x r a) w):=by
 have HC:=Hd (qVj r0.A r0.cs r0.cap x r a w hrc.2.2.1 h0 hrc.1);simp only[List.append_toArray,List.cons_append,List.nil_append];clear hrc
 go_enter Tryz.func294,Tryz.ntmps294
 go_wp2_with(go_at_call 295;refine HC.o.mono ?_;rintro e w1 ⟨g,cap,rfl,hc,hb⟩;have HK:=Hd hc;clear hc)
 go_ret
 exact⟨g,cap,rfl,HK.o,hb⟩
set_option maxHeartbeats 1600000 in
theorem YG(r0:Rh)(x r:Int)(bx br:Nat)(w:World)(hrc:zZ w r0)(h0:0<r0.cs.length)(hx:w.cell? ⟨bx,0,none⟩=some (.int .i64 x))(hr:w.cell? ⟨br,0,none⟩=some (.int .i32 r)):
 Calls jG 339 (#[.slice r0.A r0.cs.length r0.cap]++#[.pointer (some ⟨bx,0,none⟩),.pointer (some ⟨br,0,none⟩)]) w (pG (cM r0.cs x r) w):=by
 have HC:=Hd (qQi r0.A r0.cs r0.cap x r w hrc.2.2.1 h0 hrc.1 hrc.2.1);simp only[List.append_toArray,List.cons_append,List.nil_append];clear hrc
 go_enter Tryz.func339,Tryz.ntmps339
 go_wp2_with(go_at_call 340;refine HC.o.mono ?_;rintro e w1 ⟨g,cap,rfl,hc,hb⟩;have HK:=Hd hc;clear hc)
 go_ret
 exact⟨g,cap,rfl,HK.o,hb⟩
set_option maxHeartbeats 1600000 in
theorem Kd(r0:Rh)(x n:Int)(b:Col)(bx bn bb:Nat)(w:World)(hrc:zZ w r0)(h0:0<r0.cs.length)(hx:w.cell? ⟨bx,0,none⟩=some (.int .i64 x))(hn:w.cell? ⟨bn,0,none⟩=some (.int .i64 n))(b0:w.cell? ⟨bb,0,none⟩=some (.int .i64 b.k))(b1:w.cell? ⟨bb,1,none⟩=some (.int .i64 b.n)):
 Calls jG 343 (#[.slice r0.A r0.cs.length r0.cap]++#[.pointer (some ⟨bx,0,none⟩),.pointer (some ⟨bn,0,none⟩),.pointer (some ⟨bb,0,none⟩)]) w (pG (bM r0.cs x n b) w):=by
 have HC:=Hd (XQ r0.A r0.cs r0.cap x n b w hrc.2.2.1 h0 hrc.1);simp only[List.append_toArray,List.cons_append,List.nil_append];clear hrc
 go_enter Tryz.func343,Tryz.ntmps343
 go_wp2_with(go_at_call 344;refine HC.o.mono ?_;rintro e w1 ⟨g,cap,rfl,hc,hb⟩;have HK:=Hd hc;clear hc)
 go_ret
 exact⟨g,cap,rfl,HK.o,hb⟩
set_option maxHeartbeats 1600000 in
theorem ZX(r0:Rh)(x n:Int)(b:Col)(bx bn bb:Nat)(w:World)(hrc:zZ w r0)(h0:0<r0.cs.length)(hx:w.cell? ⟨bx,0,none⟩=some (.int .i64 x))(hn:w.cell? ⟨bn,0,none⟩=some (.int .i64 n))(b0:w.cell? ⟨bb,0,none⟩=some (.int .i64 b.k))(b1:w.cell? ⟨bb,1,none⟩=some (.int .i64 b.n)):
 Calls jG 291 (#[.slice r0.A r0.cs.length r0.cap]++#[.pointer (some ⟨bx,0,none⟩),.pointer (some ⟨bn,0,none⟩),.pointer (some ⟨bb,0,none⟩)]) w (pG (bZ r0.cs x n b) w):=by
 have HC:=Hd (UW r0.A r0.cs r0.cap x n b w hrc.2.2.1 h0 hrc.1);simp only[List.append_toArray,List.cons_append,List.nil_append];clear hrc
 go_enter Tryz.func291,Tryz.ntmps291
 go_wp2_with(go_at_call 292;refine HC.o.mono ?_;rintro e w1 ⟨g,cap,rfl,hc,hb⟩;have HK:=Hd hc;clear hc)
 go_ret
 exact⟨g,cap,rfl,HK.o,hb⟩
set_option maxHeartbeats 3200000 in
theorem qKa{base:Nat}{w:World}{q:Pv}{g:Pg}(h:PgO base w q g)(y:Int)(x r9:Int)(a:Atr):
 Calls jG 198 #[.pointer (some ⟨q.P,0,none⟩),.int .i64 y,.int .i64 x,.int .i32 r9,.agg #[.int .i64 a.fk,.int .i64 a.fn,.int .i64 a.bk,.int .i64 a.bn,.int .i64 a.fl]] w (pJ base w q (zC g y (fun l=>fV l x r9 a))):=by
 have hb0:Below w.heap.size w (((w.alloc (.cells #[.int .i64 x] 3)).alloc (.cells #[.int .i32 r9] 21)).alloc (.cells #[.int .i64 a.fk,.int .i64 a.fn,.int .i64 a.bk,.int .i64 a.bn,.int .i64 a.fl] 63)):=jH (jH (jH (jU w.heap.size w) _) _) _;have hp0:((((w.alloc (.cells #[.int .i64 x] 3)).alloc (.cells #[.int .i32 r9] 21)).alloc (.cells #[.int .i64 a.fk,.int .i64 a.fn,.int .i64 a.bk,.int .i64 a.bn,.int .i64 a.fl] 63)):World).heap[w.heap.size+0]? =some (.cells #[.int .i64 x] 3 (0,0)):=by first|exact vJ (vJ (jT qV))|(refine vJ ?_;refine vJ ?_;exact jT rfl)
 have hp1:((((w.alloc (.cells #[.int .i64 x] 3)).alloc (.cells #[.int .i32 r9] 21)).alloc (.cells #[.int .i64 a.fk,.int .i64 a.fn,.int .i64 a.bk,.int .i64 a.bn,.int .i64 a.fl] 63)):World).heap[w.heap.size+1]? =some (.cells #[.int .i32 r9] 21 (0,0)):=by first|exact vJ (jT qV)|(refine vJ ?_;refine vJ ?_;exact jT rfl)
 have hp2:((((w.alloc (.cells #[.int .i64 x] 3)).alloc (.cells #[.int .i32 r9] 21)).alloc (.cells #[.int .i64 a.fk,.int .i64 a.fn,.int .i64 a.bk,.int .i64 a.bn,.int .i64 a.fl] 63)):World).heap[w.heap.size+2]? =some (.cells #[.int .i64 a.fk,.int .i64 a.fn,.int .i64 a.bk,.int .i64 a.bn,.int .i64 a.fl] 63 (0,0)):=by first|exact jT qV|(refine vJ ?_;refine vJ ?_;exact jT rfl)
 have HB0:=Hd hb0;have hc2:=h.cols2;have HA:=Hd (sX (h.below hb0) y 294 #[.pointer (some ⟨w.heap.size,0,none⟩),.pointer (some ⟨w.heap.size+1,0,none⟩),.pointer (some ⟨w.heap.size+2,0,none⟩)] (fun l=>fV l x r9 a) (fun l=>qJy l x r9 a) (fun l hl=>hl.put x r9 a) (fun args w=>by kernel_rfl) (fun r w' hb hr hl=>Q6 r x r9 a _ _ _ w' hr qJ (kZ hb (vH hp0 0 _ rfl)) (kZ hb (vH hp1 0 _ rfl)) (kZ hb (vH hp2 0 _ rfl)) (kZ hb (vH hp2 1 _ rfl)) (kZ hb (vH hp2 2 _ rfl)) (kZ hb (vH hp2 3 _ rfl)) (kZ hb (vH hp2 4 _ rfl))));clear h hb0 hp0 hp1 hp2
 go_enter Tryz.func198,Tryz.ntmps198
 go_wp2_with(go_at_call 290;refine HA.o.mono ?_;rintro e w1 ⟨rfl,hp⟩;have HP:=Hd hp;clear hp)
 go_end0
 exact⟨rfl,HP.o.pre HB0.o⟩
set_option maxHeartbeats 3200000 in
theorem J8{base:Nat}{w:World}{q:Pv}{g:Pg}(h:PgO base w q g)(y:Int)(x r9:Int):
 Calls jG 276 #[.pointer (some ⟨q.P,0,none⟩),.int .i64 y,.int .i64 x,.int .i32 r9] w (pJ base w q (zC g y (fun l=>cM l x r9))):=by
 have hb0:Below w.heap.size w ((w.alloc (.cells #[.int .i64 x] 3)).alloc (.cells #[.int .i32 r9] 21)):=jH (jH (jU w.heap.size w) _) _;have hp0:(((w.alloc (.cells #[.int .i64 x] 3)).alloc (.cells #[.int .i32 r9] 21)):World).heap[w.heap.size+0]? =some (.cells #[.int .i64 x] 3 (0,0)):=by first|exact vJ (jT qV)|(refine vJ ?_;refine vJ ?_;exact jT rfl)
 have hp1:(((w.alloc (.cells #[.int .i64 x] 3)).alloc (.cells #[.int .i32 r9] 21)):World).heap[w.heap.size+1]? =some (.cells #[.int .i32 r9] 21 (0,0)):=by first|exact jT qV|(refine vJ ?_;refine vJ ?_;exact jT rfl)
 have HB0:=Hd hb0;have hc2:=h.cols2;have HA:=Hd (sX (h.below hb0) y 339 #[.pointer (some ⟨w.heap.size,0,none⟩),.pointer (some ⟨w.heap.size+1,0,none⟩)] (fun l=>cM l x r9) (fun l=>V5 l x r9) (fun l hl=>hl.mark x r9) (fun args w=>by kernel_rfl) (fun r w' hb hr hl=>YG r x r9 _ _ w' hr qJ (kZ hb (vH hp0 0 _ rfl)) (kZ hb (vH hp1 0 _ rfl))));clear h hb0 hp0 hp1
 go_enter Tryz.func276,Tryz.ntmps276
 go_wp2_with(go_at_call 290;refine HA.o.mono ?_;rintro e w1 ⟨rfl,hp⟩;have HP:=Hd hp;clear hp)
 go_end0
 exact⟨rfl,HP.o.pre HB0.o⟩
set_option maxHeartbeats 3200000 in
theorem ZM{base:Nat}{w:World}{q:Pv}{g:Pg}(h:PgO base w q g)(y:Int)(x n:Int)(b:Col):
 Calls jG 278 #[.pointer (some ⟨q.P,0,none⟩),.int .i64 y,.int .i64 x,.int .i64 n,.agg #[.int .i64 b.k,.int .i64 b.n]] w (pJ base w q (zC g y (fun l=>bM l x n b))):=by
 have hb0:Below w.heap.size w (((w.alloc (.cells #[.int .i64 x] 3)).alloc (.cells #[.int .i64 n] 3)).alloc (.cells #[.int .i64 b.k,.int .i64 b.n] 61)):=jH (jH (jH (jU w.heap.size w) _) _) _;have hp0:((((w.alloc (.cells #[.int .i64 x] 3)).alloc (.cells #[.int .i64 n] 3)).alloc (.cells #[.int .i64 b.k,.int .i64 b.n] 61)):World).heap[w.heap.size+0]? =some (.cells #[.int .i64 x] 3 (0,0)):=by first|exact vJ (vJ (jT qV))|(refine vJ ?_;refine vJ ?_;exact jT rfl)
 have hp1:((((w.alloc (.cells #[.int .i64 x] 3)).alloc (.cells #[.int .i64 n] 3)).alloc (.cells #[.int .i64 b.k,.int .i64 b.n] 61)):World).heap[w.heap.size+1]? =some (.cells #[.int .i64 n] 3 (0,0)):=by first|exact vJ (jT qV)|(refine vJ ?_;refine vJ ?_;exact jT rfl)
 have hp2:((((w.alloc (.cells #[.int .i64 x] 3)).alloc (.cells #[.int .i64 n] 3)).alloc (.cells #[.int .i64 b.k,.int .i64 b.n] 61)):World).heap[w.heap.size+2]? =some (.cells #[.int .i64 b.k,.int .i64 b.n] 61 (0,0)):=by first|exact jT qV|(refine vJ ?_;refine vJ ?_;exact jT rfl)
 have HB0:=Hd hb0;have hc2:=h.cols2;have HA:=Hd (sX (h.below hb0) y 343 #[.pointer (some ⟨w.heap.size,0,none⟩),.pointer (some ⟨w.heap.size+1,0,none⟩),.pointer (some ⟨w.heap.size+2,0,none⟩)] (fun l=>bM l x n b) (fun l=>ZE l x n b) (fun l hl=>hl.insert x n b) (fun args w=>by kernel_rfl) (fun r w' hb hr hl=>Kd r x n b _ _ _ w' hr qJ (kZ hb (vH hp0 0 _ rfl)) (kZ hb (vH hp1 0 _ rfl)) (kZ hb (vH hp2 0 _ rfl)) (kZ hb (vH hp2 1 _ rfl))));clear h hb0 hp0 hp1 hp2
 go_enter Tryz.func278,Tryz.ntmps278
 go_wp2_with(go_at_call 290;refine HA.o.mono ?_;rintro e w1 ⟨rfl,hp⟩;have HP:=Hd hp;clear hp)
 go_end0
 exact⟨rfl,HP.o.pre HB0.o⟩
theorem qKb{base:Nat}{w:World}{q:Pv}{g:Pg}(h:PgO base w q g)(y:Int):Calls jG 341 #[.pointer (some ⟨q.P,0,none⟩),.int .i64 y] w (pJ base w q (zC g y fE)):=by
 have hc2:=h.cols2;have HA:=Hd (sX h y 379 #[] fE UZ (fun l hl=>hl.close) (fun args w=>by kernel_rfl) (fun r w' hb hr hl=>by
  have :=UM r.A r.cs r.cap w' hr.2.2.1 qJ hr.1;simpa using this))
 clear h
 go_enter Tryz.func341,Tryz.ntmps341
 go_wp2_with(go_at_call 290;refine HA.o.mono ?_;rintro e w1 ⟨rfl,hp⟩;have HP:=Hd hp;clear hp)
 go_end0
 exact⟨rfl,HP.o⟩
end Go.Proofs.YtaefcahblmopfaaGreatDoor
