/- Joined by a tool of this claim out of smaller texts. Conditions: as stated. -/
import Derived.Test.YtaefcahblmopfaaGreatDoorDg17
import Derived.Deep.OwnRows
import Derived.Lib.Builder
import Derived.Lib.AppendStr
import Derived.Lib.UnsafeStr
import Derived.Lib.FrozenHead
import Derived.Shelf.RegionOpenPlain
import Derived.Lib.ItoaNum
set_option linter.unusedVariables false
set_option linter.unusedSimpArgs false
set_option maxRecDepth 100000
open Go.Lib renaming hid → Hd
open List renaming setIfInBounds_toArray → jZ, set_cons_zero → jX, set_cons_succ → jY, mem_singleton → jW, getElem?_eq_getElem → jN, drop_succ_cons → jR, take_succ_cons → jS, drop_zero → jO, mem_cons → kJ, take_zero → kK, getD_eq_getElem?_getD → kV, append_assoc → kG, mem_append → kM, getElem?_map → uV, map_append → uE
open Go.Proofs.Tryz renaming prog → jG
open Go.RowKit.Below renaming refl → jU
open Nat renaming le_refl → jD
open Go.IntWalk renaming i64_in → jF
open Go.IntKind renaming i64 → jE
open And renaming intro → kX
open Go.World renaming ownsRow_nil → kD, setCell → uB
namespace Go.Proofs.YtaefcahblmopfaaGreatDoor
open Go.RowKit
def mY(priv:Bool)(n:Int):Int:=if Xx priv n then oN priv n else -1
theorem Wv:∀i,i<18→mY (decide (2≤i)) (bH.getD i 0)=i:=by decide
theorem Vy(priv:Bool)(n:Int)(h:∀j,j<18→¬(bH.getD j 0=n∧priv=decide (2≤j))):mY priv n= -1:=by
 unfold mY Xx oN;cases priv with
 |true=>
  have e:(bH.drop 2).findIdx (· ==n)=16:=List.findIdx_eq_length_of_false (xs:=bH.drop 2) (fun x hx=>by
   obtain⟨i,hi,he⟩:=List.getElem_of_mem hx;have hi2:i<16:=hi;have :=h (i+2) qJ;rw[List.getElem_drop]at he;have e2:bH.getD (i+2) 0=x:=by
    rw[kV,jN (by show i+2<18;omega),Option.getD_some,←he]
    congr 1
    omega
   rw[e2]at this;simp only[decide_eq_true (show 2≤i+2 by omega),and_true]at this;simpa using this)
  simp[e]
 |false=>
  have e:(bH.take 2).findIdx (· ==n)=2:=List.findIdx_eq_length_of_false (xs:=bH.take 2) (fun x hx=>by
   have h0:=h 0 qJ;have h1:=h 1 qJ;simp[bH]at h0 h1 hx;rcases hx with rfl|rfl
   · simpa using h0
   · simpa using h1)
  simp[e]
theorem Wa:(jG.info? 207).map (·.size)=some 18:=by kernel_rfl
def numsV:Value:=.agg #[.int .i64 4,.int .i64 20,.int .i64 1,.int .i64 5,.int .i64 6,.int .i64 7,.int .i64 25,.int .i64 47,.int .i64 66,.int .i64 1000,.int .i64 1002,.int .i64 1003,.int .i64 1004,.int .i64 1006,.int .i64 1047,.int .i64 1048,.int .i64 1049,.int .i64 2004]
set_option maxHeartbeats 1600000 in
theorem Vm(w:World):Calls jG 154 #[] w fun e w'=>e=.returned numsV∧Below w.heap.size w w':=by
 go_enter Tryz.func154,Tryz.ntmps154
 go_wp2
 exact bodyPost_ret (bY rfl _ _ w.heap.size [.int .i64 4,.int .i64 20,.int .i64 1,.int .i64 5,.int .i64 6,.int .i64 7,.int .i64 25,.int .i64 47,.int .i64 66,.int .i64 1000,.int .i64 1002,.int .i64 1003,.int .i64 1004,.int .i64 1006,.int .i64 1047,.int .i64 1048,.int .i64 1049,.int .i64 2004] rfl (uU (jA rfl)) Tryz.underlying207 rfl Wa) rfl ⟨rfl,jH (jU _ _) _⟩
def qJs:List Value:=[.int .i64 4,.int .i64 20,.int .i64 1,.int .i64 5,.int .i64 6,.int .i64 7,.int .i64 25,.int .i64 47,.int .i64 66,.int .i64 1000,.int .i64 1002,.int .i64 1003,.int .i64 1004,.int .i64 1006,.int .i64 1047,.int .i64 1048,.int .i64 1049,.int .i64 2004]
theorem qJr:∀i,i<18→qJs[i]? =some (.int .i64 (bH.getD i 0)):=fun i hi=>by
 have :qJs=bH.map (Value.int .i64):=rfl;rw[this,uV,jN (by show i<18;exact hi),Option.map_some,kV,jN (by show i<18;exact hi),Option.getD_some]
set_option maxHeartbeats 1600000 in
theorem Wu(priv:Bool)(n:Int)(w:World):Calls jG 83 #[.bool priv,.int .i64 n] w fun e w'=>e=.returned (.int .i64 (mY priv n))∧Below w.heap.size w w':=by
 obtain⟨NA,hNA⟩:∃NA,NA=qJs.toArray:=⟨_,rfl⟩;have HN:Hid (Calls jG 154 #[] w fun e w'=>e=.returned (.agg NA)∧Below w.heap.size w w'):=Hd (by rw[hNA];exact Vm w);have HIX:Hid (∀(i:Nat),i<18→∀w',(Instr.index 207 (.agg NA) (.int .i64 i)).run jG w'=.ok (.int .i64 (bH.getD i 0)) w'):=Hd (fun i hi w'=>mJ w' _ _ 18 NA _ _ _ Tryz.underlying207 qJ qJ (Tryz.sizeOf3 _) (Tryz.isAgg3 _) (by rw[hNA];exact qJr i hi));clear hNA
 go_enter Tryz.func83,Tryz.ntmps83
 go_wp2_with(go_at_call 154;(with_reducible refine HN.o.mono ?_);rintro e w1 ⟨rfl,hb⟩;have HB:=Hd hb;clear hb)
 go_loopw [8] (fun s8 wr=>∃i:Nat,s8=.int .i64 i∧i≤18∧(∀j,j<i→¬(bH.getD j 0=n∧priv=decide (2≤j)))∧wr=w1) (fun s8 _=>18-(intOf s8).toNat)
 case atStart=>exact⟨0,rfl,by omega,fun j hj=>absurd hj qJ,rfl⟩
 case round=>
  obtain⟨i,rfl,hi,hno,rfl⟩:=hrel;have HNO:=Hd hno;clear hno
  by_cases hlt:i<18
  · have hltI:(i:Int)<18:=by omega
    have hix:=HIX.o i hlt;have HAT:=Hd (Wv i hlt);have HNX:Hid (¬(bH.getD i 0=n∧priv=decide (2≤i))→∀j,j<i+1→¬(bH.getD j 0=n∧priv=decide (2≤j))):=Hd (fun h j hj=>by
     rcases Nat.lt_or_ge j i with h1|h1
     · exact HNO.o j h1
     · obtain rfl:j=i:=by omega
       exact h)
    have hd:decide ((2:Int)≤i)=decide (2≤i):=decide_eq_decide.2 qJ;generalize bH.getD i 0=x at hix HAT HNX;have hw:jE.wrap ((i:Int)+1)=(i:Int)+1:=jF _ qJ
    by_cases hx:x=n
    · have hxb:(x==n)=true:=by simpa using hx
      by_cases hp:priv=decide (2≤i)
      · have hpb:(priv==decide ((2:Int)≤i))=true:=by rw[hd];simpa using hp
        have HHX:=Hd hx;have HHP:=Hd hp;clear hx hp hd
        go_wp2
        go_ret
        exact⟨(congrArg (fun k:Int=>Ending.returned (Value.int .i64 k)) (show mY priv n=i from by rw[HHP.o,←HHX.o,HAT.o])).symm,HB.o⟩
      · have hpb:(priv==decide ((2:Int)≤i))=false:=by rw[hd];simpa using hp
        have HHP:=Hd hp;clear hp hx hd
        go_wp2
        exact⟨⟨i+1,by go_num,by omega,HNX.o (fun h=>HHP.o h.2),trivial⟩,by simp[intOf];omega⟩
    · have hxb:(x==n)=false:=by simpa using hx
      have HHX:=Hd hx;clear hx hd
      go_wp2
      exact⟨⟨i+1,by go_num,by omega,HNX.o (fun h=>HHX.o h.1),trivial⟩,by simp[intOf];omega⟩
  · have hltI:¬(i:Int)<18:=by omega
    obtain rfl:i=18:=by omega
    go_wp2
    go_ret
    exact⟨congrArg (fun k:Int=>Ending.returned (Value.int .i64 k)) (Vy priv n HNO.o).symm,HB.o⟩
theorem aB:(jG.info? 40).map (·.size)=some 1:=by kernel_rfl
theorem or_bit{b:Int}{k:Nat}(hb:0≤b∧b<4294967296)(hk:k<18):bits .or .u32 b (2 ^ k)=((b.toNat ||| 2 ^ k:Nat):Int):=by
 obtain⟨a,rfl⟩:=Int.eq_ofNat_of_zero_le hb.1;have h1:2 ^ k<4294967296:=Nat.lt_of_lt_of_le (Nat.pow_lt_pow_right qJ hk) qZ;have ha:a<4294967296:=by omega
 have hlt:a ||| 2 ^ k<4294967296:=Nat.or_lt_two_pow (n:=32) ha h1;have key:(BitVec.ofInt 32 (a:Int) ||| BitVec.ofInt 32 (2 ^ k:Int)).toNat=a ||| 2 ^ k:=by
  rw[show((2:Int) ^ k)=((2 ^ k:Nat):Int) by simp,BitVec.ofInt_natCast,BitVec.ofInt_natCast,BitVec.toNat_or,BitVec.toNat_ofNat,BitVec.toNat_ofNat,Nat.mod_eq_of_lt qJ,Nat.mod_eq_of_lt qJ]
 have e2:bits .or .u32 (a:Int) (2 ^ k)=IntKind.u32.wrap (((BitVec.ofInt 32 (a:Int) ||| BitVec.ofInt 32 (2 ^ k:Int)).toNat:Nat):Int):=rfl;rw[e2,key];have :IntKind.u32.wrap ((a ||| 2 ^ k:Nat):Int)=((a ||| 2 ^ k:Nat):Int):=by
  show((a ||| 2 ^ k:Nat):Int)%4294967296=_;omega
 rw[this];simp
theorem U9{b:Int}{priv:Bool}{n:Int}{k:Nat}(hk:mY priv n=k):xG b priv n true=((b.toNat ||| 2 ^ k:Nat):Int):=by
 unfold mY at hk
 split at hk
 · rename_i h
   unfold xG;rw[if_pos h,if_pos rfl,show oN priv n=k by omega]
 · omega
set_option maxHeartbeats 1600000 in
theorem Vr(b:Int)(priv:Bool)(n:Int)(k:Nat)(hk:mY priv n=k)(h5:k<18)(hb0:0≤b∧b<4294967296)(w:World):Calls jG 41 #[.agg #[.int .u32 b],.bool priv,.int .i64 n,.bool true] w fun e w'=>e=.returned (.agg #[.int .u32 (xG b priv n true)])∧Below w.heap.size w w':=by
 have HP:=Hd (fun w=>Wu priv n w);rw[hk]at HP;have hk0:¬(k:Int)<0:=by omega
 go_enter Tryz.func41,Tryz.ntmps41
 go_upto_region 5 with(go_at_call 83;(with_reducible refine(HP.o _).mono ?_);rintro e w1 ⟨rfl,hb⟩;have HB:=Hd hb;clear hb)
 have hb5:Below w.heap.size w w1:=jM (jH (jH (jU _ _) _) _) HB.o;have hn5:w1.heap[w.heap.size]? =some (.cells #[.int .u32 b] 40 (0,0)):=(HB.o.block _ qY).trans (uA (jA rfl));have hr5:w1.heap[w.heap.size+1]? =some (.cells #[.int .u32 0] 40 (0,0)):=(HB.o.block _ qV).trans (jA qV);have HB5:=Hd hb5;have HN5:=Hd hn5;have HR5:=Hd hr5;obtain⟨c0,f0⟩:=at_ hn5 0 (.int .u32 b) rfl;clear hb5 hn5 hr5;refine kH 4 (fun w'=>Below w1.heap.size w1 w'∧w'.cell? ⟨w.heap.size,0,none⟩=some (.int .u32 b)) qQ qQ ?_ ?_
 · exact⟨(jU _ _).drew,c0⟩
 simp only[jS,kK,jR,jO]
 repeat(
  (first
   |refine kF qK ?_
   |(refine kE ?_ qK ?_ ?_;rotate_left;(focus(intro w' hS;obtain⟨_,_⟩:=hS;go_simp;first|done|with_reducible rfl))))
  simp only[Act.put,jZ,jX,jY])
 refine kO (fun w' hS=>?_);obtain⟨hb6,c0⟩:=hS;have hn6:=(hb6.block _ (jL HN5.o)).trans HN5.o;have hr6:=(hb6.block _ (jL HR5.o)).trans HR5.o;obtain⟨-,f0⟩:=at_ hn6 0 (.int .u32 b) rfl;obtain⟨r0,rf0⟩:=at_ hr6 0 (.int .u32 0) rfl;have HB6:=Hd (jM HB5.o hb6);have HN6:=Hd hn6;have HR6:=Hd hr6;have hpw:IntKind.u32.wrap (2 ^ k)=2 ^ k:=by
  have :∀k,k<18→IntKind.u32.wrap (2 ^ k)=2 ^ k:=by decide
  exact this k h5
 clear hb6 hn6 hr6
 go_wp2
 have hz:=kA (cs:=[.int .u32 0]) (w:=w'.setCell ⟨w.heap.size,0,none⟩ (.int .u32 (bits .or .u32 b (2 ^ k)))) ((((Mod.refl [w.heap.size] w').setCell (a:=⟨w.heap.size,0,none⟩) (.inl qV) _).block (w.heap.size+1) (jL HR6.o) qV).trans HR6.o) 0 (.int .u32 (bits .or .u32 b (2 ^ k))) rfl;exact bodyPost_ret (bY rfl _ _ (w.heap.size+1) [.int .u32 (bits .or .u32 b (2 ^ k))] rfl (uU hz) Tryz.underlying40 rfl aB) rfl ⟨by rw[U9 hk,or_bit hb0 h5],uK (uK HB6.o (jD _) _) qJ _⟩
theorem Vs(w:World):Calls jG 15 #[] w fun e w'=>e=.returned (.agg #[.int .u32 KE])∧Below w.heap.size w w':=by
 have H1:Hid (∀w,Calls jG 41 #[.agg #[.int .u32 0],.bool true,.int .i64 7,.bool true] w fun e w'=>e=.returned (.agg #[.int .u32 32])∧Below w.heap.size w w'):=Hd (fun w=>by
  have :=Vr 0 true 7 5 qZ qJ qJ w;rw[show xG 0 true 7 true=32 by decide]at this;exact this)
 have H2:Hid (∀w,Calls jG 41 #[.agg #[.int .u32 32],.bool true,.int .i64 25,.bool true] w fun e w'=>e=.returned (.agg #[.int .u32 96])∧Below w.heap.size w w'):=Hd (fun w=>by
  have :=Vr 32 true 25 6 qZ qJ qJ w;rw[show xG 32 true 25 true=96 by decide]at this;exact this)
 rw[show KE=96 by decide];obtain⟨W,hW⟩:∃W,w.alloc (.cells #[.int .u32 0] 40)=W:=⟨_,rfl⟩;have HB0:Hid (Below w.heap.size w W):=Hd (by rw[←hW];exact jH (jU _ _) _);have HN0:Hid (W.heap[w.heap.size]? =some (.cells #[.int .u32 0] 40 (0,0))):=Hd (by rw[←hW];exact jA rfl)
 go_enter Tryz.func15,Tryz.ntmps15
 go_wp2_with(first
  |(go_at_call 41;(with_reducible refine(H1.o _).mono ?_);rintro e w1 ⟨rfl,hb⟩;have HB1:=Hd (jM HB0.o hb);have HN1:=Hd ((hb.block _ (jL HN0.o)).trans HN0.o);clear hb)
  |(go_at_call 41;(with_reducible refine(H2.o _).mono ?_);rintro e w2 ⟨rfl,hb⟩;have HB2:=Hd (jM HB1.o hb);have HN2:=Hd ((hb.block _ (jL HN1.o)).trans HN1.o);clear hb;obtain⟨r0,rf0⟩:=at_ HN2.o 0 (.int .u32 0) rfl))
 exact bodyPost_ret (bY rfl _ _ w.heap.size [.int .u32 96] rfl (uU (kA (cs:=[.int .u32 0]) HN2.o 0 (.int .u32 96) rfl)) Tryz.underlying40 rfl aB) rfl ⟨rfl,uK HB2.o (jD _) _⟩
theorem Qk:(jG.info? 76).map (·.size)=some 2:=by kernel_rfl
structure BuB(w:World)(b o:Nat)(ba bf:Value):Prop where
 h0:w.cell? ⟨b,o,none⟩=some ba∧w.frozen? ⟨b,o,none⟩=false
 h1:w.cell? ⟨b,o+1,none⟩=some bf∧w.frozen? ⟨b,o+1,none⟩=false
 ad:ba=.pointer none∨ba=.pointer (some ⟨b,o,none⟩)
def Uy(w:World)(b o:Nat):Prop:=∃ty n,w.shape? b=some (ty,n)∧o<n∧liesAt jG jG.depth ty (n/jG.cellsOf ty) o 76 1=true
theorem BuB.set0{w:World}{b o:Nat}{ba bf:Value}(h:BuB w b o ba bf):BuB (w.setCell ⟨b,o,none⟩ (.pointer (some ⟨b,o,none⟩))) b o (.pointer (some ⟨b,o,none⟩)) bf:=
 ⟨cO h.h0,pQ h.h1 (.inr qJ),.inr rfl⟩
def BcPost(b o:Nat)(bf:Value)(w:World)(e:Ending)(w':World):Prop:=e=.returned (.tuple #[])∧(w'=w∨w'=w.setCell ⟨b,o,none⟩ (.pointer (some ⟨b,o,none⟩)))∧BuB w' b o (.pointer (some ⟨b,o,none⟩)) bf
set_option maxHeartbeats 1600000 in
theorem qKs(b o:Nat)(ba bf:Value)(w:World)(hl:Uy w b o)(h:BuB w b o ba bf):
 Calls jG 168 #[.pointer (some ⟨b,o,none⟩)] w (BcPost b o bf w):=by
 obtain⟨j,hj,hjs⟩:=Option.map_eq_some_iff.1 Qk;obtain⟨ty,n,hsh,hon,hli⟩:=hl;have HB:=Hd h;obtain⟨⟨c0,f0⟩,-,had⟩:=h;rcases had with rfl|rfl
 · have hcv1:=Lib.run_to_unsafe (P:=jG) w ⟨b,o,none⟩ Tryz.underlying74 Tryz.underlying280 hj (by rw[hjs];decide) hsh hon;have hcv2:=Lib.run_from_unsafe (P:=jG) w ⟨b,o,none⟩ Tryz.underlying280 Tryz.underlying74 hj hsh hli;have HB2:=Hd HB.o.set0
   go_enter Tryz.func168,Tryz.ntmps168
   go_wp2
   rw[run_callFunc_extern Tryz.func260 qQ qQ qQ (e:=Extern.AbiNoEscape.same) qQ];rw[Lib.run_noEscape]
   try simp only[Result.andThen]
   rw[Oper.upon_value]
   go_wp2
   go_end0
   exact⟨rfl,.inr rfl,HB2.o⟩
 · have hq:=Lib.run_neq_ptr_same (P:=jG) w ⟨b,o,none⟩ Tryz.underlying74 hj
   go_enter Tryz.func168,Tryz.ntmps168
   go_wp2
   go_end0
   exact⟨rfl,.inl rfl,HB.o⟩
theorem ZK:(jG.info? 5).map (fun i=>(i.zero,i.size,i.bytes))=some (some (.int .u8 0),1,1):=by kernel_rfl
section
variable {P:Program}
theorem wF(w:World)(base:Nat)(t u ty e:TypeId)(i:TypeInfo)(ht:P.underlying t=some (.slice e))(hu:P.underlying u=some .string)(hi:P.info? e=some i)(hz:i.zero=some (.int .u8 0))(hsize:i.size=1)(hby:i.bytes=1)
 (v:Value) (n:Nat) (xs:List Value) (hown:w.ownsRow base e 1 v n xs) (s:ByteArray) (h63:n+s.size≤maxLen) (hbytes:n+s.size≤140737488355328) (hbase:base≤w.heap.size):
 ∃v' w',(Builtin.append_ #[t,u] ty #[v,.string s]).run P w=.ok v' w'∧w'.ownsRow base e 1 v' (n+s.size) (xs++Lib.strCells s)∧w.grownBy w' v.ownBlock∧∀g,v'.ownBlock=some g→v.ownBlock=some g∨w.heap.size≤g:=by
 have hsmall:n+s.size≤9223372036854775807:=by simp only[maxLen]at h63;omega
 have hxl:xs.length=n:=by simpa using hown.1
 rcases hown.2 with⟨rfl,rfl⟩|⟨g,cap,cur,rfl,hbg,hg,hnc,hcm,hcs,htake⟩
 · have hx:xs=[]:=List.eq_nil_of_length_eq_zero hxl;subst hx;obtain⟨v',w',h1,h2,h3,-⟩:=Lib.run_append_own_string (P:=P) w w.heap.size t u ty e i ht hu hi hz hsize hby (.slice none 0 0) 0 [] (kD w _ e 1) s h63 hbytes (jD _);exact⟨v',w',h1,pS h2 hbase,h3,fun g hg=>.inr (h2.lt g hg).1⟩
 · obtain⟨v',w',h1,h2,h3,-⟩:=Lib.run_append_own_string (P:=P) w base t u ty e i ht hu hi hz hsize hby _ n xs hown s h63 hbytes hbase;refine⟨v',w',h1,h2,h3,fun b hb=>?_⟩
   by_cases hroom:n+s.size≤cap
   · have hr:=Lib.run_append_room_string (P:=P) w t u ty e i ht hu hi hsize g n cap cur hg s hroom qJ;rw[h1]at hr;injection hr with hr _
     rw[hr]at hb;exact .inl hb
   · have hr:=Lib.run_append_grow_string (P:=P) w t u ty e i (.int .u8 0) ht hu hi hz ⟨g,0,none⟩ n cap xs (by rw[hsize];simpa using hxl) (hown.cells (g:=g) rfl) s qJ qJ (by rw[hby];exact growslice_fits qJ qJ);rw[h1]at hr;injection hr with hr _
     rw[hr]at hb;obtain rfl:w.heap.size=b:=by simpa[Value.ownBlock]using hb
     exact .inr (jD _)
theorem eY{w:World}{ops:Array Oper}{rest:List Oper}{o:Oper}{a:Act}{Q:Exit→Act→World→Prop}(hgd:o.guard=none)(sl x:Operand)(t u:TypeId)(ho:o.op=.call {callee:=.builtin .append,args:=#[sl,x],argTypes:=#[t,u]})
 (base:Nat) (e:TypeId) (i:TypeInfo) (ht:P.underlying t=some (.slice e)) (hu:P.underlying u=some .string) (hi:P.info? e=some i) (hz:i.zero=some (.int .u8 0)) (hsize:i.size=1) (hby:i.bytes=1)
 (v:Value) (n:Nat) (xs:List Value) (hs:a.eval sl=v) (hown:w.ownsRow base e 1 v n xs) (s:ByteArray) (hx:a.eval x=.string s) (h63:n+s.size≤maxLen) (hbytes:n+s.size≤140737488355328) (hbase:base≤w.heap.size)
 (h:∀v' w',w'.ownsRow base e 1 v' (n+s.size) (xs++Lib.strCells s)→w.grownBy w' v.ownBlock→(∀g,v'.ownBlock=some g→v.ownBlock=some g∨w.heap.size≤g)→wpList P ops Q rest (a.put o.dst v') w'):wpList P ops Q (o::rest) a w:=by
 refine wpList_plain hgd fun K hK=>?_;obtain⟨v',w',hr,h2,h3,h4⟩:=wF (P:=P) w base t u o.type e i ht hu hi hz hsize hby v n xs hown s h63 hbytes hbase;unfold Oper.wp execOp;simp only[ho,resolve,invoke,builtin,Sem.run_bind,Sem.run_pure,Result.andThen_ok,List.map_toArray,List.map_cons,List.map_nil,hs,hx,hr];exact hK _ _ (h v' w' h2 h3 h4)
end
def qK9(base b o n:Nat)(bf:Value)(xs:List Value)(s:ByteArray)(w:World)(e:Ending)(w':World):Prop:=
 e=.returned (.tuple #[.int .i64 s.size,.nilIface])∧∃v' w1 w2,(w1=w∨w1=w.setCell ⟨b,o,none⟩ (.pointer (some ⟨b,o,none⟩)))∧w1.grownBy w2 bf.ownBlock∧w2.ownsRow base 5 1 v' (n+s.size) (xs++Lib.strCells s)∧(∀g,v'.ownBlock=some g→bf.ownBlock=some g∨w.heap.size≤g)∧BuB w2 b o (.pointer (some ⟨b,o,none⟩)) bf∧w'=w2.setCell ⟨b,o+1,none⟩ v'
theorem BuB.grown{w w':World}{b o:Nat}{ba bf:Value}{r:Option Nat}(h:BuB w b o ba bf)(hg:w.grownBy w' r)(hr:r≠some b):BuB w' b o ba bf:=by
 have hb:=hg.block b (vG h.h0.1) (fun e=>hr e.symm);exact⟨⟨(World.cell?_of_block hb).trans h.h0.1,(World.frozen?_of_block hb).trans h.h0.2⟩,⟨(World.cell?_of_block hb).trans h.h1.1,(World.frozen?_of_block hb).trans h.h1.2⟩,h.ad⟩
set_option maxHeartbeats 1600000 in
theorem bwriteG(base b o n:Nat)(ba bf:Value)(xs:List Value)(s:ByteArray)(w:World)(hl:Uy w b o)(h:BuB w b o ba bf)(hown:w.ownsRow base 5 1 bf n xs)(hb:bf.ownBlock≠some b)(hs:n+s.size≤100000000)(hbase:base≤w.heap.size):
 Calls jG 101 #[.pointer (some ⟨b,o,none⟩),.string s] w (qK9 base b o n bf xs s w):=by
 obtain⟨i0,hi,hz0,hz1,hz2⟩:=info_parts ZK;have HC:=Hd (qKs b o ba bf w hl h);have HN:=Hd hb;have HO:=Hd hown;have hlt:=vG h.h0.1;obtain⟨A,cap,rfl⟩:=uI hown;clear h hl hb hown
 go_enter Tryz.func101,Tryz.ntmps101
 go_upto_region 2 with(go_at_call 168;(with_reducible refine HC.o.mono ?_);rintro e w2 ⟨rfl,hw2,hB2⟩)
 have HW:=Hd hw2;have HB2:=Hd hB2;have hsz:w2.heap.size=w.heap.size:=by rcases HW.o with rfl|rfl<;>simp[uB]
 have HO2:Hid (w2.ownsRow base 5 1 (.slice A n cap) n xs):=Hd (by
  rcases HW.o with rfl|rfl
  · exact HO.o
  · exact kC HO.o ((Mod.refl [b] _).setCell (a:=⟨b,o,none⟩) (.inl qV) _) (fun g hg hx=>HN.o qVs))
 obtain⟨c1,f1⟩:=hB2.h1;clear hw2 hB2
 go_wp2_with(at_builtin;refine eY rfl _ _ 23 9 rfl base 5 i0 Tryz.underlying23 Tryz.underlying9 hi hz0 hz1 hz2 _ n xs rfl HO2.o s rfl qU qJ qJ ?_;intro v' w3 hown' hgrow hv;obtain⟨A',c',rfl⟩:=uI hown';have HB3:=Hd (HB2.o.grown hgrow HN.o);have HO3:=Hd hown';have HG3:Hid (w2.grownBy w3 (Value.slice A n cap).ownBlock):=Hd hgrow;have HV3:Hid (∀g,(Value.slice A' (n+s.size) c').ownBlock=some g→(Value.slice A n cap).ownBlock=some g∨w2.heap.size≤g):=Hd hv;have d1:=HB3.o.h1.1;have e1:=HB3.o.h1.2;clear hown' hgrow hv)
 go_ret2
 exact qZo
def pR:Pz→List Int→Pz×List Ev
 |p,[]=>(p,[])
 |p,c::l=>((pR (vN p c).1 l).1,(vN p c).2++(pR (vN p c).1 l).2)
theorem dC:∀(a b:List Int) (p:Pz),pR p (a++b)=((pR (pR p a).1 b).1,(pR p a).2++(pR (pR p a).1 b).2)
 |[],_,_=>rfl
 |c::a,b,p=>by
  show((pR (vN p c).1 (a++b)).1,(vN p c).2++(pR (vN p c).1 (a++b)).2)=_;rw[dC a b];simp only[pR,kG]
def qKz(p:Pz):Prop:=p.state=0∧p.dec.need=0∧p.dec.hv=0
theorem VB:∀(l:List Int) (p:Pz),p.state=2→p.wrong=false→p.inter=[]→(∀c∈l,48≤c∧c<60)→p.head.length+l.length≤256→pR p l=({p with head:=p.head++l},[])
 |[],p,_,_,_,_,_=>by simp[pR]
 |c::l,p,h2,hw,hi,hl,hz=>by
  have hc:=hl c (List.mem_cons_self ..);have hz':p.head.length+(l.length+1)≤256:=by simpa using hz
  have e:vN p c=({p with head:=p.head++[c]},[]):=by
   unfold vN;rw[if_neg qJ,if_neg qJ,if_neg qJ,if_neg qJ];unfold dF;rw[if_neg qJ,if_neg qJ,if_neg qJ,if_neg qJ];unfold mW;rw[if_neg qJ,if_pos qJ];unfold nY;rw[if_neg (by rw[hw];decide),if_neg qJ,if_neg (by rw[hi];simp;omega)]
  show((pR (vN p c).1 l).1,(vN p c).2++(pR (vN p c).1 l).2)=_;rw[e,VB l {p with head:=p.head++[c]} h2 hw hi (fun x hx=>hl x (List.mem_cons_of_mem _ hx)) qY];simp
theorem seq_run{p:Pz}(hr:qKz p){l:List Int}(hl:∀c∈l,48≤c∧c<60)(hz:l.length≤256){c:Int}(hc:64≤c∧c<127):
 pR p (27::91::(l++[c]))=(gX p 0,[⟨3,0,c,0,Vl l,[],[],false⟩]):=by
 obtain⟨r1,r2,r3⟩:=hr;have e0:fN p=(p,[]):=by
  unfold fN wR;rw[if_pos r3];rfl
 have e1:vN p 27=(gX p 1,[]):=by
  unfold vN;rw[if_neg qZ,if_pos rfl,e0];show(gX p 1,[]++mC p)=_;unfold mC;rw[if_neg qJ,if_neg qJ];rfl
 have e2:vN (gX p 1) 91=(gX p 2,[]):=by
  unfold vN;rw[if_neg qZ,if_neg qZ,if_neg (by show ¬(1:Int)=0;decide),if_neg (by show ¬((1:Int)=4∨(1:Int)=5∨_);simp[gX])];unfold dF;rw[if_neg qZ,if_neg qJ,if_neg qZ,if_pos (show(gX p 1).state=1 from rfl)];unfold cL;rw[if_neg qZ];unfold bL;rw[if_pos ⟨rfl,rfl,rfl⟩];rfl
 have e3:pR (gX p 2) l=({gX p 2 with head:=l},[]):=by
  rw[VB l (gX p 2) rfl rfl rfl hl (by simpa[gX]using hz)];simp[gX]
 have e4:vN {gX p 2 with head:=l} c=(gX p 0,[⟨3,0,c,0,Vl l,[],[],false⟩]):=by
  unfold vN;rw[if_neg qJ,if_neg qJ,if_neg (by show ¬(2:Int)=0;decide),if_neg (by simp[gX])];unfold dF;rw[if_neg qJ,if_neg qJ,if_neg qJ,if_neg (by show ¬(2:Int)=1;decide)];unfold mW;rw[if_neg qJ,if_neg qJ,if_neg (by show ¬(2:Int)=3;decide)];rfl
 show((pR (vN p 27).1 (91::(l++[c]))).1,(vN p 27).2++(pR (vN p 27).1 (91::(l++[c]))).2)=_;rw[e1];show((pR (vN (gX p 1) 91).1 (l++[c])).1,[]++((vN (gX p 1) 91).2++(pR (vN (gX p 1) 91).1 (l++[c])).2))=_;rw[e2,dC,e3];show((vN {gX p 2 with head:=l} c).1,[]++([]++([]++((vN {gX p 2 with head:=l} c).2++[]))))=_;rw[e4];rfl
theorem step_eq{d:Dk}{c:Int}(h:okD d c):bF d c=((yF d c).1.toList,(yF d c).2):=by
 unfold bF yF;rcases h with⟨h1,h2,h3⟩|⟨h1,h2,h3,h4,h5,h6,h7,h8,h9,h10⟩
 · rw[if_pos h1,if_pos h1];unfold bQ;rcases h3 with h3|h3
   · have e:cZ c=1:=by unfold cZ;rw[if_pos h3.2]
     rw[e,if_neg qZ,if_pos rfl,if_pos h3.2];rfl
   · have e:cZ c=2∨cZ c=3∨cZ c=4:=by
      unfold cZ;rw[if_neg qJ,if_neg qJ]
      by_cases h1:c<224
      · rw[if_pos h1];exact .inl rfl
      rw[if_neg h1]
      by_cases h1:c<240
      · rw[if_pos h1];exact .inr (.inl rfl)
      rw[if_neg h1];exact .inr (.inr rfl)
     rw[if_neg qJ,if_neg qJ,if_neg (by omega:¬c<128)];rfl
 · have n0:¬d.need=0:=by omega
   rw[if_neg n0,if_neg qJ,if_neg n0]
   by_cases h1:d.need=1
   · rw[if_pos h1,if_pos h1];rfl
   · rw[if_neg h1,if_neg h1];rfl
def rH(r:Int):Prop:=32≤r∧r≠127∧¬(128≤r∧r<160)
theorem rI:∀(l:List Int) (p:Pz),(∀r∈l,rH r)→vJ p l=(p,l.map fun r=>{evE with r:=r})
 |[],_,_=>rfl
 |r::l,p,h=>by
  have e:print1 p r=(p,[{evE with r:=r}]):=by
   obtain⟨a,b,c⟩:=h r (List.mem_cons_self ..);unfold print1;rw[if_neg qJ,if_neg b,if_neg c]
  unfold vJ;rw[e,rI l p (fun x hx=>h x (List.mem_cons_of_mem _ hx))];rfl
theorem UM:∀(l:List Int) (p:Pz),p.state=0→fX p.dec l→(∀c∈l,c≠24∧c≠26∧c≠27)→(∀r∈(yT p.dec l).1,rH r)→pR p l=({p with dec:=(yT p.dec l).2},(yT p.dec l).1.map fun r=>{evE with r:=r})
 |[],_,_,_,_,_=>rfl
 |c::l,p,h0,hok,hc,hp=>by
  have hc0:=hc c (List.mem_cons_self ..);have e:vN p c=({p with dec:=(yF p.dec c).2},(yF p.dec c).1.toList.map fun r=>{evE with r:=r}):=by
   unfold vN;rw[if_neg qJ,if_neg qJ,if_pos h0];unfold V5;rw[step_eq hok.1];exact rI _ _ (fun r hr=>hp r (by unfold yT;exact List.mem_append_left _ hr))
  show((pR (vN p c).1 l).1,(vN p c).2++(pR (vN p c).1 l).2)=_;rw[e,UM l {p with dec:=(yF p.dec c).2} h0 hok.2 (fun x hx=>hc x (List.mem_cons_of_mem _ hx)) (fun r hr=>hp r (by unfold yT;exact List.mem_append_right _ hr))];simp[yT]
theorem Zy{r:Int}(hs:gD r=true)(hp:rH r):∀c∈vK r,c≠24∧c≠26∧c≠27:=by
 have hr:0≤r∧r≤1114111:=by unfold gD at hs;simp at hs;omega
 obtain⟨a,-,-⟩:=hp;intro c hc;unfold vK at hc
 split at hc
 · simp at hc;omega
 split at hc
 · simp at hc;omega
 split at hc
 · simp at hc;omega
 · simp at hc;omega
theorem qQw{p:Pz}(hr:qKz p)(l:List Int)(hl:∀r∈l,gD r=true∧rH r):
 ∃d,d.need=0∧d.hv=0∧pR p (l.flatMap vK)=({p with dec:=d},l.map fun r=>{evE with r:=r}):=by
 obtain⟨h1,h2,h3,h4⟩:=QD l (fun r h=>(hl r h).1) p.dec hr.2;refine⟨_,h3,h4,?_⟩;rw[UM _ p hr.1 h1 (fun c hc=>?_) (fun r hr=>(hl r (by rw[h2]at hr;exact hr)).2),h2];obtain⟨r,h5,h6⟩:=List.mem_flatMap.1 hc;exact Zy (hl r h5).1 (hl r h5).2 c h6
def cB(n:Nat):List Int:=(Go.Lib.decDigits n).map fun b=>(b.toNat:Int)
theorem mL(n:Nat):cB n=if n<10 then[48+(n:Int)]else cB (n/10)++[48+((n%10:Nat):Int)]:=by
 have hb:∀k,k<10→((UInt8.ofNat (48+k)).toNat:Int)=48+(k:Int):=fun k hk=>by
  rw[UInt8.toNat_ofNat'];omega
 unfold cB;rw[Go.Lib.decDigits]
 split
 · simp only[List.map_cons,List.map_nil];rw[hb n (by assumption)]
 · rw[uE];simp only[List.map_cons,List.map_nil];rw[hb (n%10) (Nat.mod_lt _ qZ)]
theorem xQ(n:Nat):∀c∈cB n,48≤c∧c<58:=by
 induction n using Nat.strongRecOn with
 |_ n ih=>
  intro c hc;rw[mL]at hc
  split at hc
  · simp at hc;omega
  · rcases kM.1 hc with h|h
    · exact ih (n/10) qJ c h
    · simp at h;omega
theorem QY(n:Nat):0<(cB n).length:=by
 rw[mL]
 split<;>simp
theorem Ka(n:Nat)(hn:n≤65535):xW (cB n)=n:=by
 have key:∀n:Nat,n≤65535→(cB n).foldl (fun n c=>min (n*10+(c-48)) 65535) (0:Int)=n:=by
  intro n
  induction n using Nat.strongRecOn with
  |_ n ih=>
   intro hn;rw[mL]
   split
   · simp only[List.foldl_cons,List.foldl_nil];omega
   · rw[List.foldl_append,ih (n/10) qJ qJ];simp only[List.foldl_cons,List.foldl_nil];omega
 unfold xW;rw[if_neg (by have :=QY n;omega),key n hn]
theorem oC{sep:Int}{a:List Int}(n:Nat)(h:sep∉a):yE sep (n+1) a=[a]:=by
 unfold yE;rw[if_neg h]
theorem Vc{sep:Int}:∀{a:List Int} (n:Nat) (rest:List Int),sep∉a→yE sep (n+1) (a++sep::rest)=a::yE sep n rest:=fun{a} n rest h=>by
 have e1:∀a:List Int,sep∉a→(a++sep::rest).takeWhile (· ≠sep)=a∧((a++sep::rest).dropWhile (· ≠sep)).drop 1=rest:=by
  intro a
  induction a with
  |nil=>intro _;simp
  |cons x a ih=>
   intro hx;have hx1:x≠sep:=fun e=>hx (by rw[e];exact List.mem_cons_self ..);obtain⟨i1,i2⟩:=ih (fun hm=>hx (List.mem_cons_of_mem _ hm))
   constructor
   · rw[List.cons_append,List.takeWhile_cons,if_pos (by simpa using hx1),i1]
   · rw[List.cons_append,List.dropWhile_cons,if_pos (by simpa using hx1),i2]
 obtain⟨i1,i2⟩:=e1 a h
 conv=>lhs;unfold yE
 rw[if_pos qV,i1,i2]
def yV:List Nat→List Int
 |[]=>[]
 |[n]=>cB n
 |n::m::l=>cB n++59::yV (m::l)
theorem aW:∀(l:List Nat),∀c∈yV l,48≤c∧c<60
 |[],_,h=>by cases h
 |[n],c,h=>by have :=xQ n c h;omega
 |n::m::l,c,h=>by
  rcases kM.1 (show c∈cB n++59::yV (m::l)from h)with h|h
  · have :=xQ n c h;omega
  rcases kJ.1 h with rfl|h
  · omega
  · exact aW (m::l) c h
theorem aX:∀(l:List Nat) (k:Nat),l≠[]→l.length≤k→(∀n∈l,n≤65535)→(yE 59 k (yV l)).map (fun g=>(yE 58 8 g).map xW)=l.map (fun n:Nat=>[(n:Int)])
 |[],_,h,_,_=>absurd rfl h
 |[n],0,_,h,_=>absurd h qV
 |[n],k+1,_,_,hn=>by
  have h1:∀s:Int,58≤s→s∉cB n:=fun s hs hx=>by have :=xQ n s hx;omega
  rw[show yV [n]=cB n from rfl,oC k (h1 59 qZ)];simp only[List.map_cons,List.map_nil];rw[oC 7 (h1 58 qZ)];simp only[List.map_cons,List.map_nil];rw[Ka n (hn n qV)]
 |n::m::l,0,_,h,_=>absurd h qV
 |n::m::l,k+1,_,hk,hn=>by
  have h1:∀s:Int,58≤s→s∉cB n:=fun s hs hx=>by have :=xQ n s hx;omega
  rw[show yV (n::m::l)=cB n++59::yV (m::l)from rfl,Vc k _ (h1 59 qZ),List.map_cons,aX (m::l) k qV (by simp at hk ⊢;omega) (fun x hx=>hn x (List.mem_cons_of_mem _ hx)),oC 7 (h1 58 qZ)];simp only[List.map_cons,List.map_nil];rw[Ka n (hn n qV)]
theorem fO.nil{ev:Tm→Ev→Tm}{Ok:Tm→Ev→Prop}{t:Tm}:fO ev Ok t []:=fun k c h=>by simp at h
theorem fO.cons{ev:Tm→Ev→Tm}{Ok:Tm→Ev→Prop}{t:Tm}{c:Int}{bs:List Int}(h:lP ev Ok {t with pz:=(vN t.pz c).1} (vN t.pz c).2)(hs:fO ev Ok (QF ev t c) bs):fO ev Ok t (c::bs):=fun k x hx=>by
 match k,hx with
 |0,hx=>obtain rfl:c=x:=by simpa using hx
        exact h
 |k+1,hx=>exact hs k x (by simpa using hx)
section
variable {P:Program}
theorem rT{fn:Func}{p u:Tmp}{ty:TypeId}(h:fn.results=#[.cell p ty,.tmp u])(tmps:Array Value)(w:World):
 (results fn tmps).run P w=((asAddr (tmps.getD p undef)).run P w).andThen fun a w1=>((loadVar ty a).run P w1).andThen fun v w2=>.ok (.tuple #[v,tmps.getD u undef]) w2:=by
 simp only[results,h];simp[Sem.run_bind,Result.andThen]
theorem pH{fn:Func}{u p:Tmp}{ty:TypeId}{d:TypeDesc}(hr:fn.results=#[.cell p ty,.tmp u])(tmps:Array Value)(w:World)(b:Nat)(cs:List Value)(hp:tmps.getD p undef=.pointer (some ⟨b,0,none⟩))(h:w.rangeAt b 0 cs)
 (hu:P.underlying ty=some d) (hd:d.isRow=true) (hi:(P.info? ty).map (·.size)=some cs.length):(results fn tmps).run P w=.ok (.tuple #[.agg cs.toArray,tmps.getD u undef]) w:=by
 rw[rT hr,hp];have :=run_loadVar_mid (P:=P) w b 0 ty cs _ h hu hd hi;simp only[asAddr,Sem.run_pure,Result.andThen_ok,this]
end
theorem sB(v lo hi:Int)(w:World)(h1:0≤lo)(h2:lo≤1000)(h3:0≤hi)(h4:hi≤1000)(hv:0≤v)(hv2:v≤65535):Calls jG 387 #[.int .i64 v,.int .i64 lo,.int .i64 hi] w (Kh v lo hi w):=by
 have w1:jE.wrap (lo+8)=lo+8:=jF _ qJ;have w2:jE.wrap (hi+8)=hi+8:=jF _ qJ;have w3:jE.wrap (v-lo)=v-lo:=jF _ qJ;have w4:jE.wrap (v-hi)=v-hi:=jF _ qJ;have w5:jE.wrap (v-hi+8)=v-hi+8:=jF _ qJ;have w6:jE.wrap (lo+9)=lo+9:=jF _ qJ;unfold Kh cG
 by_cases a1:lo≤v∧v<lo+8
 · rw[if_pos a1];obtain⟨b1,b2⟩:=a1
   go_enter Tryz.func387,Tryz.ntmps387
   go_wp2
   exact bodyPost_ret (pH rfl _ _ w.heap.size [.int .i64 1,.int .i64 (v-lo)] rfl (uU (jA rfl)) Tryz.underlying61 rfl gB) rfl ⟨rfl,jH (jU _ _) _⟩
 rw[if_neg a1];have a1':(lo≤v∧¬v<lo+8)∨¬lo≤v:=by omega
 clear a1
 by_cases a2:hi≤v∧v<hi+8
 · rw[if_pos a2];obtain⟨b1,b2⟩:=a2;rcases a1' with⟨c1,c2⟩|c1
   all_goals
    go_enter Tryz.func387,Tryz.ntmps387
    go_wp2
    exact bodyPost_ret (pH rfl _ _ w.heap.size [.int .i64 1,.int .i64 (v-hi+8)] rfl (uU (jA rfl)) Tryz.underlying61 rfl gB) rfl ⟨rfl,jH (jU _ _) _⟩
 · rw[if_neg a2];have a2':(hi≤v∧¬v<hi+8)∨¬hi≤v:=by omega
   clear a2;rcases a1' with⟨c1,c2⟩|c1<;>rcases a2' with⟨d1,d2⟩|d1
   all_goals
    go_enter Tryz.func387,Tryz.ntmps387
    go_wp2
    exact bodyPost_ret (pH rfl _ _ w.heap.size [.int .i64 0,.int .i64 0] rfl (uU (jA rfl)) Tryz.underlying61 rfl gB) rfl ⟨rfl,jH (jU _ _) _⟩
def f21(f v:Int):Int:=if v=21 then bits .or .i64 (bits .andNot .i64 f 8) 256 else f
def aT(f v:Int):Int:=bits .andNot .i64 (bits .or .i64 (f21 f v) (JJ v)) (nP v)
def UU(a:Atr)(v:Int):Atr:=
 ⟨if(cG v 30 90).2 then(cG v 30 90).1.k else a.fk,if(cG v 30 90).2 then(cG v 30 90).1.n else a.fn,if(cG v 40 100).2 then(cG v 40 100).1.k else a.bk,if(cG v 40 100).2 then(cG v 40 100).1.n else a.bn,aT a.fl v⟩
def iR(a:Atr)(w:World)(e:Ending)(w':World):Prop:=e=.returned (.agg (aL a).toArray)∧Below w.heap.size w w'
theorem uH{w:World}{b b2 i:Nat}{v:Value}{o:Obj}(h:w.heap[b]? =some o)(hn:b≠b2):(w.setCell ⟨b2,i,none⟩ v).heap[b]? =some o:=(vR hn).trans h
set_option maxHeartbeats 6400000 in
theorem Zd(a:Atr)(v:Int)(w:World)(hv0:v≠0)(hv:0≤v)(hv2:v≤65535):Calls jG 362 #[.agg (aL a).toArray,.int .i64 v] w (iR (UU a v) w):=by
 have HS:=Hd (fun w=>Y3 v w);have HC:=Hd (fun w=>Zh v w);have HP1:=Hd (fun w=>sB v 30 90 w qZ qZ qZ qZ hv hv2);have HP2:=Hd (fun w=>sB v 40 100 w qZ qZ qZ qZ hv hv2);unfold Kh at HP1 HP2;obtain⟨fk,fn,bk,bn,fl⟩:=a;unfold UU aT;simp only[];obtain⟨p1,hp1⟩:∃p,cG v 30 90=p:=⟨_,rfl⟩;obtain⟨p2,hp2⟩:∃p,cG v 40 100=p:=⟨_,rfl⟩;rw[hp1]at HP1 ⊢;rw[hp2]at HP2 ⊢;clear hp1 hp2;obtain⟨⟨k1,n1⟩,o1⟩:=p1;obtain⟨⟨k2,n2⟩,o2⟩:=p2;simp only[]at HP1 HP2 ⊢;obtain⟨sv,hsv⟩:∃sv,JJ v=sv:=⟨_,rfl⟩;obtain⟨cv,hcv⟩:∃sv,nP v=sv:=⟨_,rfl⟩;rw[hsv]at HS ⊢;rw[hcv]at HC ⊢;clear hsv hcv;have hv0q:(v==0)=false:=beq_eq_false_iff_ne.2 hv0;unfold f21 aL;simp only[];obtain⟨g1,hg1⟩:∃g,(if o1=true then k1 else fk)=g:=⟨_,rfl⟩;obtain⟨g2,hg2⟩:∃g,(if o1=true then n1 else fn)=g:=⟨_,rfl⟩;obtain⟨g3,hg3⟩:∃g,(if o2=true then k2 else bk)=g:=⟨_,rfl⟩;obtain⟨g4,hg4⟩:∃g,(if o2=true then n2 else bn)=g:=⟨_,rfl⟩;rw[hg1,hg2,hg3,hg4];have HG1:=Hd (kX hg1 hg2);have HG2:=Hd (kX hg3 hg4);clear hg1 hg2 hg3 hg4
 by_cases h21:v=21
 · rw[if_pos h21];have hq:(v==21)=true:=by rw[h21];rfl
   obtain⟨f1,hf1⟩:∃f1,bits .or .i64 (bits .andNot .i64 fl 8) 256=f1:=⟨_,rfl⟩;rw[hf1];obtain⟨FB,hFB⟩:∃FB,bits .andNot .i64 (bits .or .i64 f1 sv) cv=FB:=⟨_,rfl⟩;rw[hFB];have HFB:=Hd hFB;clear h21 hv0 hv hv2 hFB
   go_enter Tryz.func362,Tryz.ntmps362
   go_upto_region 4 with fail
   generalize hW:World.alloc _ _=W2;have hx:W2.heap[w.heap.size]? =some (.cells (aL ⟨fk,fn,bk,bn,fl⟩).toArray 63 (0,0)):=by rw[←hW];exact uA (jA rfl)
   have hy:W2.heap[w.heap.size+1]? =some (.cells (aL vI).toArray 63 (0,0)):=by rw[←hW];exact jA qV
   have hb:Below w.heap.size w W2:=by rw[←hW];exact jH (jH (jU _ _) _) _
   clear hW;obtain⟨c4,f4⟩:=at_ hx 4 (.int .i64 fl) rfl
   go_upto_region 5 with fail
   have hx5:(W2.setCell ⟨w.heap.size,4,none⟩ (.int .i64 f1)).heap[w.heap.size]? =some (.cells (aL ⟨fk,fn,bk,bn,f1⟩).toArray 63 (0,0)):=kA hx 4 _ rfl;have hy5:=uH (i:=4) (v:=.int .i64 f1) hy (show w.heap.size+1≠w.heap.size by omega);have hb5:=uK hb (jD w.heap.size) (o:=4) (.int .i64 f1);clear hx hy hb c4 f4 hf1 hq hv0q;generalize W2.setCell ⟨w.heap.size,4,none⟩ (.int .i64 f1)=W5 at hx5 hy5 hb5 ⊢;have HX5:=Hd hx5;have HY5:=Hd hy5;have HB5:=Hd hb5;obtain⟨c4,f4⟩:=at_ hx5 4 (.int .i64 f1) rfl;clear hx5 hy5 hb5;refine kH 9 (fun w'=>Below W5.heap.size W5 w'∧w'.cell? ⟨w.heap.size,4,none⟩=some (.int .i64 f1)) qQ qQ ?_ ?_
   · exact⟨(jU _ _).drew,c4⟩
   simp only[jS,kK,jR,jO]
   repeat(
    (first
     |refine kF qK ?_
     |((refine uT 385 #[.int .i64 v] (.int .i64 sv) qK ?_ (fun w' hS=>(HS.o w').mono fun e w2 ⟨he,hw⟩=>⟨he,hw▸hS⟩) ?_;(focus(intro w2;go_simp;done))))
     |((refine uT 386 #[.int .i64 v] (.int .i64 cv) qK ?_ (fun w' hS=>(HC.o w').mono fun e w2 ⟨he,hw⟩=>⟨he,hw▸hS⟩) ?_;(focus(intro w2;go_simp;done))))
     |(refine kE ?_ qK ?_ ?_;rotate_left;(focus(intro w' hS;obtain⟨_,_⟩:=hS;go_simp;first|done|with_reducible rfl))))
    simp only[Act.put,jZ,jX,jY])
   refine kO (fun w' hS=>?_);have hx6:=(hS.1.block _ (jL HX5.o)).trans HX5.o;have hy6:=(hS.1.block _ (jL HY5.o)).trans HY5.o;have hb6:=jM HB5.o hS.1;clear hS c4 f4;obtain⟨c4,f4⟩:=at_ hx6 4 (.int .i64 f1) rfl;have hFB:=HFB.o
   go_upto_region 6 with fail
   have hx7:(w'.setCell ⟨w.heap.size,4,none⟩ (.int .i64 FB)).heap[w.heap.size]? =some (.cells (aL ⟨fk,fn,bk,bn,FB⟩).toArray 63 (0,0)):=kA hx6 4 _ rfl;have hy7:=uH (i:=4) (v:=.int .i64 FB) hy6 (show w.heap.size+1≠w.heap.size by omega);have hb7:=uK hb6 (jD w.heap.size) (o:=4) (.int .i64 FB);clear hx6 hy6 hb6 c4 f4 hFB;generalize w'.setCell ⟨w.heap.size,4,none⟩ (.int .i64 FB)=W7 at hx7 hy7 hb7 ⊢;have HX:=Hd hx7;have HY:=Hd hy7;have HB:=Hd hb7;clear hx7 hy7 hb7 HX5 HY5 HB5
   go_upto_region 7 with(go_at_call 387;(with_reducible refine(HP1.o _).mono ?_);rintro e w8 ⟨rfl,hb8⟩;have HB8:=Hd hb8;clear hb8)
   generalize hW8:World.alloc _ _=W8;have hb8:Below w8.heap.size w8 W8:=by rw[←hW8];exact jH (jU _ _) _
   have hc8:W8.heap[w8.heap.size]? =some (.cells #[.int .i64 k1,.int .i64 n1] 61 (0,0)):=by rw[←hW8];exact jA rfl
   have hb9:=jM HB8.o hb8;have hx9:=(hb9.block _ (jL HX.o)).trans HX.o;have hy9:=(hb9.block _ (jL HY.o)).trans HY.o;have hB9:=jM HB.o hb9;clear hW8 hb8 hb9 HB8 HX HY HB;obtain⟨d0,-⟩:=at_ hc8 0 (.int .i64 k1) rfl;obtain⟨d1,-⟩:=at_ hc8 1 (.int .i64 n1) rfl;obtain⟨x0,x0f⟩:=at_ hx9 0 (.int .i64 fk) rfl;obtain⟨x1,x1f⟩:=at_ hx9 1 (.int .i64 fn) rfl;have HX9:=Hd hx9;have HY9:=Hd hy9;have HB9:=Hd hB9;clear hc8 hx9 hy9 hB9;cases o1
   case' false=>
    go_upto_region 9 with fail
    clear d0 d1 x0 x0f x1 x1f;have HX:Hid (W8.heap[w.heap.size]? =some (.cells (aL ⟨g1,g2,bk,bn,FB⟩).toArray 63 (0,0))):=Hd (by rw[←HG1.o.1,←HG1.o.2];exact HX9.o);have HY:=HY9;have HB:=HB9
    rename World=>W9
   case' true=>
    go_upto_region 9 with fail
    have HX:Hid (((W8.setCell ⟨w.heap.size,0,none⟩ (.int .i64 k1)).setCell ⟨w.heap.size,1,none⟩ (.int .i64 n1)).heap[w.heap.size]? =some (.cells (aL ⟨g1,g2,bk,bn,FB⟩).toArray 63 (0,0))):=Hd qVj;have HY:Hid (((W8.setCell ⟨w.heap.size,0,none⟩ (.int .i64 k1)).setCell ⟨w.heap.size,1,none⟩ (.int .i64 n1)).heap[w.heap.size+1]? =some (.cells (aL vI).toArray 63 (0,0))):=Hd (uH (uH HY9.o qJ) qJ);have HB:=Hd (uK (uK HB9.o (jD w.heap.size) (o:=0) (.int .i64 k1)) (jD w.heap.size) (o:=1) (.int .i64 n1));clear d0 d1 x0 x0f x1 x1f;generalize (W8.setCell ⟨w.heap.size,0,none⟩ (.int .i64 k1)).setCell ⟨w.heap.size,1,none⟩ (.int .i64 n1)=W9 at HX HY HB ⊢
   all_goals
    clear HX9 HY9 HB9 HP1
    go_upto_region 10 with(go_at_call 387;(with_reducible refine(HP2.o _).mono ?_);rintro e w10 ⟨rfl,hb10⟩;have HB10:=Hd hb10;clear hb10)
    generalize hW10:World.alloc _ _=W10;have hb11:Below w10.heap.size w10 W10:=by rw[←hW10];exact jH (jU _ _) _
    have hc11:W10.heap[w10.heap.size]? =some (.cells #[.int .i64 k2,.int .i64 n2] 61 (0,0)):=by rw[←hW10];exact jA rfl
    have hb12:=jM HB10.o hb11;have hx12:=(hb12.block _ (jL HX.o)).trans HX.o;have hy12:=(hb12.block _ (jL HY.o)).trans HY.o;have hB12:=jM HB.o hb12;clear hW10 hb11 hb12 HB10 HX HY HB;obtain⟨d0,-⟩:=at_ hc11 0 (.int .i64 k2) rfl;obtain⟨d1,-⟩:=at_ hc11 1 (.int .i64 n2) rfl;obtain⟨x2,x2f⟩:=at_ hx12 2 (.int .i64 bk) rfl;obtain⟨x3,x3f⟩:=at_ hx12 3 (.int .i64 bn) rfl;have HX12:=Hd hx12;have HY12:=Hd hy12;have HB12:=Hd hB12;clear hc11 hx12 hy12 hB12;cases o2
    case' false=>
     go_upto_region 12 with fail
     clear d0 d1 x2 x2f x3 x3f;have HX:Hid (W10.heap[w.heap.size]? =some (.cells (aL ⟨g1,g2,g3,g4,FB⟩).toArray 63 (0,0))):=Hd (by rw[←HG2.o.1,←HG2.o.2];exact HX12.o);have HY:=HY12;have HB:=HB12
     rename World=>W11
    case' true=>
     go_upto_region 12 with fail
     have HX:Hid (((W10.setCell ⟨w.heap.size,2,none⟩ (.int .i64 k2)).setCell ⟨w.heap.size,3,none⟩ (.int .i64 n2)).heap[w.heap.size]? =some (.cells (aL ⟨g1,g2,g3,g4,FB⟩).toArray 63 (0,0))):=Hd qVi;have HY:Hid (((W10.setCell ⟨w.heap.size,2,none⟩ (.int .i64 k2)).setCell ⟨w.heap.size,3,none⟩ (.int .i64 n2)).heap[w.heap.size+1]? =some (.cells (aL vI).toArray 63 (0,0))):=Hd (uH (uH HY12.o qJ) qJ);have HB:=Hd (uK (uK HB12.o (jD w.heap.size) (o:=2) (.int .i64 k2)) (jD w.heap.size) (o:=3) (.int .i64 n2));clear d0 d1 x2 x2f x3 x3f;generalize (W10.setCell ⟨w.heap.size,2,none⟩ (.int .i64 k2)).setCell ⟨w.heap.size,3,none⟩ (.int .i64 n2)=W11 at HX HY HB ⊢
    all_goals
     clear HX12 HY12 HB12 HP2;refine wp_region_lit ?_;refine uO qK 63 (.tmp 2) rfl (w.heap.size) (0) rfl (aL ⟨g1,g2,g3,g4,FB⟩) _ (uU HX.o) Tryz.underlying63 rfl pD ?_;simp only[Act.put,jZ,jX,jY];refine wpList_store_mid rfl 63 (.tmp 4) (.tmp 44) rfl (w.heap.size+1) (0) ((aL ⟨g1,g2,g3,g4,FB⟩).toArray) rfl rfl ((show World.there _ (w.heap.size+1) 0 5 from pX HY.o)) pD (all_oneCell_toArray (Wl _)) ?_;simp only[Act.put]
     go_wp2
     have hw:=uC (aL ⟨g1,g2,g3,g4,FB⟩) 0 _ _ HY.o (by simp[aL]);exact qZp
 · rw[if_neg h21];have hq:(v==21)=false:=beq_eq_false_iff_ne.2 h21;obtain⟨FB,hFB⟩:∃FB,bits .andNot .i64 (bits .or .i64 fl sv) cv=FB:=⟨_,rfl⟩;rw[hFB];have HFB:=Hd hFB;clear h21 hv0 hv hv2 hFB
   go_enter Tryz.func362,Tryz.ntmps362
   go_upto_region 5 with fail
   generalize hW:World.alloc _ _=W5;have hx5:W5.heap[w.heap.size]? =some (.cells (aL ⟨fk,fn,bk,bn,fl⟩).toArray 63 (0,0)):=by rw[←hW];exact uA (jA rfl)
   have hy5:W5.heap[w.heap.size+1]? =some (.cells (aL vI).toArray 63 (0,0)):=by rw[←hW];exact jA qV
   have hb5:Below w.heap.size w W5:=by rw[←hW];exact jH (jH (jU _ _) _) _
   clear hW hq hv0q;have HX5:=Hd hx5;have HY5:=Hd hy5;have HB5:=Hd hb5;obtain⟨c4,f4⟩:=at_ hx5 4 (.int .i64 fl) rfl;clear hx5 hy5 hb5;refine kH 9 (fun w'=>Below W5.heap.size W5 w'∧w'.cell? ⟨w.heap.size,4,none⟩=some (.int .i64 fl)) qQ qQ ?_ ?_
   · exact⟨(jU _ _).drew,c4⟩
   simp only[jS,kK,jR,jO]
   repeat(
    (first
     |refine kF qK ?_
     |((refine uT 385 #[.int .i64 v] (.int .i64 sv) qK ?_ (fun w' hS=>(HS.o w').mono fun e w2 ⟨he,hw⟩=>⟨he,hw▸hS⟩) ?_;(focus(intro w2;go_simp;done))))
     |((refine uT 386 #[.int .i64 v] (.int .i64 cv) qK ?_ (fun w' hS=>(HC.o w').mono fun e w2 ⟨he,hw⟩=>⟨he,hw▸hS⟩) ?_;(focus(intro w2;go_simp;done))))
     |(refine kE ?_ qK ?_ ?_;rotate_left;(focus(intro w' hS;obtain⟨_,_⟩:=hS;go_simp;first|done|with_reducible rfl))))
    simp only[Act.put,jZ,jX,jY])
   refine kO (fun w' hS=>?_);have hx6:=(hS.1.block _ (jL HX5.o)).trans HX5.o;have hy6:=(hS.1.block _ (jL HY5.o)).trans HY5.o;have hb6:=jM HB5.o hS.1;clear hS c4 f4;obtain⟨c4,f4⟩:=at_ hx6 4 (.int .i64 fl) rfl;have hFB:=HFB.o
   go_upto_region 6 with fail
   have hx7:(w'.setCell ⟨w.heap.size,4,none⟩ (.int .i64 FB)).heap[w.heap.size]? =some (.cells (aL ⟨fk,fn,bk,bn,FB⟩).toArray 63 (0,0)):=kA hx6 4 _ rfl;have hy7:=uH (i:=4) (v:=.int .i64 FB) hy6 (show w.heap.size+1≠w.heap.size by omega);have hb7:=uK hb6 (jD w.heap.size) (o:=4) (.int .i64 FB);clear hx6 hy6 hb6 c4 f4 hFB;generalize w'.setCell ⟨w.heap.size,4,none⟩ (.int .i64 FB)=W7 at hx7 hy7 hb7 ⊢;have HX:=Hd hx7;have HY:=Hd hy7;have HB:=Hd hb7;clear hx7 hy7 hb7 HX5 HY5 HB5
   go_upto_region 7 with(go_at_call 387;(with_reducible refine(HP1.o _).mono ?_);rintro e w8 ⟨rfl,hb8⟩;have HB8:=Hd hb8;clear hb8)
   generalize hW8:World.alloc _ _=W8;have hb8:Below w8.heap.size w8 W8:=by rw[←hW8];exact jH (jU _ _) _
   have hc8:W8.heap[w8.heap.size]? =some (.cells #[.int .i64 k1,.int .i64 n1] 61 (0,0)):=by rw[←hW8];exact jA rfl
   have hb9:=jM HB8.o hb8;have hx9:=(hb9.block _ (jL HX.o)).trans HX.o;have hy9:=(hb9.block _ (jL HY.o)).trans HY.o;have hB9:=jM HB.o hb9;clear hW8 hb8 hb9 HB8 HX HY HB;obtain⟨d0,-⟩:=at_ hc8 0 (.int .i64 k1) rfl;obtain⟨d1,-⟩:=at_ hc8 1 (.int .i64 n1) rfl;obtain⟨x0,x0f⟩:=at_ hx9 0 (.int .i64 fk) rfl;obtain⟨x1,x1f⟩:=at_ hx9 1 (.int .i64 fn) rfl;have HX9:=Hd hx9;have HY9:=Hd hy9;have HB9:=Hd hB9;clear hc8 hx9 hy9 hB9;cases o1
   case' false=>
    go_upto_region 9 with fail
    clear d0 d1 x0 x0f x1 x1f;have HX:Hid (W8.heap[w.heap.size]? =some (.cells (aL ⟨g1,g2,bk,bn,FB⟩).toArray 63 (0,0))):=Hd (by rw[←HG1.o.1,←HG1.o.2];exact HX9.o);have HY:=HY9;have HB:=HB9
    rename World=>W9
   case' true=>
    go_upto_region 9 with fail
    have HX:Hid (((W8.setCell ⟨w.heap.size,0,none⟩ (.int .i64 k1)).setCell ⟨w.heap.size,1,none⟩ (.int .i64 n1)).heap[w.heap.size]? =some (.cells (aL ⟨g1,g2,bk,bn,FB⟩).toArray 63 (0,0))):=Hd qVj;have HY:Hid (((W8.setCell ⟨w.heap.size,0,none⟩ (.int .i64 k1)).setCell ⟨w.heap.size,1,none⟩ (.int .i64 n1)).heap[w.heap.size+1]? =some (.cells (aL vI).toArray 63 (0,0))):=Hd (uH (uH HY9.o qJ) qJ);have HB:=Hd (uK (uK HB9.o (jD w.heap.size) (o:=0) (.int .i64 k1)) (jD w.heap.size) (o:=1) (.int .i64 n1));clear d0 d1 x0 x0f x1 x1f;generalize (W8.setCell ⟨w.heap.size,0,none⟩ (.int .i64 k1)).setCell ⟨w.heap.size,1,none⟩ (.int .i64 n1)=W9 at HX HY HB ⊢
   all_goals
    clear HX9 HY9 HB9 HP1
    go_upto_region 10 with(go_at_call 387;(with_reducible refine(HP2.o _).mono ?_);rintro e w10 ⟨rfl,hb10⟩;have HB10:=Hd hb10;clear hb10)
    generalize hW10:World.alloc _ _=W10;have hb11:Below w10.heap.size w10 W10:=by rw[←hW10];exact jH (jU _ _) _
    have hc11:W10.heap[w10.heap.size]? =some (.cells #[.int .i64 k2,.int .i64 n2] 61 (0,0)):=by rw[←hW10];exact jA rfl
    have hb12:=jM HB10.o hb11;have hx12:=(hb12.block _ (jL HX.o)).trans HX.o;have hy12:=(hb12.block _ (jL HY.o)).trans HY.o;have hB12:=jM HB.o hb12;clear hW10 hb11 hb12 HB10 HX HY HB;obtain⟨d0,-⟩:=at_ hc11 0 (.int .i64 k2) rfl;obtain⟨d1,-⟩:=at_ hc11 1 (.int .i64 n2) rfl;obtain⟨x2,x2f⟩:=at_ hx12 2 (.int .i64 bk) rfl;obtain⟨x3,x3f⟩:=at_ hx12 3 (.int .i64 bn) rfl;have HX12:=Hd hx12;have HY12:=Hd hy12;have HB12:=Hd hB12;clear hc11 hx12 hy12 hB12;cases o2
    case' false=>
     go_upto_region 12 with fail
     clear d0 d1 x2 x2f x3 x3f;have HX:Hid (W10.heap[w.heap.size]? =some (.cells (aL ⟨g1,g2,g3,g4,FB⟩).toArray 63 (0,0))):=Hd (by rw[←HG2.o.1,←HG2.o.2];exact HX12.o);have HY:=HY12;have HB:=HB12
     rename World=>W11
    case' true=>
     go_upto_region 12 with fail
     have HX:Hid (((W10.setCell ⟨w.heap.size,2,none⟩ (.int .i64 k2)).setCell ⟨w.heap.size,3,none⟩ (.int .i64 n2)).heap[w.heap.size]? =some (.cells (aL ⟨g1,g2,g3,g4,FB⟩).toArray 63 (0,0))):=Hd qVi;have HY:Hid (((W10.setCell ⟨w.heap.size,2,none⟩ (.int .i64 k2)).setCell ⟨w.heap.size,3,none⟩ (.int .i64 n2)).heap[w.heap.size+1]? =some (.cells (aL vI).toArray 63 (0,0))):=Hd (uH (uH HY12.o qJ) qJ);have HB:=Hd (uK (uK HB12.o (jD w.heap.size) (o:=2) (.int .i64 k2)) (jD w.heap.size) (o:=3) (.int .i64 n2));clear d0 d1 x2 x2f x3 x3f;generalize (W10.setCell ⟨w.heap.size,2,none⟩ (.int .i64 k2)).setCell ⟨w.heap.size,3,none⟩ (.int .i64 n2)=W11 at HX HY HB ⊢
    all_goals
     clear HX12 HY12 HB12 HP2;refine wp_region_lit ?_;refine uO qK 63 (.tmp 2) rfl (w.heap.size) (0) rfl (aL ⟨g1,g2,g3,g4,FB⟩) _ (uU HX.o) Tryz.underlying63 rfl pD ?_;simp only[Act.put,jZ,jX,jY];refine wpList_store_mid rfl 63 (.tmp 4) (.tmp 44) rfl (w.heap.size+1) (0) ((aL ⟨g1,g2,g3,g4,FB⟩).toArray) rfl rfl ((show World.there _ (w.heap.size+1) 0 5 from pX HY.o)) pD (all_oneCell_toArray (Wl _)) ?_;simp only[Act.put]
     go_wp2
     have hw:=uC (aL ⟨g1,g2,g3,g4,FB⟩) 0 _ _ HY.o (by simp[aL]);exact qZp
end Go.Proofs.YtaefcahblmopfaaGreatDoor
