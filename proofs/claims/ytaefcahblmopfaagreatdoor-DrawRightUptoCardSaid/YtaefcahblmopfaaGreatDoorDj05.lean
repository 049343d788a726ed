/- Joined by a tool of this claim out of smaller texts. Conditions: as stated. -/
import Derived.Test.YtaefcahblmopfaaGreatDoorDj04
import Derived.Laws.BytesArg
import Derived.Laws.BitsAllLaws
import Derived.Below
set_option linter.unusedVariables false
set_option linter.unusedSimpArgs false
set_option maxRecDepth 100000
open Go.Lib renaming hid → Hd
open List renaming setIfInBounds_toArray → jZ, set_cons_zero → jX, set_cons_succ → jY, mem_singleton → jM, getElem?_eq_getElem → jN, getElem?_eq_some_iff → jP, drop_succ_cons → jL, take_succ_cons → jS, drop_zero → jO, mem_cons → kJ, take_zero → kK, mem_append → kU, replicate → kN, getElem?_eq_none → uZ, getElem?_map → uX, mem_of_getElem? → uB, getElem?_drop → gN
open Go.Proofs.Tryz renaming prog → jG
open Go.RowKit.Below renaming refl → jU
open Nat renaming le_refl → jD, zero_le → kM, zero_add → kP
open Go.IntWalk renaming i64_in → jF
open Go.IntKind renaming i64 → jE
open ByteArray renaming empty → kH
open Go.World renaming setCell → uN
open Int renaming toNat_natCast → vV
namespace Go.Proofs.YtaefcahblmopfaaGreatDoor
open Go.RowKit
theorem Xm(r:Int)(w:World):Calls jG 170 #[.int .i32 r] w fun e w'=>e=.returned (.bool (vE r))∧w=w':=by
 unfold vE
 by_cases h1:0≤r<;>by_cases h2:r≤1114111<;>by_cases h3:r<55296<;>
 · go_enter Tryz.func170,Tryz.ntmps170
   go_wp2
   go_ret
   refine⟨?_,rfl⟩;simp[h1,h2,h3]
   try omega
def tailV(r:Int):Nat→Int
 |0=>128+r%64
 |1=>128+r/64%64
 |_=>128+r/4096%64
theorem Wg(r:Int)(k g:Nat)(hk:k≤2)(h0:0≤r)(h1:r≤1114111)(w:World)(hg:w.cell? ⟨g,0,none⟩=some (.int .i32 r)):Calls jG 169 #[.int .i64 k,.pointer (some ⟨g,0,none⟩)] w fun e w'=>e=.returned (.int .u8 (tailV r k))∧w=w':=by
 rcases k with _|_|_|k
 · go_enter Tryz.func169,Tryz.ntmps169
   go_wp2
   go_ret
   exact⟨rfl,rfl⟩
 · go_enter Tryz.func169,Tryz.ntmps169
   go_wp2
   go_ret
   exact⟨rfl,rfl⟩
 · go_enter Tryz.func169,Tryz.ntmps169
   go_wp2
   go_ret
   exact⟨rfl,rfl⟩
 · omega
theorem Ki(h i:Nat)(x:Int)(hh:h<256)(hx0:0≤x)(hx1:x<256)(hd:h%2 ^ i=0)(hx:x.toNat<2 ^ i):bits .or .u8 (h:Int) x=h+x:=by
 rw[u8_or _ _ qJ qJ hx0 hx1,vV,nat_join i _ _ hd hx];omega
theorem sE(xs:List Int)(n c g:Nat)(w:World)(t:TypeId)(h:w.heap[g]? =some (.cells (xs.map (Value.int .u8)).toArray t (0,0)))(hn:xs.length=n):
 (convert 23 9 (.slice (some ⟨g,0,none⟩) n c)).run jG w=.ok (.string (strOfNums xs)) w:=by
 refine run_convert_bytes_arg w 23 5 Tryz.underlying23 Tryz.underlying5 g 0 n c xs hn (fun i hi=>?_) 9 Tryz.underlying9;rw[kP];refine(at_ h i _ ?_).1;rw[List.getElem?_toArray,uX,jN qJ];simp[List.getD,jN (show i<xs.length by omega)]
set_option maxHeartbeats 1600000 in
theorem lO(r:Int)(w:World):Calls jG 102 #[.int .i32 r] w fun e w'=>e=.returned (.string (vD r))∧Below w.heap.size w w':=by
 have HS:=Hd (fun w=>Xm r w);cases hs:vE r with
 |false=>
  have HV:=Hd (show vD r=kH from by unfold vD;rw[hs];rfl);rw[hs]at HS;clear hs
  go_enter Tryz.func102,Tryz.ntmps102
  go_wp2_with(go_at_call 170;refine(HS.o _).mono ?_;rintro e w1 ⟨rfl,rfl⟩)
  go_ret
  rw[HV.o];exact⟨rfl,jH (jU _ _) _⟩
 |true=>
  rw[hs]at HS;have hr:0≤r∧r≤1114111:=by unfold vE at hs;simp at hs;omega
  obtain⟨hr0,hr1⟩:=hr
  by_cases hA:r<128
  · have HV:=Hd (show vD r=⟨#[r.toNat.toUInt8]⟩from by unfold vD;rw[hs,if_pos rfl,if_pos hA]);clear hs;have hcv:=sE [r] 1 1 (w.heap.size+1) ((w.alloc (.cells #[.int .i32 r] 21)).alloc (.cells #[.int .u8 r] 5)) 5 (jT qV) rfl
    go_enter Tryz.func102,Tryz.ntmps102
    go_wp2_with(go_at_call 170;refine(HS.o _).mono ?_;rintro e w1 ⟨rfl,rfl⟩)
    go_ret
    rw[HV.o];exact⟨rfl,jH (jH (jU _ _) _) _⟩
  have x0:(w.alloc (.cells #[.int .i32 r] 21)).cell? ⟨w.heap.size,0,none⟩=some (.int .i32 r):=(at_ (jT rfl) 0 _ rfl).1;have HX0:=Hd x0;have HB0:=Hd (jH (jU w.heap.size w) (.cells #[.int .i32 r] 21));clear x0;have HT:Hid (∀(k:Nat),k≤2→∀(w2:World),w2.cell? ⟨w.heap.size,0,none⟩=some (.int .i32 r)→Calls jG 169 #[.int .i64 k,.pointer (some ⟨w.heap.size,0,none⟩)] w2 fun e w'=>e=.returned (.int .u8 (tailV r k))∧w2=w'):=Hd (fun k hk w2 h=>Wg r k w.heap.size hk hr0 hr1 w2 h)
  by_cases hB:r<2048
  · have HV:=Hd (show vD r=⟨#[(192+r/64).toNat.toUInt8,(128+r%64).toNat.toUInt8]⟩from by unfold vD;rw[hs,if_pos rfl,if_neg (show ¬r<0x80 from hA),if_pos hB]);clear hs;have hw8:IntKind.u8.wrap (r/64)=r/64:=by rw[IntKind.wrap_u8'];omega
    have hor:bits .or .u8 192 (r/64)=192+r/64:=Ki 192 5 (r/64) qJ qJ qJ qZ qJ
    go_enter Tryz.func102,Tryz.ntmps102
    go_upto_region 7 with(go_at_call 170;refine(HS.o _).mono ?_;rintro e w1 ⟨rfl,rfl⟩)
    generalize World.alloc _ _=W at HX0 HB0 ⊢;have x0:=HX0.o;refine kW 6 (fun w'=>Below W.heap.size W w'∧w'.cell? ⟨w.heap.size,0,none⟩=some (.int .i32 r)) qQ qQ ?_ ?_
    · exact⟨(jU _ _).drew,x0⟩
    simp only[jS,kK,jL,jO]
    repeat(
     (first
      |refine kF qK ?_
      |(refine uO 169 #[.int .i64 0,.pointer (some ⟨w.heap.size,0,none⟩)] (.int .u8 (128+r%64)) qK ?_ (fun w' hS=>(HT.o 0 qJ w' hS.2).mono (fun e w'' h=>⟨h.1,h.2▸hS⟩)) ?_;(focus(intro w2;go_simp;done)))
      |(refine kT ?_ qK ?_ ?_;rotate_left;(focus(intro w' hS;obtain⟨_,_⟩:=hS;go_simp;first|done|with_reducible rfl))))
     simp only[Act.put,jZ,jX,jY])
    refine kE (fun w' hS=>?_);have HB1:=Hd (jW HB0.o hS.1);have hcv:=sE [192+r/64,128+r%64] 2 2 w'.heap.size (w'.alloc (.cells #[.int .u8 (192+r/64),.int .u8 (128+r%64)] 5)) 5 (jT rfl) rfl;clear hS x0 hw8 hor
    go_wp2
    go_ret
    rw[HV.o];exact⟨rfl,jH HB1.o _⟩
  by_cases hC:r<65536
  · have HV:=Hd (show vD r=⟨#[(224+r/4096).toNat.toUInt8,(128+r/64%64).toNat.toUInt8,(128+r%64).toNat.toUInt8]⟩from by unfold vD;rw[hs,if_pos rfl,if_neg (show ¬r<0x80 from hA),if_neg (show ¬r<0x800 from hB),if_pos hC]);clear hs;have hw8:IntKind.u8.wrap (r/4096)=r/4096:=by rw[IntKind.wrap_u8'];omega
    have hor:bits .or .u8 224 (r/4096)=224+r/4096:=Ki 224 4 (r/4096) qJ qJ qJ qZ qJ
    go_enter Tryz.func102,Tryz.ntmps102
    go_upto_region 9 with(go_at_call 170;refine(HS.o _).mono ?_;rintro e w1 ⟨rfl,rfl⟩)
    generalize World.alloc _ _=W at HX0 HB0 ⊢;have x0:=HX0.o;refine kW 8 (fun w'=>Below W.heap.size W w'∧w'.cell? ⟨w.heap.size,0,none⟩=some (.int .i32 r)) qQ qQ ?_ ?_
    · exact⟨(jU _ _).drew,x0⟩
    simp only[jS,kK,jL,jO]
    repeat(
     (first
      |refine kF qK ?_
      |(refine uO 169 #[.int .i64 1,.pointer (some ⟨w.heap.size,0,none⟩)] (.int .u8 (128+r/64%64)) qK ?_ (fun w' hS=>(HT.o 1 qJ w' hS.2).mono (fun e w'' h=>⟨h.1,h.2▸hS⟩)) ?_;(focus(intro w2;go_simp;done)))
      |(refine uO 169 #[.int .i64 0,.pointer (some ⟨w.heap.size,0,none⟩)] (.int .u8 (128+r%64)) qK ?_ (fun w' hS=>(HT.o 0 qJ w' hS.2).mono (fun e w'' h=>⟨h.1,h.2▸hS⟩)) ?_;(focus(intro w2;go_simp;done)))
      |(refine kT ?_ qK ?_ ?_;rotate_left;(focus(intro w' hS;obtain⟨_,_⟩:=hS;go_simp;first|done|with_reducible rfl))))
     simp only[Act.put,jZ,jX,jY])
    refine kE (fun w' hS=>?_);have HB1:=Hd (jW HB0.o hS.1);have hcv:=sE [224+r/4096,128+r/64%64,128+r%64] 3 3 w'.heap.size (w'.alloc (.cells #[.int .u8 (224+r/4096),.int .u8 (128+r/64%64),.int .u8 (128+r%64)] 5)) 5 (jT rfl) rfl;clear hS x0 hw8 hor
    go_wp2
    go_ret
    rw[HV.o];exact⟨rfl,jH HB1.o _⟩
  · have HV:=Hd (show vD r=⟨#[(240+r/262144).toNat.toUInt8,(128+r/4096%64).toNat.toUInt8,(128+r/64%64).toNat.toUInt8,(128+r%64).toNat.toUInt8]⟩from by unfold vD;rw[hs,if_pos rfl,if_neg (show ¬r<0x80 from hA),if_neg (show ¬r<0x800 from hB),if_neg (show ¬r<0x10000 from hC)]);clear hs;have hw8:IntKind.u8.wrap (r/262144)=r/262144:=by rw[IntKind.wrap_u8'];omega
    have hor:bits .or .u8 240 (r/262144)=240+r/262144:=Ki 240 3 (r/262144) qJ qJ qJ qZ qJ
    go_enter Tryz.func102,Tryz.ntmps102
    go_upto_region 10 with(go_at_call 170;refine(HS.o _).mono ?_;rintro e w1 ⟨rfl,rfl⟩)
    generalize World.alloc _ _=W at HX0 HB0 ⊢;have x0:=HX0.o;refine kW 10 (fun w'=>Below W.heap.size W w'∧w'.cell? ⟨w.heap.size,0,none⟩=some (.int .i32 r)) qQ qQ ?_ ?_
    · exact⟨(jU _ _).drew,x0⟩
    simp only[jS,kK,jL,jO]
    repeat(
     (first
      |refine kF qK ?_
      |(refine uO 169 #[.int .i64 2,.pointer (some ⟨w.heap.size,0,none⟩)] (.int .u8 (128+r/4096%64)) qK ?_ (fun w' hS=>(HT.o 2 qJ w' hS.2).mono (fun e w'' h=>⟨h.1,h.2▸hS⟩)) ?_;(focus(intro w2;go_simp;done)))
      |(refine uO 169 #[.int .i64 1,.pointer (some ⟨w.heap.size,0,none⟩)] (.int .u8 (128+r/64%64)) qK ?_ (fun w' hS=>(HT.o 1 qJ w' hS.2).mono (fun e w'' h=>⟨h.1,h.2▸hS⟩)) ?_;(focus(intro w2;go_simp;done)))
      |(refine uO 169 #[.int .i64 0,.pointer (some ⟨w.heap.size,0,none⟩)] (.int .u8 (128+r%64)) qK ?_ (fun w' hS=>(HT.o 0 qJ w' hS.2).mono (fun e w'' h=>⟨h.1,h.2▸hS⟩)) ?_;(focus(intro w2;go_simp;done)))
      |(refine kT ?_ qK ?_ ?_;rotate_left;(focus(intro w' hS;obtain⟨_,_⟩:=hS;go_simp;first|done|with_reducible rfl))))
     simp only[Act.put,jZ,jX,jY])
    refine kE (fun w' hS=>?_);have HB1:=Hd (jW HB0.o hS.1);have hcv:=sE [240+r/262144,128+r/4096%64,128+r/64%64,128+r%64] 4 4 w'.heap.size (w'.alloc (.cells #[.int .u8 (240+r/262144),.int .u8 (128+r/4096%64),.int .u8 (128+r/64%64),.int .u8 (128+r%64)] 5)) 5 (jT rfl) rfl;clear hS x0 hw8 hor
    go_wp2
    go_ret
    rw[HV.o];exact⟨rfl,jH HB1.o _⟩
def fM(o:List Cl)(x r:Int):List Cl:=
 match o[x.toNat]? with
 |none=>o
 |some c=>
  if x<0∨c.r=0∨vB r≠0∨32<(c.more++vD r).size then o
  else
   let m:=c.more++vD r
   let o1:=if c.half=1 then o.modify (x.toNat+1) (gO m)else if c.half=2 then o.modify (x.toNat-1) (gO m)else o
   o1.modify x.toNat (gO m)
theorem K9(o:List Cl)(x r:Int):(fM o x r).length=o.length:=by
 unfold fM
 split
 · rfl
 split
 · rfl
 · simp only[List.length_modify]
   split
   · simp
   split<;>simp
theorem Uh(l:List Cl)(x r:Int):uJ (fM (uJ l) x r)=cM l x r:=by
 unfold fM cM;simp only[];cases(uJ l)[x.toNat]? with
 |none=>exact cZ l
 |some c=>
  simp only[]
  split
  · exact cZ l
  · rfl
theorem fW:∀(l:List Cl) (k:Nat) (c:Cl),(uJ l)[k]? =some c→(c.half=1→k+1<(uJ l).length)∧(c.half=2→1≤k)
 |[],k,c,h=>by simp[uJ]at h
 |[d],k,c,h=>by
  rw[cE]at h ⊢
  split at h
  · next hd=>
    have :k=0:=by have :=(jP.1 h).1;simpa using this
    subst this;simp at h;subst h;exact⟨fun e=>by omega,fun e=>by omega⟩
  · have :k=0:=by have :=(jP.1 h).1;simpa using this
    subst this;simp at h;subst h;exact⟨fun e=>by simp[kR,gC,gZ]at e,fun e=>by simp[kR,gC,gZ]at e⟩
 |d::e::l,k,c,h=>by
  rw[bC]at h ⊢
  split at h
  · next hd=>
    rw[if_pos hd]
    match k with
    |0=>
     simp at h;subst h;exact⟨fun e=>by omega,fun e=>by omega⟩
    |k+1=>
     have :=fW (e::l) k c qD;exact qXg
  · next hd=>
    rw[if_neg hd]
    split at h
    · next hp=>
      rw[if_pos hp]
      match k with
      |0=>
       simp at h;subst h;refine⟨fun e=>by simp,fun e=>?_⟩;unfold yE at hp;simp only[Bool.and_eq_true,decide_eq_true_eq]at hp;omega
      |1=>
       simp at h;subst h;refine⟨fun e=>?_,fun e=>by omega⟩;unfold yE at hp;simp only[Bool.and_eq_true,decide_eq_true_eq]at hp;omega
      |k+2=>
       have :=fW l k c qD;exact qXg
    · next hp=>
      rw[if_neg hp]
      match k with
      |0=>
       simp at h;subst h;exact⟨fun e=>by simp[kR,gC,gZ]at e,fun e=>by simp[kR,gC,gZ]at e⟩
      |k+1=>
       have :=fW (e::l) k c qD;exact qXg
theorem CrO.more{w:World}{base g cap:Nat}{l:List Cl}(h:CrO w base g cap l){i:Nat}(hi:i<l.length)(m:ByteArray):
 CrO (w.setCell ⟨g,i*8+1,none⟩ (.string m)) base g cap (l.modify i (gO m)):=by
 have h1:=cA h (i*8+1) (.string m);have hc:l[i]? =some l[i]:=jN hi;rw[cO vQ l i l[i] (gO m l[i]) 1 (.string m) hc qZ rfl]at h1;unfold CrO;rw[List.length_modify,show l.modify i (gO m)=l.set i (gO m l[i])from by
  haveI:Inhabited Cl:=⟨UO⟩;rw[List.modify_eq_set];simp[hc]]
 exact h1
theorem iY(r:Int):(vD r).size≤32:=by
 unfold vD
 split
 · split
   · exact(by decide:1≤32)
   split
   · exact(by decide:2≤32)
   split
   · exact(by decide:3≤32)
   · exact(by decide:4≤32)
 · exact kM _
theorem CrO.holdMore{w:World}{base g cap:Nat}{l:List Cl}(h:CrO w base g cap l){i:Nat}{c:Cl}(hc:l[i]? =some c):w.cell? ⟨g,i*8+1,none⟩=some (.string c.more)∧w.frozen? ⟨g,i*8+1,none⟩=false:=
 gS h (i:=i*8+1) (by rw[yN vQ l i c 1 hc qZ];rfl)
theorem CrO.len{w:World}{base g cap:Nat}{l:List Cl}{n:Nat}(h:CrO w base g cap l)(hn:l.length=n):w.ownsRow base 65 8 (.slice (some ⟨g,0,none⟩) n cap) n (uM kV l):=by subst hn;exact h
set_option maxHeartbeats 3200000 in
theorem V6(base g cap:Nat)(o:List Cl)(bx br:Nat)(x r:Int)(w:World)(h:CrO w base g cap o)(hz:o.length≤10000)(hx:w.cell? ⟨bx,0,none⟩=some (.int .i64 x))(hr:w.cell? ⟨br,0,none⟩=some (.int .i32 r))(hb1:bx<base)(hb2:br<base)
 (hM:∀c∈o,c.more.size≤32) (hH:∀(k:Nat) (c:Cl),o[k]? =some c→(c.half=1→k+1<o.length)∧(c.half=2→1≤k)):
 Calls jG 378 #[.slice (some ⟨g,0,none⟩) o.length cap,.pointer (some ⟨bx,0,none⟩),.pointer (some ⟨br,0,none⟩)] w (cJ base g cap (fM o x r) w):=by
 have HW:=Hd (fun w=>cT r w);have HU:=Hd (fun w=>lO r w);have H:=Hd h;have hgb:=h.lt;have HX:=Hd hx;have HR:=Hd hr
 by_cases hx0:x<0
 · have HV:=Hd (show fM o x r=o from by
    unfold fM
    split
    · rfl
    · rw[if_pos (Or.inl hx0)])
   clear h hH hM
   go_enter Tryz.func378,Tryz.ntmps378
   go_wp2
   go_end0
   rw[HV.o];exact H.o.mend_post
 obtain⟨k,rfl⟩:∃k:Nat,x=(k:Int):=⟨x.toNat,by omega⟩
 by_cases hxl:(o.length:Int)≤(k:Int)
 · have HV:=Hd (show fM o k r=o from by unfold fM;rw[vV,uZ qJ]);clear h hH hM
   go_enter Tryz.func378,Tryz.ntmps378
   go_wp2
   go_end0
   rw[HV.o];exact H.o.mend_post
 have hkl:k<o.length:=by omega
 have hklI:(k:Int)<(o.length:Int):=by omega
 obtain⟨c,hc⟩:∃c,o[k]? =some c:=⟨o[k],jN hkl⟩;have HRG:=Hd (h.range hc);have q0:w.cell? ⟨g,k*8,none⟩=some (.int .i32 c.r):=HRG.o 0 _ rfl;have HV0:Hid (fM o k r=if(k:Int)<0∨c.r=0∨vB r≠0∨32<(c.more++vD r).size then o else(if c.half=1 then o.modify (k+1) (gO (c.more++vD r))else if c.half=2 then o.modify (k-1) (gO (c.more++vD r))else o).modify k (gO (c.more++vD r))):=Hd (by unfold fM;rw[vV,hc]);have HH:=Hd (hH k c hc);have hm32:c.more.size≤32:=hM c (uB hc);have hp32:(vD r).size≤32:=iY r;generalize fM o k r=RES at HV0;have HC:=Hd hc;clear hH hM h hc
 by_cases hr0:c.r=0
 · have hr0b:(c.r==0)=true:=beq_iff_eq.2 hr0
   go_enter Tryz.func378,Tryz.ntmps378
   go_wp2
   go_end0
   rw[HV0.o,if_pos (.inr (.inl hr0))];exact H.o.mend_post
 have hr0b:(c.r==0)=false:=beq_eq_false_iff_ne.2 hr0;have HC0:=Hd hr0;generalize hwd:vB r=wd at HW HV0
 by_cases hw0:wd=0
 rotate_left
 · have hw0b:(wd==0)=false:=beq_eq_false_iff_ne.2 hw0;clear hwd
   go_enter Tryz.func378,Tryz.ntmps378
   go_wp2_with(go_at_call 162;refine(HW.o _).mono ?_;rintro e w1 ⟨rfl,hb⟩;have HB:=Hd hb;clear hb)
   go_end0
   rw[HV0.o,if_pos (.inr (.inr (.inl hw0)))];exact qXf
 subst hw0;clear hwd;generalize vD r=pr at HU HV0 hp32;obtain⟨m,hm⟩:∃m,c.more++pr=m:=⟨_,rfl⟩;rw[hm]at HV0;have hsz:¬9223372036854775807<c.more.size+pr.size:=by omega
 clear hm32 hp32
 go_enter Tryz.func378,Tryz.ntmps378
 go_upto_region 1 with(go_at_call 162;refine(HW.o _).mono ?_;rintro e w1 ⟨rfl,hb⟩;have HB:=Hd hb;have x1:=kZ hb HX.o;have r1:=kZ hb HR.o;have m1:w1.cell? ⟨g,k*8+1,none⟩=some (.string c.more):=yM HRG.o hb 1 _ rfl;clear hx hr hb q0)
 clear hx0 hxl hr0 hr0b;refine kW 8 (fun w'=>Below w1.heap.size w1 w'∧w'.cell? ⟨bx,0,none⟩=some (.int .i64 k)∧w'.cell? ⟨br,0,none⟩=some (.int .i32 r)∧w'.cell? ⟨g,k*8+1,none⟩=some (.string c.more)) qQ qQ ?_ ?_
 · exact⟨(jU _ _).drew,x1,r1,m1⟩
 simp only[jS,kK,jL,jO]
 repeat(
  (first
   |refine kF qK ?_
   |(refine uO 102 #[.int .i32 r] (.string pr) qK ?_ (fun w' hS=>(HU.o w').mono (fun e w'' h=>⟨h.1,jW hS.1 h.2,kZ h.2 hS.2.1,kZ h.2 hS.2.2.1,kZ h.2 hS.2.2.2⟩)) ?_;(focus(intro w2;go_simp;done)))
   |(refine kT ?_ qK ?_ ?_;rotate_left;(focus(intro w' hS;obtain⟨_,_,_,_⟩:=hS;go_simp;first|done|with_reducible rfl))))
  simp only[Act.put,jZ,jX,jY])
 refine kE (fun w' hS=>?_);have HB2:=Hd (jW HB.o hS.1);have x2:=hS.2.1;have h2:w'.cell? ⟨g,k*8+2,none⟩=some (.int .i64 c.half):=yM HRG.o HB2.o 2 _ rfl;clear hS x1 r1 m1;have HO:=Hd (H.o.below HB2.o);clear HRG H;have HM:=Hd hm;have wv:=Mod.of_below (X:=[g]) HB2.o;have HMB:=Hd wv;clear wv hm
 by_cases hbig:32<m.size
 · have hbI:(32:Int)<(m.size:Int):=by omega
   go_wp2
   go_end0
   rw[HV0.o,if_pos (.inr (.inr (.inr hbig)))];exact⟨rfl,HO.o,HMB.o⟩
 have hbI:¬(32:Int)<(m.size:Int):=by omega
 have HNB:=Hd hbig;clear hbig hsz;obtain⟨km,hkm⟩:=HO.o.holdMore (i:=k) (c:=c) HC.o
 by_cases h1:c.half=1
 · have hj1:=HH.o.1 h1;obtain⟨j,hj⟩:∃j:Nat,j=k+1:=⟨_,rfl⟩;have HJ:=Hd hj;have hjI:(k:Int)+1=(j:Int):=by omega
   have hwj:jE.wrap (j:Int)=(j:Int):=jF _ qJ;have hjl:(j:Int)<(o.length:Int):=by omega
   have hjN:j<o.length:=by omega
   obtain⟨d,hd⟩:∃d,o[j]? =some d:=⟨o[j],jN hjN⟩;obtain⟨dm,hdm⟩:=HO.o.holdMore hd;have h1b:(c.half==1)=true:=beq_iff_eq.2 h1;clear hd hj km hkm;rw[h1]at h2
   go_upto_region 8 with fail
   have HO2:=Hd (HO.o.more hjN m);have HM2:=Hd (HMB.o.setCell (a:=⟨g,j*8+1,none⟩) (.inl qV) (.string m));have X2:=Hd (HM2.o.cell qY HX.o);have HC2:Hid ((o.modify j (gO m))[k]? =some c):=Hd qZi;generalize uN _ _ _=W2 at HO2 HM2 X2 ⊢;obtain⟨em,hem⟩:=HO2.o.holdMore HC2.o;have x3:=X2.o;clear x2 h2 dm hdm
   go_wp2
   go_end0
   rw[HV0.o,if_neg qZt,if_pos h1,←HJ.o];exact qXh
 have h1b:(c.half==1)=false:=beq_eq_false_iff_ne.2 h1
 by_cases h22:c.half=2
 · have hj1:=HH.o.2 h22;obtain⟨j,hj⟩:∃j:Nat,j=k-1:=⟨_,rfl⟩;have HJ:=Hd hj;have hjI:(k:Int)-1=(j:Int):=by omega
   have hjS:k-1=j:=hj.symm;have hwj:jE.wrap (j:Int)=(j:Int):=jF _ qJ;have hjl:(j:Int)<(o.length:Int):=by omega
   have hjN:j<o.length:=by omega
   obtain⟨d,hd⟩:∃d,o[j]? =some d:=⟨o[j],jN hjN⟩;obtain⟨dm,hdm⟩:=HO.o.holdMore hd;have h2b:(c.half==2)=true:=beq_iff_eq.2 h22;clear hd hj km hkm;rw[h22]at h2
   go_upto_region 8 with fail
   have HO2:=Hd (HO.o.more hjN m);have HM2:=Hd (HMB.o.setCell (a:=⟨g,j*8+1,none⟩) (.inl qV) (.string m));have X2:=Hd (HM2.o.cell qY HX.o);have HC2:Hid ((o.modify j (gO m))[k]? =some c):=Hd qZi;generalize uN _ _ _=W2 at HO2 HM2 X2 ⊢;obtain⟨em,hem⟩:=HO2.o.holdMore HC2.o;have x3:=X2.o;clear x2 h2 dm hdm
   go_wp2
   go_end0
   rw[HV0.o,if_neg qZt,if_neg h1,if_pos h22,←HJ.o];exact qXh
 have h2b:(c.half==2)=false:=beq_eq_false_iff_ne.2 h22
 go_wp2
 go_end0
 rw[HV0.o,if_neg qZt,if_neg h1,if_neg h22];exact⟨rfl,HO.o.more hkl m,HMB.o.setCell (a:=⟨g,k*8+1,none⟩) (.inl qV) (.string m)⟩
def yL(l:List Cl):Prop:=∀c∈l,c.more.size≤32
theorem QR(c:Cl):(kR c).more.size≤32:=kM _
theorem yL.mend:∀{l:List Cl},yL l→yL (uJ l)
 |[],h=>h
 |[c],h=>by
  rw[cE]
  split
  · exact h
  · intro d hd;rw[jM.1 hd];exact QR c
 |c::d::l,h=>by
  rw[bC];have hc:=h c qV;have hd:=h d qV;have h1:yL (d::l):=fun x hx=>h x (by simp[kJ.1 hx]);have h2:yL l:=fun x hx=>h x (by simp[hx]);have i1:=yL.mend h1;have i2:=yL.mend h2
  split
  · intro x hx;rcases kJ.1 hx with rfl|hx
    · exact hc
    · exact i1 x hx
  split
  · intro x hx;rcases kJ.1 hx with rfl|hx
    · exact hc
    rcases kJ.1 hx with rfl|hx
    · exact hd
    · exact i2 x hx
  · intro x hx;rcases kJ.1 hx with rfl|hx
    · exact QR c
    · exact i1 x hx
theorem yL.set{l:List Cl}(h:yL l)(i:Nat){c:Cl}(hc:c.more.size≤32):yL (l.set i c):=fun x hx=>by
 rcases List.mem_or_eq_of_mem_set hx with hx|rfl
 · exact h x hx
 · exact hc
theorem yL.append{l m:List Cl}(h:yL l)(h2:yL m):yL (l++m):=fun x hx=>by
 rcases kU.1 hx with hx|hx
 · exact h x hx
 · exact h2 x hx
theorem yL.take{l:List Cl}(h:yL l)(n:Nat):yL (l.take n):=fun x hx=>h x (List.mem_of_mem_take hx)
theorem yL.drop{l:List Cl}(h:yL l)(n:Nat):yL (l.drop n):=fun x hx=>h x (List.mem_of_mem_drop hx)
theorem Zf(n:Nat)(b:Col):yL (kN n (pY b)):=fun x hx=>by rw[(List.mem_replicate.1 hx).2];exact kM _
theorem yL.wipe{l:List Cl}(h:yL l)(off n:Nat)(b:Col):yL (eP l off n b):=((h.take _).append (Zf _ _)).append (h.drop _)
theorem yL.put{l:List Cl}(h:yL l)(x r:Int)(a:Atr):yL (fV l x r a):=by
 rw[←qJz];refine yL.mend ?_;unfold JV;have hz:∀hf,(gZ r kH hf a).more.size≤32:=fun _=>kM _
 split
 · exact h.mend.set _ (hz _)
 split
 · exact(h.mend.set _ (hz _)).set _ (hz _)
 · exact h.mend
theorem yL.close{l:List Cl}(h:yL l):yL (fE l):=(h.mend.set _ (show ZH.more.size≤32 from kM _)).mend
theorem yL.erase{l:List Cl}(h:yL l)(x y:Int)(b:Col):yL (bZ l x y b):=by
 unfold bZ;rw[KO];unfold lX
 split
 · exact(h.mend.wipe _ _ _).mend
 · exact h.mend.mend
theorem yL.insert{l:List Cl}(h:yL l)(x n:Int)(b:Col):yL (bM l x n b):=by
 rw[←Jl];refine yL.mend ?_;unfold dK
 split
 · exact h.mend
 · exact((h.mend.take _).append ((h.mend.drop _).take _)).wipe _ _ _
theorem ZR{α:Type}{f:α→α}{y:α}{l:List α}{i:Nat}(h:y∈l.modify i f):y∈l∨∃x,y=f x:=by
 rcases QK h with h|⟨x,-,e⟩
 · exact .inl h
 · exact .inr ⟨x,e⟩
theorem yL.mod{l:List Cl}(h:yL l)(i:Nat){m:ByteArray}(hm:m.size≤32):yL (l.modify i (gO m)):=fun x hx=>by
 rcases ZR hx with hx|⟨y,rfl⟩
 · exact h x hx
 · exact hm
theorem yL.mark{l:List Cl}(h:yL l)(x r:Int):yL (cM l x r):=by
 rw[←Uh];refine yL.mend ?_;unfold fM
 split
 · exact h.mend
 · split
   · exact h.mend
   · next hc=>
     have hm:=Nat.not_lt.1 (fun hh=>hc (.inr (.inr (.inr hh))));simp only[];refine yL.mod ?_ _ hm
     split
     · exact h.mend.mod _ hm
     split
     · exact h.mend.mod _ hm
     · exact h.mend
set_option maxHeartbeats 3200000 in
theorem qQi(A:Option Addr)(l:List Cl)(ca:Nat)(x r:Int)(w:World)(hl:pT kV 8 w A l)(h0:0<l.length)(hz:l.length≤10000)(hf:yL l):
 Calls jG 340 #[.slice A l.length ca,.int .i64 x,.int .i32 r] w (pG (cM l x r) w):=by
 have hb0:Below w.heap.size w ((w.alloc (.cells #[.int .i64 x] 3)).alloc (.cells #[.int .i32 r] 21)):=jH (jH (jU w.heap.size w) _) _;have hp0:((w.alloc (.cells #[.int .i64 x] 3)).alloc (.cells #[.int .i32 r] 21)).heap[w.heap.size]? =some (.cells #[.int .i64 x] 3 (0,0)):=vJ (jT rfl);have hp1:((w.alloc (.cells #[.int .i64 x] 3)).alloc (.cells #[.int .i32 r] 21)).heap[w.heap.size+1]? =some (.cells #[.int .i32 r] 21 (0,0)):=jT qV;have HB0:=Hd hb0;have HW:=Hd (eU A l ca 378 #[.pointer (some ⟨w.heap.size,0,none⟩),.pointer (some ⟨w.heap.size+1,0,none⟩)] (fun o=>fM o x r) ((w.alloc (.cells #[.int .i64 x] 3)).alloc (.cells #[.int .i32 r] 21)) (hl.below hb0) h0 hz (by rw[K9,uL]) (fun args w=>by kernel_rfl) (fun g cap w' hc hb=>by
  have :=V6 _ g cap (uJ l) _ _ x r w' hc qZ2 (kZ hb (vH hp0 0 _ rfl)) (kZ hb (vH hp1 0 _ rfl)) jK jK hf.mend (fun k c hk=>fW l k c hk)
  rwa[uL]at this))
 have HL:=Hd (Uh l x r);rw[HL.o]at HW;clear hl hb0 hp0 hp1
 go_enter Tryz.func340,Tryz.ntmps340
 go_wp2_with(go_at_call 104;refine HW.o.mono ?_;intro e w1 hp;obtain⟨g,cap,rfl,hc,hb⟩:=pG.rebase HB0.o hp;have HC:=Hd hc;clear hc hp)
 go_ret
 exact qXe
end Go.Proofs.YtaefcahblmopfaaGreatDoor
namespace Go
open Go.RowKit
section
variable {P:Program}{ops:Array Oper}{md:Region.Mode}
def rD(S:World→Prop):Prop:=∀w w',S w→Below w.heap.size w w'→S w'
theorem rD.and{S T:World→Prop}(h:rD S)(k:rD T):rD (fun w=>S w∧T w):=fun w w' hS hb=>⟨h w w' hS.1 hb,k w w' hS.2 hb⟩
def upN(P:Program)(w:World)(n:Nat)(dst:Option Tmp)(V:Value→World→Prop):Result Next→Prop
 | .ok (.value u) w'=>∃v,pL n dst u v∧V v w'∧Below w.heap.size w w'
 | .ok .skip w'=>∃v,pL n dst undef v∧V v w'∧Below w.heap.size w w'
 | .ok (.enter f args) w'=>Calls P f args w' fun e w''=>match e with
    | .returned u=>∃v,pL n dst u v∧V v w''∧Below w.heap.size w w''
    |_=>False
 | .ok (.row row args) w'=>Rows P row args w' fun u w''=>∃v,pL n dst u v∧V v w''∧Below w.heap.size w w''
 |_=>False
def uQ(P:Program)(ops:Array Oper)(S:World→Prop)(o:Oper)(V:Value→World→Prop)(a:Act):Prop:=
 (Region.wanted o (yielded ops a.tmps)=true∧∀w,S w→upN P w a.tmps.size o.dst V ((execOp a.eval o).run P w))∨
 (Region.wanted o (yielded ops a.tmps)=false∧∀w,S w→V undef w)
theorem uQ.of_same{S:World→Prop}{o:Oper}{V:Value→World→Prop}{a a':Act}(hy:uQ P ops S o V a)(he:execOp a'.eval o=execOp a.eval o)
 (hw:Region.wanted o (yielded ops a'.tmps)=Region.wanted o (yielded ops a.tmps)) (hs:a'.tmps.size=a.tmps.size):uQ P ops S o V a':=by
 unfold uQ at *;rw[he,hw,hs];exact hy
theorem uQ.strengthen{S T:World→Prop}{o:Oper}{V:Value→World→Prop}{a:Act}(h:∀w,T w→S w)(hy:uQ P ops S o V a):uQ P ops T o V a:=by
 rcases hy with⟨hw,hv⟩|⟨hw,hv⟩
 · exact .inl ⟨hw,fun w hT=>hv w (h w hT)⟩
 · exact .inr ⟨hw,fun w hT=>hv w (h w hT)⟩
theorem uQ.wpOp{S:World→Prop}{Q:Exit→Act→World→Prop}{i:Nat}{o:Oper}{V:Value→World→Prop}{a:Act}(hi:ops[i]? =some o)(hp:rD S)(hy:uQ P ops S o V a)
 {K:Act→World→Prop} {w:World} (hS:S w) (h:∀v w',S w'→V v w'→K (a.put o.dst v) w'):wpOp P ops Q i K a w:=by
 unfold Go.wpOp;simp only[hi];rcases hy with⟨hw,hv⟩|⟨hw,hv⟩
 · simp only[hw,if_true,Oper.wp];refine .inl ?_;have hv:=hv w hS;generalize (execOp a.eval o).run P w=r at *;cases r with
   |ok n w'=>
    cases n<;>simp only[upN,Oper.upon]at hv ⊢
    case value u=>obtain⟨v,h1,h2,h3⟩:=hv;rw[h1 a rfl];exact h _ _ (hp _ _ hS h3) h2
    case skip=>obtain⟨v,h1,h2,h3⟩:=hv;rw[h1 a rfl];exact h _ _ (hp _ _ hS h3) h2
    case enter f args=>
     refine Calls.mono hv fun e w'' he=>?_;cases e with
     |returned u=>obtain⟨v,h1,h2,h3⟩:=he;simp only;rw[h1 a rfl];exact h _ _ (hp _ _ hS h3) h2
     |panicked c=>exact he.elim
     |outgrown=>exact he.elim
    case row row args=>exact Rows.mono hv fun u w'' he=>(by obtain⟨v,h1,h2,h3⟩:=he;rw[h1 a rfl];exact h _ _ (hp _ _ hS h3) h2)
   |halt x w'=>exact hv.elim
 · simp only[hw,Bool.false_eq_true,if_false];exact h _ _ hS (hv w hS)
def AT(A:Value→Prop)(T:Value→World→Prop):Value→World→Prop:=fun v w=>A v∧T v w
def Qw(P:Program)(md:Region.Mode)(ops:Array Oper)(n:Nat)(L:Array Bool→Act→(World→Prop)→Prop):Nat→Array Bool→Act→(World→Prop)→Prop
 |0,listed,a,S=>L listed a S
 |f+1,listed,a,S=>
  Region.ready md ops listed≠[]∧∀i∈Region.ready md ops listed,i<n∧∃o A T,ops[i]? =some o∧(∀v,rD (T v))∧uQ P ops S o (AT A T) a∧
   ∀v,A v→Qw P md ops n L f (listed.setIfInBounds i true) (a.put o.dst v) (fun w=>S w∧T v w)
theorem lA{n g:Nat}{L:Array Bool→Act→(World→Prop)→Prop}{Q':Exit→Act→World→Prop}(hL:∀listed a S,L listed a S→∀w,S w→wpAny P md ops Q' g listed a w):
 ∀(f:Nat) (listed:Array Bool) (a:Act) (S:World→Prop),rD S→Qw P md ops n L f listed a S→∀w,S w→wpAny P md ops Q' (f+g) listed a w
 |0,listed,a,S,_,h,w,hS=>by rw[kP];exact hL _ _ _ h w hS
 |f+1,listed,a,S,hp,h,w,hS=>by
  rw[show f+1+g=(f+g)+1 by omega];refine⟨fun h0=>absurd h0 h.1,fun i hi=>?_⟩;obtain⟨_,o,A,T,ho,hT,hy,hr⟩:=h.2 i hi;exact hy.wpOp ho hp hS (fun v w' hS' hV'=>lA hL f _ _ _ (hp.and (hT v)) (hr v hV'.1) w' ⟨hS',hV'.2⟩)
def UA(L:Array Bool→Act→(World→Prop)→Prop):Prop:=∀listed a (S T:World→Prop),(∀w,T w→S w)→L listed a S→L listed a T
theorem Qw.weaken{n:Nat}{L:Array Bool→Act→(World→Prop)→Prop}(hLk:UA L):∀(f:Nat) (listed:Array Bool) (a:Act) (S T:World→Prop),(∀w,T w→S w)→Qw P md ops n L f listed a S→Qw P md ops n L f listed a T
 |0,listed,a,S,T,h,hh=>hLk listed a S T h hh
 |f+1,listed,a,S,T,h,hh=>by
  refine⟨hh.1,fun i hi=>?_⟩;obtain⟨hn,o,A,V,ho,hV,hy,hr⟩:=hh.2 i hi;exact⟨hn,o,A,V,ho,hV,hy.strengthen h,fun v hv=>Qw.weaken hLk f _ _ _ _ (fun w ⟨h1,h2⟩=>⟨h w h1,h2⟩) (hr v hv)⟩
def Any:Value→World→Prop:=fun _ _=>True
theorem Any.pers(u:Value):rD (Any u):=fun _ _ _ _=>trivial
theorem Xj{n i:Nat}{oi:Oper}{v:Value}{L:Array Bool→Act→(World→Prop)→Prop}(hLk:UA L)(hi:ops[i]? =some oi)(hsel:∀(j:Nat) (o:Oper) cs b,ops[j]? =some o→o.op≠ .select cs b)
 (hs:Region.sinkB md ops n=true) (hc:Region.chainB md ops n=true) (hn:n<ops.size) (hin:i<n)
 (hdone:∀listed a S,L listed a S→∀j∈Region.ready md ops listed,n≤j):
 ∀(f:Nat) (listed:Array Bool) (a:Act) (S:World→Prop),HeadInv md ops n listed→
  (∀j oj,ops[j]? =some oj→j≠i→listed.getD j true=false→(∀e∈oj.after,Region.binds md e=true→e.on≠i)→oi.apart ops oj=true)→
  i∈Region.ready md ops listed→uQ P ops S oi (AT (· =v) Any) a→
  Qw P md ops n L f (listed.setIfInBounds i true) (a.put oi.dst v) S→Qw P md ops n L (f+1) listed a S:=by
 intro f
 induction f with
 |zero=>
  intro listed a S inv _ hr hy H;have hun:=(mem_ready.1 hr).1;refine⟨fun h=>qZg,fun j hj=>?_⟩;have hjn:j<n:=by
   rcases Nat.lt_or_ge j n with h|h
   · exact h
   · exact qXd
  refine⟨hjn,?_⟩
  by_cases hji:j=i
  · subst hji;exact⟨oi,_,_,hi,Any.pers,hy,fun u hu=>by subst hu;exact hLk _ _ S _ (fun w h=>h.1) H⟩
  · have :=hdone _ _ _ H j (ready_mono hj hji);omega
 |succ f ih=>
  intro listed a S inv hfree hr hy H;have hun:=(mem_ready.1 hr).1;refine⟨fun h=>qZg,fun j hj=>?_⟩;have hjn:j<n:=by
   rcases Nat.lt_or_ge j n with h|h
   · exact h
   · exact qXd
  refine⟨hjn,?_⟩
  by_cases hji:j=i
  · subst hji;exact⟨oi,_,_,hi,Any.pers,hy,fun u hu=>by subst hu;exact Qw.weaken hLk _ _ _ S _ (fun w h=>h.1) H⟩
  · obtain⟨_,oj',A,T,hoj',hT,hyj,Hj⟩:=H.2 j (ready_mono hj hji);obtain⟨hjun,oj,hoj,hall⟩:=mem_ready.1 hj;obtain rfl:oj'=oj:=Option.some.inj (hoj'.symm.trans hoj);have hnot:∀e∈oj'.after,Region.binds md e=true→e.on≠i:=fun e he hb heq=>by
     have h1:=hall e he hb;rw[heq,getD_both hun]at h1;cases h1
    obtain⟨h1,h2,h3⟩:=Oper.apart_spec (hfree j oj' hoj hji hjun hnot);have hsi:=fun cs b=>hsel i oi cs b hi;have hsj:=fun cs b=>hsel j oj' cs b hoj;have hyj':uQ P ops S oj' (AT A T) a:=hyj.of_same (execOp_put oj' hsj a oi.dst v h1).symm (wanted_put oj' a oi.dst v h1).symm (Act.put_size _ _ _).symm;have hfree':∀k ok,ops[k]? =some ok→k≠i→(listed.setIfInBounds j true).getD k true=false→
     (∀e∈ok.after,Region.binds md e=true→e.on≠i)→oi.apart ops ok=true:=fun k ok hk hki hun hno=>by
     refine hfree k ok hk hki ?_ hno
     by_cases hjk:j=k
     · subst hjk;exact hjun
     · rw[getD_set_ne true hjk]at hun;exact hun
    refine⟨oj',A,T,hoj,hT,hyj',fun u hu=>?_⟩;have hyi':uQ P ops (fun w=>S w∧T u w) oi (AT (· =v) Any) (a.put oj'.dst u):=(hy.of_same (execOp_put oi hsi a oj'.dst u h3) (wanted_put oi a oj'.dst u h3) (Act.put_size _ _ _)).strengthen (fun w h=>h.1);refine ih (listed.setIfInBounds j true) _ _ (inv.set hj hjn) hfree' (ready_mono hr (Ne.symm hji)) hyi' ?_;rw[Array.setIfInBounds_comm _ _ hji,←Act.put_comm a v u h2];exact Hj u hu
def tailN(P:Program)(ops:Array Oper)(Q:Exit→Act→World→Prop)(n:Nat):Array Bool→Act→(World→Prop)→Prop:=fun listed a S=>
 Region.seqB .any ops (ops.size-n) n listed=true∧∀w,S w→wpList P ops Q (ops.toList.drop n) a w
theorem qQ8{Q:Exit→Act→World→Prop}{n:Nat}:UA (tailN P ops Q n):=fun _ _ _ _ h hh=>⟨hh.1,fun w hw=>hh.2 w (h w hw)⟩
structure AtN(P:Program)(ops:Array Oper)(Q:Exit→Act→World→Prop)(n:Nat)(f:Nat)(listed:Array Bool)(a:Act)(S:World→Prop):Prop where
 h:HeadInv .any ops n listed→Qw P .any ops n (tailN P ops Q n) f listed a S
variable {Q:Exit→Act→World→Prop}{S:World→Prop}{a:Act}{listed:Array Bool}{n f:Nat}
def Region.tailB(ops:Array Oper)(n:Nat):Bool:=Region.noSelect ops&&decide (n<ops.size)&&Region.sinkB .any ops n&&Region.chainB .any ops n
theorem AtN.take(i:Nat){o:Oper}{v:Value}(hB:Region.tailB ops n=true)(hi:ops[i]? =some o)(hin:(i<n)=True)(hf:Region.free .any ops listed i=true)(hr:(Region.ready .any ops listed).contains i=true)
 (hy:uQ P ops S o (AT (· =v) Any) a) (h:AtN P ops Q n f (listed.setIfInBounds i true) (a.put o.dst v) S):AtN P ops Q n (f+1) listed a S:=⟨fun inv=>by
 simp only[Region.tailB,Bool.and_eq_true,decide_eq_true_eq]at hB;obtain⟨⟨⟨hsel,hn⟩,hs⟩,hc⟩:=hB;have hr':i∈Region.ready .any ops listed:=by simpa using hr
 have hin':i<n:=by rw[hin];trivial
 exact Xj qQ8 hi (Region.noSelect_spec hsel) hs hc hn hin' (fun listed a S hL=>seqB_ready hL.1) f listed a S inv (Region.free_spec hi hf) hr' hy (h.h (inv.set hr' hin'))⟩
def AtC(c:Nat)(P:Program)(ops:Array Oper)(Q:Exit→Act→World→Prop)(n:Nat)(f:Nat)(listed:Array Bool)(a:Act)(S:World→Prop):Prop:=c≤c∧AtN P ops Q n f listed a S
theorem AtN.go(c:Nat)(h:AtC c P ops Q n f listed a S):AtN P ops Q n f listed a S:=h.2
theorem AtC.back{c:Nat}(h:AtN P ops Q n f listed a S):AtC c P ops Q n f listed a S:=⟨jD c,h⟩
theorem AtC.take{i:Nat}{o:Oper}{v:Value}(hB:Region.tailB ops n=true)(hi:ops[i]? =some o)(hin:(i<n)=True)(hf:Region.free .any ops listed i=true)(hr:(Region.ready .any ops listed).contains i=true)
 (hy:uQ P ops S o (AT (· =v) Any) a) (h:AtC (i+1) P ops Q n f (listed.setIfInBounds i true) (a.put o.dst v) S):AtC i P ops Q n (f+1) listed a S:=⟨jD i,AtN.take i hB hi hin hf hr hy h.2⟩
theorem AtN.one(i:Nat){o:Oper}(A:Value→Prop)(T:Value→World→Prop)(hin:(i<n)=True)(hr:Region.ready .any ops listed=[i])(hi:ops[i]? =some o)(hT:∀v,rD (T v))
 (hy:uQ P ops S o (AT A T) a) (h:∀v,A v→AtN P ops Q n f (listed.setIfInBounds i true) (a.put o.dst v) (fun w=>S w∧T v w)):AtN P ops Q n (f+1) listed a S:=⟨fun inv=>by
 have hin':i<n:=by rw[hin];trivial
 refine⟨by rw[hr];simp,fun j hj=>?_⟩;have hj':=hj;rw[hr]at hj;obtain rfl:j=i:=by simpa using hj
 exact⟨hin',o,A,T,hi,hT,hy,fun v hv=>(h v hv).h (inv.set hj' hin')⟩⟩
theorem AtN.two(i j:Nat){o o':Oper}(A A':Value→Prop)(T T':Value→World→Prop)(hin:(i<n)=True)(hjn:(j<n)=True)(hr:Region.ready .any ops listed=[i,j])(hi:ops[i]? =some o)(hj:ops[j]? =some o')
 (hT:∀v,rD (T v)) (hT':∀v,rD (T' v)) (hy:uQ P ops S o (AT A T) a) (hy':uQ P ops S o' (AT A' T') a)
 (h:∀v,A v→AtN P ops Q n f (listed.setIfInBounds i true) (a.put o.dst v) (fun w=>S w∧T v w))
 (h':∀v,A' v→AtN P ops Q n f (listed.setIfInBounds j true) (a.put o'.dst v) (fun w=>S w∧T' v w)):AtN P ops Q n (f+1) listed a S:=⟨fun inv=>by
 have hin':i<n:=by rw[hin];trivial
 have hjn':j<n:=by rw[hjn];trivial
 refine⟨by rw[hr];simp,fun k hk=>?_⟩;have hk':=hk;rw[hr]at hk;have hk2:k=i∨k=j:=by simpa using hk
 rcases hk2 with rfl|rfl
 · exact⟨hin',o,A,T,hi,hT,hy,fun v hv=>(h v hv).h (inv.set hk' hin')⟩
 · exact⟨hjn',o',A',T',hj,hT',hy',fun v hv=>(h' v hv).h (inv.set hk' hjn')⟩⟩
theorem AtN.done(hB:Region.seqB .any ops (ops.size-n) n listed=true)(h:∀w,S w→wpList P ops Q (ops.toList.drop n) a w):AtN P ops Q n 0 listed a S:=⟨fun _=>⟨hB,h⟩⟩
theorem gI{id:Nat}{w:World}(n:Nat)(S:World→Prop)(hm:P.follows .mixedOrders=true)(hB:Region.tailB ops n=true)(hp:rD S)(hS:S w.drew)
 (h:AtN P ops Q n n (Array.replicate ops.size false) a S):(Code.region id ops true).wp P Q a w:=by
 simp only[Region.tailB,Bool.and_eq_true,decide_eq_true_eq]at hB;obtain⟨⟨⟨hsel,hn⟩,hs⟩,hc⟩:=hB;have inv0:HeadInv .any ops n (Array.replicate ops.size false):=
  ⟨by simp,fun j oj _ hl=>qZs,fun t _ ht=>getD_in (by simpa using ht) (getD_replicate_false _ _)⟩
 refine wp_region_any hm ?_;have :=lA (Q':=Q) (g:=ops.size-n) (fun listed a' S hL w' hS'=>by
  have :=wpAny_of_seq (md:=.any) (Q':=Q) (ops.toList.drop n) n listed a' w' (fun j=>by simp[gN]) (by simpa using hL.1) (hL.2 w' hS');simpa using this) _ _ _ _ hp (h.h inv0) w.drew hS
 rw[show n+(ops.size-n)=ops.size by omega]at this;exact this
theorem uQ.val{o:Oper}{v:Value}(hw:Region.wanted o (yielded ops a.tmps)=true)(h:∀w,S w→(execOp a.eval o).run P w=.ok (.value v) w):uQ P ops S o (AT (· =v) Any) a:=
 .inl ⟨hw,fun w hS=>by rw[h w hS];exact⟨v,pL.rfl',⟨rfl,trivial⟩,jU _ _⟩⟩
theorem uQ.skip{o:Oper}(hw:Region.wanted o (yielded ops a.tmps)=false):uQ P ops S o (AT (· =undef) Any) a:=
 .inr ⟨hw,fun _ _=>⟨rfl,trivial⟩⟩
theorem uQ.call{o:Oper}(f:FuncId)(args:Array Value)(A:Value→Prop)(T:Value→World→Prop)(hw:Region.wanted o (yielded ops a.tmps)=true)(h:∀w,(execOp a.eval o).run P w=.ok (.enter f args) w)
 (hc:∀w,S w→Calls P f args w fun e w'=>∃v,e=.returned v∧(A v∧T v w')∧Below w.heap.size w w'):uQ P ops S o (AT A T) a:=
 .inl ⟨hw,fun w hS=>by
  rw[h w];refine(hc w hS).mono fun e w' ⟨v,he,hv,hb⟩=>?_;rw[he];exact⟨v,pL.rfl',hv,hb⟩⟩
theorem uQ.call1{o:Oper}(f:FuncId)(args:Array Value)(v:Value)(hw:Region.wanted o (yielded ops a.tmps)=true)(h:∀w,(execOp a.eval o).run P w=.ok (.enter f args) w)
 (hc:∀w,S w→Calls P f args w fun e w'=>e=.returned v∧Below w.heap.size w w'):uQ P ops S o (AT (· =v) Any) a:=
 uQ.call f args _ _ hw h (fun _ hS=>(hc _ hS).mono fun _ _ ⟨he,hb⟩=>⟨v,he,⟨rfl,trivial⟩,hb⟩)
theorem uQ.new{o:Oper}(A:Value→Prop)(T:Value→World→Prop)(hw:Region.wanted o (yielded ops a.tmps)=true)
 (h:∀w,S w→∃v w',(execOp a.eval o).run P w=.ok (.value v) w'∧A v∧T v w'∧Below w.heap.size w w'):uQ P ops S o (AT A T) a:=
 .inl ⟨hw,fun w hS=>by
  obtain⟨v,w',hr,hA,hT,hb⟩:=h w hS;rw[hr];exact⟨v,pL.rfl',⟨hA,hT⟩,hb⟩⟩
def UT(t:TypeId)(cs:Array Value):Value→World→Prop:=fun v w=>∃g,v=.pointer (some ⟨g,0,none⟩)∧w.heap[g]? =some (.cells cs t (0,0))
theorem jR{w:World}{g:Nat}{o:Obj}(h:w.heap[g]? =some o):g<w.heap.size:=by
 rcases Nat.lt_or_ge g w.heap.size with hlt|hge
 · exact hlt
 · rw[Array.getElem?_eq_none hge]at h;cases h
theorem UT.pers(t:TypeId)(cs:Array Value)(v:Value):rD (UT t cs v):=fun _ _ ⟨g,hv,hh⟩ hb=>⟨g,hv,(hb.block g (jR hh)).trans hh⟩
theorem UT.at_{t:TypeId}{cs:Array Value}{g:Nat}{w:World}(h:UT t cs (.pointer (some ⟨g,0,none⟩)) w):w.heap[g]? =some (.cells cs t (0,0)):=by
 obtain⟨g',e,hh⟩:=h;injection e with e
 injection e with e
 injection e with e1 _ _
 rw[e1];exact hh
theorem uQ.alloc{o:Oper}(base:Nat)(t:TypeId)(cs:Array Value)(avoid:List Nat)(hw:Region.wanted o (yielded ops a.tmps)=true)
 (h:∀w,S w→(execOp a.eval o).run P w=.ok (.value (.pointer (some ⟨w.heap.size,0,none⟩))) (w.alloc (.cells cs t))) (hb:∀w,S w→base≤w.heap.size) (hav:∀w,S w→∀x∈avoid,x<w.heap.size):
 uQ P ops S o (AT (fun v=>∃g,v=.pointer (some ⟨g,0,none⟩)∧base≤g∧∀x∈avoid,g≠x) (UT t cs)) a:=
 uQ.new _ _ hw fun w hS=>⟨_,_,h w hS,⟨_,rfl,hb w hS,fun x hx=>Nat.ne_of_gt (hav w hS x hx)⟩,⟨_,rfl,by
  show(w.heap.push _)[w.heap.size]? =_;simp⟩,(jU _ _).alloc (jD _) _⟩
end
end Go
