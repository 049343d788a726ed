/- Joined by a tool of this claim out of smaller texts. Conditions: as stated. -/
import Derived.Test.YtaefcahblmopfaaGreatDoorDj38
set_option linter.unusedVariables false
set_option linter.unusedSimpArgs false
set_option maxRecDepth 100000
open Go.Lib renaming hid → Hd
open List renaming setIfInBounds_toArray → jZ, set_cons_zero → jX, set_cons_succ → jY, getElem?_eq_getElem → jN
open Go.Proofs.Tryz renaming prog → jG
open And renaming intro → kY
open Nat renaming add_zero → uA
namespace Go.Proofs.YtaefcahblmopfaaGreatDoor
open Go.RowKit
set_option maxHeartbeats 6400000 in
theorem Qr(A:Option Addr)(rows:List Rw)(ca:Nat)(w:World)(hl:bG w A rows)(hz:rows.length≤1048576)(hcz:∀r∈rows,r.cs.length≤1048576∧r.cs.length≤r.cap)(hmz:∀r∈rows,∀c∈r.cs,c.more.size≤1048576)(hfz:∀r∈rows,∀c∈r.cs,JM c.fl)(ht:fO w):
 Calls jG 4 #[.slice A rows.length ca] w fun e w'=>e=.returned (.bool true)∧Below w.heap.size w w':=by
 have HL:=Hd hl;have HT:=Hd ht;have HC:=Hd (kY hcz (kY hmz hfz));have HG:=Hd (Zz A rows ca w hl hz (fun r hr=>(hcz r hr).1));have HAW:Hid (∀w',Below w.heap.size w w'→Calls jG 22 #[] w' fun e w2=>e=.returned (.bool true)∧Below w'.heap.size w' w2):=Hd (fun w' hb=>XG w' (HT.o.below hb));obtain⟨L,hL⟩:∃L,rows.length=L:=⟨_,rfl⟩;have HLL:=Hd hL;rw[hL]at HG ⊢;clear hl hz hcz hmz hfz ht hL
 go_enter Tryz.func4,Tryz.ntmps4
 go_upto_region 1 with fail
 refine wp_region_lit ?_;refine jB (.slice A L ca) qK qK ?_;simp only[Act.put,jZ,jX,jY];refine zE rfl 21 #[.slice A L ca] qX (HG.o.mono (fun e w' ⟨b,he,hb,hw⟩=>(⟨_,he,⟨b,rfl,hb⟩,hw⟩:∃v,e=.returned v∧(∃b:Bool,v=.bool b∧(b=false→rows.length≤400∧∀r∈rows,r.cs.length≤400))∧Below w.heap.size w w'))) ?_;rintro v1 w1 ⟨⟨b,rfl,hgr⟩,hb1⟩;have HB1:=Hd hb1;clear hb1;simp only[Act.put,jZ,jX,jY];rcases b with _|_
 rotate_left
 · go_wp2_with(go_at_call 22;(with_reducible refine(HAW.o _ HB1.o).mono ?_);rintro e w2 ⟨rfl,hb2⟩;have HB2:=Hd (jW HB1.o hb2);clear hb2)
   go_ret
   exact⟨rfl,HB2.o⟩
 · have HGR:=Hd (hgr rfl);clear hgr;obtain⟨cols,hcols⟩:∃cols,Ya rows=cols:=⟨_,rfl⟩;have HCOL:=Hd hcols;have HSZ:Hid (∀w',Below w.heap.size w w'→Calls jG 23 #[.slice A L ca] w' fun e w2=>e=.returned (.tuple #[.int .i64 L,.int .i64 cols])∧Below w'.heap.size w' w2):=Hd (fun w' hb=>by
    have :=QI A rows ca w' (HL.o.below hb);rw[HLL.o,hcols]at this;exact this)
   have HTWO:Hid (∃t:Bool,(∀w',Below w.heap.size w w'→Calls jG 24 #[.slice A L ca] w' fun e w2=>e=.returned (.bool t)∧Below w'.heap.size w' w2)∧(∀w',Below w.heap.size w w'→Calls jG 25 #[.slice A L ca] w' fun e w2=>e=.returned (.bool t)∧Below w'.heap.size w' w2)∧(L=0→t=false)):=Hd (by
    by_cases hok:∃cols,dP rows cols
    · obtain⟨c,hok⟩:=hok;refine⟨true,fun w' hb=>?_,fun w' hb=>?_,fun h=>?_⟩
      · have :=QO A rows ca c w' (HL.o.below hb) hok
        rwa[HLL.o]at this
      · have :=Kb A rows ca c w' (HL.o.below hb) hok
        rwa[HLL.o]at this
      · have :=hok.1;have :=HLL.o;omega
    · refine⟨false,fun w' hb=>?_,fun w' hb=>?_,fun _=>rfl⟩
      · have :=Zo A rows ca w' (HL.o.below hb) HGR.o.1 HC.o.2.2;rw[HLL.o]at this;refine this.mono ?_;rintro e w2 ⟨t,rfl,ht,hb2⟩;cases t with
        |true=>exact absurd (ht rfl) hok
        |false=>exact⟨rfl,hb2⟩
      · have :=Vn A rows ca w' (HL.o.below hb) HGR.o.1 HC.o.2.1;rw[HLL.o]at this;refine this.mono ?_;rintro e w2 ⟨t,rfl,ht,hb2⟩;cases t with
        |true=>exact absurd (ht rfl) hok
        |false=>exact⟨rfl,hb2⟩)
   obtain⟨t,hp,hq,hL0⟩:=HTWO.o;have HP:=Hd hp;have HQ:=Hd hq;have HL0:=Hd hL0;have hLz:L≤400:=by have :=HGR.o.1;have :=HLL.o;omega
   clear hp hq hL0 HTWO HG hcols
   go_upto_region 4 with(first
    |(go_at_call 22;(with_reducible refine(HAW.o _ HB1.o).mono ?_);rintro e w2 ⟨rfl,hb2⟩;have HB2:=Hd (jW HB1.o hb2);clear hb2)
    |(go_at_call 23;(with_reducible refine(HSZ.o _ HB2.o).mono ?_);rintro e w3 ⟨rfl,hb3⟩;have HB3:=Hd (jW HB2.o hb3);clear hb3))
   clear HAW HSZ
   by_cases h0:L=0
   · have htf:=HL0.o h0;have hc0:cols=0:=by
      have h1:rows=[]:=List.length_eq_zero_iff.1 (by rw[HLL.o];exact h0);rw[←HCOL.o,h1];rfl
     subst h0 htf hc0
     go_wp2_with(go_at_call 24;(with_reducible refine(HP.o _ HB3.o).mono ?_);rintro e w4 ⟨rfl,hb4⟩;have HB4:=Hd (jW HB3.o hb4);clear hb4)
     go_ret
     exact⟨by first|rfl|simp,HB4.o⟩
   · have hbe:((L:Int)==0)=false:=beq_eq_false_iff_ne.2 qJ;have h00:0<rows.length:=by rw[HLL.o];omega
     obtain⟨b,off,rfl,hrr⟩:=HL.o h00;obtain⟨⟨d0,-⟩,-,-⟩:=(hrr 0 _ (jN h00)).below HB3.o;have hcc:rows[0].cs.length=cols:=by
      rw[←HCOL.o];cases rows with
      |nil=>simp at h00
      |cons r l=>rfl
     rw[hcc,Nat.zero_mul,uA]at d0;generalize rows[0].A=r0A at d0;generalize rows[0].cap=r0c at d0;have hLp:(0:Int)<(L:Int):=by omega
     clear hrr hcc h00 h0
     go_wp2_with(first
      |(go_at_call 24;(with_reducible refine(HP.o _ HB3.o).mono ?_);rintro e w4 ⟨rfl,hb4⟩;have HB4:=Hd (jW HB3.o hb4);clear hb4)
      |(go_at_call 25;(with_reducible refine(HQ.o _ HB4.o).mono ?_);rintro e w5 ⟨rfl,hb5⟩;have HB5:=Hd (jW HB4.o hb5);clear hb5))
     go_ret
     exact⟨by first|rfl|simp,HB5.o⟩
end Go.Proofs.YtaefcahblmopfaaGreatDoor
