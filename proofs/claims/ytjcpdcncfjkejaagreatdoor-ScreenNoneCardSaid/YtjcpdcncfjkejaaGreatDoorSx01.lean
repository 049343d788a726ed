/- Joined by a tool of this claim out of smaller texts. Conditions: as stated. -/
import Derived.Test.YtjcpdcncfjkejaaGreatDoorRows
import Derived.WalkKit
import Derived.WalkSpells
import Derived.WalkLawsBesides
import Derived.Lib.Hide
import Derived.Outline
import Derived.Laws.ShiftsVarLaws
import Derived.Laws.AppendOwn
import Derived.Maps.AppendAt
import Derived.ProofKit
import Derived.Tactics
import Derived.StillTail
import Derived.OwnWalk
import Derived.Below
import Derived.Laws.ResultCell
import Derived.Deep.MidRow
import Derived.Lib.SlicesCompact
import Derived.Laws.IdiomCopy
import Derived.Deep.CutBlock
import Derived.Deep.DeepCutAuto
set_option linter.unusedVariables false
set_option linter.unusedSimpArgs false
set_option maxRecDepth 100000
theorem Go.RowKit.Hid.o{P:Prop}(h:Go.RowKit.Hid P):P:=h.out
theorem qQ{P:Prop}(h:P:=by kernel_rfl):P:=h
theorem qJ{P:Prop}(h:P:=by omega):P:=h
theorem qK{P:Prop}(h:P:=by rfl):P:=h
theorem qV{P:Prop}(h:P:=by simp):P:=h
theorem qZ{P:Prop}(h:P:=by decide):P:=h
theorem qX{P:Prop}(h:P:=by as_aux_lemma=>kernel_rfl):P:=h
theorem qY{P:Prop}(h:P:=by go_simp):P:=h
theorem qG{P:Prop}(h:P:=by rw[HRR.o];first|rfl|(show Ending.returned (.tuple #[_,.bool (decide (a4<256)),_])=_;first|(rw[decide_eq_true (p:=a4<256) (by have :=S4.o;omega)];rfl)|(rw[decide_eq_false (p:=a4<256) (by have :=S4.o;omega)];rfl))):P:=h
theorem qU{P:Prop}(h:P:=by obtain⟨e1,e2,e3,e4⟩:=HFB.o;rw[HSM.o,←e1,←e2,←e3,←e4];unfold iV iX;rw[if_neg (show ¬v=39 by omega)];simp only[if_neg (show ¬v=39 by omega),if_neg (show ¬(30≤v∧v≤37) by omega),if_neg (show ¬(90≤v∧v≤97) by omega),if_neg (show ¬(40≤v∧v≤47) by omega),if_neg (show ¬(100≤v∧v≤107) by omega)];all_goals(by_cases h49:v=49<;>simp[h49])):P:=h
theorem qH{P:Prop}(h:P:=by first|exact HFL.o|exact zZ.with HFL.o _ (by decide) _):P:=h
theorem qW{P:Prop}(h:P:=by simp;omega):P:=h
theorem qM{P:Prop}(h:P:=by simp only[maxLen];have :=HP.o;omega):P:=h
theorem qN{P:Prop}(h:P:=by rw[HRR.o];first|rfl|(show Ending.returned (.tuple #[_,.bool (decide (a2<256)),_])=_;first|(rw[decide_eq_true (p:=a2<256) (by have :=S2.o;omega)];rfl)|(rw[decide_eq_false (p:=a2<256) (by have :=S2.o;omega)];rfl))):P:=h
theorem qB{P:Prop}(h:P:=by intro w';go_simp;done):P:=h
theorem qP{P:Prop}(h:P:=by unfold ClO;rw[uC,jI];exact ho):P:=h
theorem qC{P:Prop}(h:P:=by have :=HB.o.size;simp at *;omega):P:=h
theorem qD{P:Prop}(h:P:=by unfold Func.isWrapper;first|(rw[if_pos (by decide +kernel)];kernel_rfl)|(rw[if_neg (by decide +kernel)];exact⟨rfl,rfl⟩)):P:=h
theorem qF{P:Prop}(h:P:=by simpa using hj):P:=h
theorem qL{P:Prop}(h:P:=by have :=HRW.o;omega):P:=h
theorem qR{P:Prop}(h:P:=by have :=HP.o;omega):P:=h
theorem qS{P:Prop}(h:P:=by simp;try(intros;simp[*])):P:=h
theorem qT{P:Prop}(h:P:=by rw[kR];omega):P:=h
theorem qA{P:Prop}(h:P:=by simp;have :=HKN.o;omega):P:=h
theorem qE{P:Prop}(h:P:=by have :=HSZ.o;simp at *;omega):P:=h
theorem qI{P:Prop}(h:P:=by have :=HB2.o;have :=HB3.o;have :=HB4.o;omega):P:=h
theorem qO{P:Prop}(h:P:=by rintro e w3 ⟨rfl,rfl⟩;exact⟨_,rfl,rfl,hI,hS⟩):P:=h
theorem jQ{P:Prop}(h:P:=by have hrc:rows*cols≤12*21:=Nat.mul_le_mul (by omega) (by omega);unfold zF;omega):P:=h
theorem jJ{P:Prop}(h:P:=by have :=(H1.o.below hba).told;rw[HV5.o,←HTL.o]at this;rw[←HTL.o];exact this):P:=h
theorem jK{P:Prop}(h:P:=by simp only[kX,uU,pM,yO,mS];go_simp;try rfl):P:=h
theorem jV{P:Prop}(h:P:=by simpa[kX]using hj):P:=h
theorem qJt{P:Prop}(h:P:=by have :=S4.o;omega):P:=h
theorem qJu{P:Prop}(h:P:=by simp only[kX];go_simp):P:=h
theorem qJv{P:Prop}(h:P:=by simp only[maxLen];omega):P:=h
theorem qJw{P:Prop}(h:P:=by rw[←jR.1 hx];exact hb):P:=h
theorem qJx{P:Prop}(h:P:=by rw[HDR.o,jI,HP.o];simp):P:=h
theorem qJy{P:Prop}(h:P:=by unfold uZ;omega):P:=h
theorem qJz{P:Prop}(h:P:=by have :=HB2.o;have :=HB3.o;omega):P:=h
theorem qJ0{P:Prop}(h:P:=by rw[bS hl X i x j hi (by have :=(jE.1 hj).1;rw[hl]at this;exact this)];exact hj):P:=h
theorem qJ1{P:Prop}(h:P:=by rw[HAT.o];unfold xL;rw[if_pos (by rw[kR];omega)];exact hc):P:=h
theorem qJ2{P:Prop}(h:P:=by rw[HT.o];exact(tB hc (by rw[kR];omega)).symm):P:=h
theorem qJ3{P:Prop}(h:P:=by rw[HRR.o];rfl):P:=h
theorem qJ4{P:Prop}(h:P:=by have :=HBE.o.size;simp;omega):P:=h
theorem qJ5{P:Prop}(h:P:=by simp[gA]):P:=h
theorem qJ6{P:Prop}(h:P:=by simp <;>omega):P:=h
theorem qJ7{P:Prop}(h:P:=by have :=HN60.o;omega):P:=h
theorem qJ8{P:Prop}(h:P:=by simpa[jT]using hb):P:=h
theorem qJ9{P:Prop}(h:P:=by go_simp;rfl):P:=h
theorem qKa{P:Prop}(h:P:=by decide +kernel):P:=h
theorem qKb{P:Prop}(h:P:=by rw[←hW0];exact jW (jU w.heap.size w) _):P:=h
theorem qKc{P:Prop}(h:P:=by have h1:=kQ HX.o;have h2:=kQ HY.o;omega):P:=h
theorem qKd{P:Prop}(h:P:=by have :=S2.o;omega):P:=h
theorem qKe{P:Prop}(h:P:=by have :=HT.o;omega):P:=h
theorem qKf{P:Prop}(h:P:=by have :=HM2.o.1;simp only[maxLen];omega):P:=h
theorem qKg{P:Prop}(h:P:=by simp[scX]):P:=h
theorem qKh{P:Prop}(h:P:=by simp;have :=HHL.o;omega):P:=h
theorem qKi{P:Prop}(h:P:=by have :=HB2.o;omega):P:=h
theorem qKj{P:Prop}(h:P:=by have :=HB3.o;omega):P:=h
theorem qKk{P:Prop}(h:P:=by rw[hv];simp[Value.ownBlock]):P:=h
theorem qKl{P:Prop}(h:P:=by rw[HR.o,if_neg (fun h=>absurd h.1 (by decide))]):P:=h
theorem qKm{P:Prop}(h:P:=by have :=HN.o;omega):P:=h
theorem qKn{P:Prop}(h:P:=by have :=HB3.o.size;simp at *;omega):P:=h
theorem qKo{P:Prop}(h:P:=by have h1:=hJ.o;have h2:=HJ.o;omega):P:=h
theorem qKp{P:Prop}(h:P:=by rw[HV.o,HNV.o,if_pos (by have :=HI1.o;omega)]):P:=h
theorem qKq{P:Prop}(h:P:=by rw[HV.o,HNV.o,if_neg (by have :=HI1.o;omega),if_neg (by decide)];rfl):P:=h
theorem qKr{P:Prop}(h:P:=by rw[h]at hr;cases hr):P:=h
theorem qKs{P:Prop}(h:P:=by rw[HP.o];exact jS _):P:=h
theorem qKt{P:Prop}(h:P:=by rw[List.getElem?_modify,HC.o];have :=HJ.o;simp[show j≠k by omega]):P:=h
theorem qKu{P:Prop}(h:P:=by have :=(jE.1 hj).1;rw[hl]at this;exact this):P:=h
theorem qKv{P:Prop}(h:P:=by have :=hbnd.o;omega):P:=h
theorem qKw{P:Prop}(h:P:=by rw[kR];exact hz):P:=h
theorem qKx{P:Prop}(h:P:=by have :=HI1.o;omega):P:=h
theorem qKy{P:Prop}(h:P:=by rw[←HG2.o.1,←HG2.o.2];exact kY (kY HX12.o 2 _ rfl) 3 _ rfl):P:=h
theorem qKz{P:Prop}(h:P:=by rw[HV5.o,←HTL.o];exact hm6):P:=h
theorem qK0{P:Prop}(h:P:=by rw[←HG1.o.1,←HG1.o.2];exact kY (kY HX9.o 0 _ rfl) 1 _ rfl):P:=h
theorem qK1{P:Prop}(h:P:=by have :=HM.o;omega):P:=h
theorem qK2{P:Prop}(h:P:=by rw[getD_replicate_false]at hl;cases hl):P:=h
theorem qK3{P:Prop}(h:P:=by simpa using h):P:=h
theorem qK4{P:Prop}(h:P:=by have :=HM2.o.1;omega):P:=h
theorem qK5{P:Prop}(h:P:=by rw[HV5.o,←HTL.o];exact h):P:=h
theorem qK6{P:Prop}(h:P:=by have :=HNB.o;have :=HC0.o;simp;omega):P:=h
theorem qK7{P:Prop}(h:P:=by first|exact⟨rfl,hx0,hxl⟩|exact⟨trivial,hx0,hxl⟩):P:=h
theorem qK8{P:Prop}(h:P:=by rw[jI,←HTL.o];exact ho6):P:=h
theorem qK9{P:Prop}(h:P:=by have :=HM.o.1;omega):P:=h
theorem qVa{P:Prop}(h:P:=by rw[hl,Nat.add_mul];omega):P:=h
theorem qVb{P:Prop}(h:P:=by rw[(dH _ _).1,(dH _ _).2.1,hl2];show d.base≤_;omega):P:=h
theorem qVc{P:Prop}(h:P:=by rw[←hW12];exact kZ rfl):P:=h
theorem qVd{P:Prop}(h:P:=by rw[←hA.o];exact HX17.o):P:=h
theorem qVe{P:Prop}(h:P:=by have :=HM1.o;omega):P:=h
theorem qVf{P:Prop}(h:P:=by rw[HK.o];exact hlt):P:=h
theorem qVg{P:Prop}(h:P:=by simp[pgX]):P:=h
theorem qVh{P:Prop}(h:P:=by have :=HBA.o.size;omega):P:=h
theorem qVi{P:Prop}(h:P:=by simp[dmX]):P:=h
theorem qVj{P:Prop}(h:P:=by rw[←hW0];exact kZ rfl):P:=h
theorem qVk{P:Prop}(h:P:=by rw[(hi.n.all _ _).2];exact hi.t):P:=h
theorem qVl{P:Prop}(h:P:=by simp[vI]):P:=h
theorem qVm{P:Prop}(h:P:=by go_simp;split<;>omega):P:=h
theorem qVn{P:Prop}(h:P:=by show 20+16≤38;omega):P:=h
theorem qVo{P:Prop}(h:P:=by have :=hi.len.1;omega):P:=h
theorem qVp{P:Prop}(h:P:=by show 21+14≤38;omega):P:=h
theorem qVq{P:Prop}(h:P:=by rw[←hn];exact hsm.1):P:=h
theorem qVr{P:Prop}(h:P:=by rw[HV.o];rfl):P:=h
theorem qVs{P:Prop}(h:P:=by rw[HML.o];omega):P:=h
theorem qVt{P:Prop}(h:P:=by show 0+14≤38;omega):P:=h
theorem qVu{P:Prop}(h:P:=by show 2+14≤38;omega):P:=h
theorem qVv{P:Prop}(h:P:=by have :=HN602.o;omega):P:=h
theorem qVw{P:Prop}(h:P:=by have :=HBW.o.size;simp;omega):P:=h
theorem qVx{P:Prop}(h:P:=by show 0+5≤38;omega):P:=h
theorem qVy{P:Prop}(h:P:=by show 2+5≤38;omega):P:=h
theorem qVz{P:Prop}(h:P:=by show 7+6≤38;omega):P:=h
theorem qV0{P:Prop}(h:P:=by rw[HN.o];omega):P:=h
theorem qV1{P:Prop}(h:P:=by rw[uG,hv];exact h1):P:=h
theorem qV2{P:Prop}(h:P:=by have :=HXI.o;omega):P:=h
theorem qV3{P:Prop}(h:P:=by have :=HM2.o;omega):P:=h
theorem qV4{P:Prop}(h:P:=by have :=HT2.o;omega):P:=h
theorem qV5{P:Prop}(h:P:=by simp[vF]):P:=h
theorem qV6{P:Prop}(h:P:=by have :=HQ.o;omega):P:=h
theorem qV7{P:Prop}(h:P:=by rw[←e];simp[h1]):P:=h
theorem qV8{P:Prop}(h:P:=by simpa[yZ]using hj):P:=h
theorem qV9{P:Prop}(h:P:=by simp[dcX]):P:=h
theorem qZa{P:Prop}(h:P:=by simp[hx]):P:=h
theorem qZb{P:Prop}(h:P:=by simp[aL]):P:=h
theorem qZc{P:Prop}(h:P:=by exact absurd hj (tail_waits hs hc hn inv _ i rfl hin hun j h)):P:=h
theorem qZd{P:Prop}(h:P:=by exact⟨rfl,H.o.below HB.o,Mod.of_below HB.o⟩):P:=h
theorem qZe{P:Prop}(h:P:=by exact⟨g,cap,rfl,HC.o,hb⟩):P:=h
theorem qZf{P:Prop}(h:P:=by exact⟨fun h=>by have :=this.1 h;simp;omega,fun h=>by omega⟩):P:=h
theorem qZg{P:Prop}(h:P:=by exact⟨rfl,HO2.o.more (by rw[List.length_modify];exact hkl) m |>.len qV,HM2.o.setCell (a:=⟨g,k*8+1,none⟩) (.inl qV) (.string m)⟩):P:=h
theorem qZh{P:Prop}(h:P:=by exact⟨h.hb,(kF.1 h.blk).1⟩):P:=h
theorem qZi{P:Prop}(h:P:=by exact⟨_,w2,lD _ _ _ rfl _ _ _ rfl rfl hr,⟨g,cap,rfl⟩,⟨g,cap,rfl,.of_own hc H.o.1 H.o.2.1 cont,vY (jN HB.o hS.1).size hc.lt.1⟩,hb⟩):P:=h
theorem qZj{P:Prop}(h:P:=by exact uP h.blk he qZ rfl):P:=h
theorem qZk{P:Prop}(h:P:=by exact uP h.blk hc qZ rfl):P:=h
theorem qZl{P:Prop}(h:P:=by exact⟨(h.rows x hx).1.mod hM hX,(h.rows x hx).2⟩):P:=h
theorem qZm{P:Prop}(h:P:=by exact⟨g,cap,rfl,HK.o,hb⟩):P:=h
theorem qZn{P:Prop}(h:P:=by exact⟨rfl,HS7.o.pre HB.o⟩):P:=h
theorem qZo{P:Prop}(h:P:=by exact⟨rfl,HS.o.pre HB.o⟩):P:=h
theorem qZp{P:Prop}(h:P:=by exact⟨_,rfl,⟨g1,cap,rfl⟩,⟨bQ hb hI.1,jA hb hI.2⟩,g1,cap,rfl,jN hS hb,hr⟩):P:=h
theorem qZq{P:Prop}(h:P:=by exact⟨rfl,(jU _ _).alloc (jS _) _⟩):P:=h
theorem qZr{P:Prop}(h:P:=by exact h.page.mod hM (fun b hb cs f he=>by rw[jR.1 hb]at he;exact uP h.blk he qZ rfl) (fun b hb hx=>h.np qJw)):P:=h
theorem qZs{P:Prop}(h:P:=by exact⟨rfl,uR.trans ⟨rfl,rfl,rfl,((HM1.o.2.then_below HB4.o).then_below HB5.o),fun b hb=>.inl hb⟩ ((HO4.o.below HB5.o).paged HP6.o)⟩):P:=h
theorem qZt{P:Prop}(h:P:=by exact⟨rfl,gB.trans ⟨HE1.o,HM1.o.1,HM1.o.2⟩ HFIN.o⟩):P:=h
theorem qZu{P:Prop}(h:P:=by exact⟨_,rfl,⟨⟨g1,cap,rfl⟩,g1,cap,rfl,hc⟩,hb⟩):P:=h
theorem qZv{P:Prop}(h:P:=by exact⟨rfl,uR.trans ⟨rfl,rfl,rfl,HM3.o.then_below HBT.o,fun b hb=>.inl hb⟩ ((HO3.o.below HBT.o).paged HP9.o)⟩):P:=h
theorem qZw{P:Prop}(h:P:=by exact⟨rfl,uR.duo (s1:={s with y:=uZ y 0 ((s.pg.scr.length:Int)-1)}) HO.o (jU _ _) 16 17 _ _ rfl rfl rfl rfl rfl rfl⟩):P:=h
theorem qZx{P:Prop}(h:P:=by exact⟨rfl,uR.one HO.o HB.o 17 _ rfl rfl rfl⟩):P:=h
theorem qZy{P:Prop}(h:P:=by exact⟨hb2.drew,c16',c18',c19'⟩):P:=h
theorem qZz{P:Prop}(h:P:=by exact⟨rfl,uR.trans ⟨rfl,rfl,rfl,(Mod.of_below HB4.o).trans (ScO.mod_put 16 _) (fun _ hb=>.inl hb),fun _ hb=>.inl hb⟩ (uR.one HO5.o HB6.o 17 _ rfl rfl rfl)⟩):P:=h
theorem qZ0{P:Prop}(h:P:=by exact h.doc.mod hM (fun b hb cs f he=>by rw[jR.1 hb]at he;exact uP h.blk he qZ rfl) (fun b hb hx=>h.np qJw)):P:=h
theorem qZ1{P:Prop}(h:P:=by exact⟨rfl,HR.o.put 16 _ (fun _=>rfl) rfl rfl⟩):P:=h
theorem qZ2{P:Prop}(h:P:=by exact⟨rfl,HR.o.put 17 _ (fun _=>rfl) rfl rfl⟩):P:=h
theorem qZ3{P:Prop}(h:P:=by exact uN.trans ⟨e1,e2,hm,hx⟩ (hO.doced hp)):P:=h
theorem qZ4{P:Prop}(h:P:=by exact bodyPost_ret (eC rfl _ _ (w.heap.size+1) (vI ⟨g0,g1,g2,g3,u,0⟩) rfl (kA hw) Tryz.underlying66 rfl bE) rfl ⟨rfl,gX hb4 qJ _ _⟩):P:=h
theorem qZ5{P:Prop}(h:P:=by exact bodyPost_ret (bV rfl _ _ (w.heap.size+1) (aL ⟨g1,g2,g3,g4,FB⟩) rfl (kA hw) vN rfl pD) rfl ⟨rfl,gX HB.o qJ _ _⟩):P:=h
theorem qZ6{P:Prop}(h:P:=by exact bodyPost_ret (yT rfl _ _ w.heap.size [.int .i64 0,.int .i64 0] rfl (kA hz) kE rfl uO) rfl ⟨by rw[HVV.o];rfl,kH (kH HB.o (jS _) _) (jS _) _⟩):P:=h
theorem qZ7{P:Prop}(h:P:=by exact bodyPost_ret (yT rfl _ _ w.heap.size [.int .i64 (ocK co),.int .i64 (ocN co)] rfl (kA hz) kE rfl uO) rfl ⟨rfl,kH (kH HBZ.o (jS _) _) (jS _) _⟩):P:=h
theorem qZ8{P:Prop}(h:P:=by exact bodyPost_ret (vC rfl _ _ w.heap.size [.int .i64 (ocK co.1),.int .i64 (ocN co.1)] rfl hr kE rfl uO) rfl ⟨by rw[HVV.o];rfl,hbe⟩):P:=h
theorem qZ9{P:Prop}(h:P:=by exact bodyPost_ret (bV rfl _ _ (w.heap.size+1) (aL ⟨fk,fn,bk,bn,fl⟩) rfl (kA hw) vN rfl pD) rfl ⟨rfl,gX HB.o qJ _ _⟩):P:=h
theorem qXa{P:Prop}(h:P:=by exact⟨b,off,h1,(h2.below hb5).below hba,h3,Nat.lt_of_lt_of_le h4 (vY hb5.size hba.size),h5⟩):P:=h
theorem qXb{P:Prop}(h:P:=by exact VG h2 (Mod.of_grown (X:=bx.1.ownBlock.toList) hg (fun b hb=>by simp[hb])) (fun hm=>h5 (by simpa using hm))):P:=h
theorem qXc{P:Prop}(h:P:=by exact⟨_,rfl,trivial,⟨jA hb h0,jA hb h1,jA hb h2,jA hb h3,jA hb h4⟩,A1,H1,k1,rfl,hg,hg2,jN hS hb⟩):P:=h
theorem qXd{P:Prop}(h:P:=by exact⟨_,rfl,rfl,⟨jA hb h0,jA hb h1,jA hb h2,jA hb h3,jA hb h4⟩,jN hb1 hb⟩):P:=h
theorem qXe{P:Prop}(h:P:=by exact bodyPost_ret (vC rfl _ _ w.heap.size [.int .i64 1,.int .i64 a2] rfl (kA hz2) kE rfl uO) rfl ⟨1,a2,qN,(fun d hd=>by rw[HRR.o]at hd;cases hd),kH (kH HB.o (jS _) _) (jS _) _⟩):P:=h
theorem qXf{P:Prop}(h:P:=by exact bodyPost_ret (vC rfl _ _ w.heap.size [.int .i64 2,.int .i64 N] rfl (kA hz2) kE rfl uO) rfl ⟨2,N,qG,(fun d hd=>by rw[HRR.o]at hd;cases hd),kH (kH HB.o (jS _) _) (jS _) _⟩):P:=h
theorem qXg{P:Prop}(h:P:=by exact bodyPost_ret (vC rfl _ _ w.heap.size [.int .i64 0,.int .i64 0] rfl (kA hz2) kE rfl uO) rfl ⟨0,0,qJ3,(fun d hd=>by rw[HRR.o]at hd;cases hd),kH (kH HB.o (jS _) _) (jS _) _⟩):P:=h
theorem qXh{P:Prop}(h:P:=by exact⟨_,yS 38 (.tmp 4) (.tmp 106) rfl w.heap.size 0 [Value.int .i64 2,.int .i64 N].toArray rfl rfl (show World.there w' w.heap.size 0 2 from gH hz') qQ (by simp[Value.oneCell']),trivial,⟨(hk.cell (p:=⟨b2,_,none⟩) HBL.o).trans e1,(hk.cell (p:=⟨b2,_,none⟩) HBL.o).trans e2,(hk.cell (p:=⟨b2,_,none⟩) HBL.o).trans e3⟩,gX (jN HB.o hS) (jS _) _ _,uB [Value.int .i64 2,.int .i64 N] 0 _ _ hz' qV⟩):P:=h
theorem qXi{P:Prop}(h:P:=by exact bodyPost_ret (vC rfl _ _ w.heap.size [.int .i64 2,.int .i64 N] rfl (kA HS.o.2) kE rfl uO) rfl ⟨2,N,qJ3,(fun d hd=>by rw[HRR.o]at hd;exact(Option.some.inj hd).symm),HS.o.1⟩):P:=h
theorem qXj{P:Prop}(h:P:=by exact⟨by simp[pO],HX.o,HY.o,HB.o⟩):P:=h
theorem qXk{P:Prop}(h:P:=by exact⟨by rw[HFD.o];rfl,HX.o,HY.o,HB.o⟩):P:=h
theorem qXl{P:Prop}(h:P:=by exact⟨_,rfl,by rw[HST.o];show kK _ _ _ _ _ st.length _;rw[hHn.o];exact HO7.o,HB7.o⟩):P:=h
theorem qXm{P:Prop}(h:P:=by exact⟨_,rfl,rfl,⟨jA hb (hI.1),jA hb (hI.2.1),jA hb (hI.2.2)⟩,⟨jN hS.1 hb,hS.2.post hb⟩⟩):P:=h
theorem qXn{P:Prop}(h:P:=by exact⟨_,rfl,rfl,⟨jA hb (hI.1),jA hb (hI.2)⟩,hS.post hb⟩):P:=h
theorem qXo{P:Prop}(h:P:=by exact⟨rfl,zC.pre HB0.o (HS0.o.step HR1.o HR2.o)⟩):P:=h
open Go.Lib renaming hid → Hd
open Go.Proofs.Tryz renaming prog → jG, underlying154 → uH
open Go.RowKit.Below renaming refl → jU
open List renaming drop_succ_cons → jB, take_succ_cons → jC, getElem?_eq_getElem → jD, drop_zero → jF, take_zero → jL, mem_singleton → jR, getElem?_eq_some_iff → jE, length_append → jI, replicate → kJ, mem_cons → kW, getD_eq_getElem?_getD → kP, mem_append → kL, length_replicate → kS, getElem?_eq_none → kI, append_assoc → uK, length_set → uG, take_succ_eq_append_getElem → vJ, getElem?_append_right → vU, length_take → vH, getElem?_set → vP, drop_eq_nil_of_le → vR, take_of_length_le → vT, getElem?_append_left → vE, getElem?_drop → gV
open Nat renaming le_refl → jS, zero_add → kB, zero_le → kT, le_trans → vY
open And renaming intro → kM
open ByteArray renaming empty → kD
open Go.World renaming setCell → uQ
namespace Go.Proofs.YtjcpdcncfjkejaaGreatDoor
open Go.RowKit
theorem gO{W:World}{b o:Nat}{v:Value}(h:W.cell? ⟨b,o,none⟩=some v):b<W.heap.size:=World.block_lt_of_cell? W ⟨b,o,none⟩ h
theorem bQ{W w1:World}(hb:Below W.heap.size W w1){b o:Nat}{v:Value}(h:W.cell? ⟨b,o,none⟩=some v∧W.frozen? ⟨b,o,none⟩=false):
 w1.cell? ⟨b,o,none⟩=some v∧w1.frozen? ⟨b,o,none⟩=false:=
 ⟨(hb.cell (p:=⟨b,o,none⟩) (gO h.1)).trans h.1,(hb.frozen (p:=⟨b,o,none⟩) (gO h.1)).trans h.2⟩
theorem jA{W w1:World}(hb:Below W.heap.size W w1){a:Addr}{v:Value}(h:W.cell? a=some v):w1.cell? a=some v:=
 (hb.cell (World.block_lt_of_cell? W a h)).trans h
theorem jN{W w1 w2:World}(h:Below W.heap.size W w1)(hb:Below w1.heap.size w1 w2):Below W.heap.size W w2:=h.trans (hb.mono h.size)
theorem jW{W w1:World}(h:Below W.heap.size W w1)(o:Obj):Below W.heap.size W (w1.alloc o):=h.alloc h.size o
theorem kH{W w1:World}(h:Below W.heap.size W w1){b o:Nat}(hb:W.heap.size≤b)(v:Value):Below W.heap.size W (w1.setCell ⟨b,o,none⟩ v):=h.setCell (p:=⟨b,o,none⟩) hb v
theorem oB(w:World)(o:Obj)(k:Nat):(w.alloc o).heap[k]? =if k=w.heap.size then some o else w.heap[k]? :=by
 show(w.heap.push o)[k]? =_;rw[Array.getElem?_push]
theorem kZ{W:World}{b:Nat}{o:Obj}(h:W.heap.size=b):(W.alloc o).heap[b]? =some o:=by rw[oB,if_pos h.symm]
theorem uI{W:World}{b:Nat}{o x:Obj}(h:W.heap[b]? =some x):(W.alloc o).heap[b]? =some x:=by
 rw[oB,if_neg,h];rintro rfl;rw[Array.getElem?_eq_none (jS _)]at h;cases h
theorem Vv{W:World}{b i:Nat}{u v:Value}(h:W.cell? ⟨b,i,none⟩=some v∧W.frozen? ⟨b,i,none⟩=false):(W.setCell ⟨b,i,none⟩ u).cell? ⟨b,i,none⟩=some u∧(W.setCell ⟨b,i,none⟩ u).frozen? ⟨b,i,none⟩=false:=by
 have h1:=h.1;have e:(W.setCell ⟨b,i,none⟩ u).frozen? ⟨b,i,none⟩=W.frozen? ⟨b,i,none⟩:=by simp[go_sem]
 refine⟨by simp[go_sem,h1],by rw[e];exact h.2⟩
theorem at_{W:World}{b:Nat}{cs:Array Value}{t:TypeId}(h:W.heap[b]? =some (.cells cs t (0,0)))(i:Nat)(v:Value)(hv:cs[i]? =some v):W.cell? ⟨b,i,none⟩=some v∧W.frozen? ⟨b,i,none⟩=false:=by
 refine⟨?_,?_⟩
 · simp[World.cell?,h,hv]
 · simp[World.frozen?,h]
theorem aP{P:Program}{ops:Array Oper}{Q:Exit→Act→World→Prop}{o:Oper}{rest:List Oper}{a:Act}{w:World}(v:Value)(hg:o.guard=none)(hr:(execOp a.eval o).run P w=.ok (.value v) w)(h:wpList P ops Q rest (a.put o.dst v) w):wpList P ops Q (o::rest) a w:=
 wpList_plain hg fun _ hK=>by unfold Oper.wp;rw[hr];exact hK _ _ h
structure Cl where
 r:Int
 more:ByteArray
 half:Int
 fk:Int
 fn:Int
 bk:Int
 bn:Int
 fl:Int
deriving DecidableEq
def clV(c:Cl):Value:=.agg #[.int .i32 c.r,.string c.more,.int .i64 c.half,.int .i64 c.fk,.int .i64 c.fn,.int .i64 c.bk,.int .i64 c.bn,.int .i64 c.fl]
theorem KE(a b:Cl):a=b↔a.r=b.r∧a.more.toList=b.more.toList∧a.half=b.half∧a.fk=b.fk∧a.fn=b.fn∧a.bk=b.bk∧a.bn=b.bn∧a.fl=b.fl:=by
 obtain⟨a0,a1,a2,a3,a4,a5,a6,a7⟩:=a;obtain⟨b0,b1,b2,b3,b4,b5,b6,b7⟩:=b;simp only[Cl.mk.injEq]
 constructor
 · rintro⟨h0,h1,h2,h3,h4,h5,h6,h7⟩;exact⟨h0,by rw[h1],h2,h3,h4,h5,h6,h7⟩
 · rintro⟨h0,h1,h2,h3,h4,h5,h6,h7⟩;exact⟨h0,WideShapes.bytes_inj (by rw[←ByteArray.toList_eq,←ByteArray.toList_eq,h1]),h2,h3,h4,h5,h6,h7⟩
theorem JO(ρ:Operand→Value)(dst:Option Tmp)(ty:TypeId)(pos:String)(af:Array Edge)(gd:Option (Nat×Bool))(x y:Operand)(a b:Cl)(hx:ρ x=clV a)(hy:ρ y=clV b)(w:World):
 (execOp ρ ⟨dst,.binOp .eql 154 x y 154,ty,pos,af,gd⟩).run jG w=.ok (.value (.bool (decide (a=b)))) w:=by
 have e:decide (a=b)=decide (a.r=b.r∧a.more.toList=b.more.toList∧a.half=b.half∧a.fk=b.fk∧a.fn=b.fn∧a.bk=b.bk∧a.bn=b.bn∧a.fl=b.fl):=decide_eq_decide.2 (KE a b);rw[e];unfold clV at hx hy
 go_simp
 repeat' split
 all_goals simp_all
theorem JI(ρ:Operand→Value)(dst:Option Tmp)(ty:TypeId)(pos:String)(af:Array Edge)(gd:Option (Nat×Bool))(x y:Operand)(a b:Cl)(hx:ρ x=clV a)(hy:ρ y=clV b)(w:World):
 (execOp ρ ⟨dst,.binOp .neq 154 x y 154,ty,pos,af,gd⟩).run jG w=.ok (.value (.bool (!decide (a=b)))) w:=by
 have e:decide (a=b)=decide (a.r=b.r∧a.more.toList=b.more.toList∧a.half=b.half∧a.fk=b.fk∧a.fn=b.fn∧a.bk=b.bk∧a.bn=b.bn∧a.fl=b.fl):=decide_eq_decide.2 (KE a b);rw[e];unfold clV at hx hy
 go_simp
 repeat' split
 all_goals simp_all
def K3(w:World)(b o:Nat)(c:Cl):Prop:=w.cell? ⟨b,o,none⟩=some (.int .i32 c.r)∧w.cell? ⟨b,o+1,none⟩=some (.string c.more)∧w.cell? ⟨b,o+2,none⟩=some (.int .i64 c.half)∧w.cell? ⟨b,o+3,none⟩=some (.int .i64 c.fk)∧w.cell? ⟨b,o+4,none⟩=some (.int .i64 c.fn)∧w.cell? ⟨b,o+5,none⟩=some (.int .i64 c.bk)∧w.cell? ⟨b,o+6,none⟩=some (.int .i64 c.bn)∧w.cell? ⟨b,o+7,none⟩=some (.int .i64 c.fl)
theorem K3.below{w w1:World}{b o:Nat}{c:Cl}(h:K3 w b o c)(hb:Below w.heap.size w w1):K3 w1 b o c:=by
 obtain⟨h0,h1,h2,h3,h4,h5,h6,h7⟩:=h;exact⟨jA hb h0,jA hb h1,jA hb h2,jA hb h3,jA hb h4,jA hb h5,jA hb h6,jA hb h7⟩
def XU(w:World)(A:Option Addr)(l:List Cl):Prop:=0<l.length→∃b off,A=some ⟨b,off,none⟩∧∀i c,l[i]? =some c→K3 w b (off+i*8) c
theorem XU.at_{w:World}{A:Option Addr}{l:List Cl}(h:XU w A l){k:Nat}(hk:k<l.length):∃b off c,A=some ⟨b,off,none⟩∧l[k]? =some c∧K3 w b (off+k*8) c:=by
 obtain⟨b,off,hA,hc⟩:=h qJ;exact⟨b,off,l[k],hA,jD hk,hc k _ (jD hk)⟩
def nF(ws:List Nat)(st:List Bool):Prop:=
 st.length≤64*ws.length∧∀i n,ws[i]? =some n→n<18446744073709551616∧∀k,k<64→n.testBit k=st.getD (64*i+k) false
theorem nO{ws:List Nat}{st:List Bool}(h:nF ws st){x:Nat}(hx:x<st.length):∃w,ws[x/64]? =some w∧w<18446744073709551616∧∀k,k<64→w.testBit k=st.getD (64*(x/64)+k) false:=by
 have hl:x/64<ws.length:=by have :=h.1;omega
 have he:ws[x/64]? =some ws[x/64]:=jD hl;exact⟨_,he,h.2 _ _ he⟩
theorem wds_has{st:List Bool}{x w:Nat}(hb:∀k,k<64→w.testBit k=st.getD (64*(x/64)+k) false):decide (w/2 ^ (x%64)%2=1)=st.getD x false:=by
 have h1:=hb (x%64) qJ;rw[show 64*(x/64)+x%64=x by omega,Nat.testBit_eq_decide_div_mod_eq]at h1;exact h1
theorem mB{st:List Bool}{x y:Nat}{b:Bool}(hx:x<st.length):(st.set x b).getD y false=if x=y then b else st.getD y false:=by
 rw[kP,vP]
 by_cases h:x=y
 · subst h;rw[if_pos rfl,if_pos hx,if_pos rfl];rfl
 · rw[if_neg h,if_neg h,←kP]
theorem or_lt{w k:Nat}(hw:w<18446744073709551616)(hk:k<64):w ||| 2 ^ k<18446744073709551616:=
 Nat.or_lt_two_pow (n:=64) hw (Nat.pow_lt_pow_right qZ hk)
theorem wds_set{ws:List Nat}{st:List Bool}(h:nF ws st){x w:Nat}(hx:x<st.length)(hw:ws[x/64]? =some w):nF (ws.set (x/64) (w ||| 2 ^ (x%64))) (st.set x true):=by
 have hl:x/64<ws.length:=(jE.1 hw).1;refine⟨by rw[uG,uG];exact h.1,fun i n hn=>?_⟩;rw[vP]at hn
 by_cases hi:x/64=i
 · subst hi;rw[if_pos rfl,if_pos hl,Option.some.injEq]at hn;subst hn;obtain⟨h1,h2⟩:=h.2 _ _ hw;refine⟨or_lt h1 qJ,fun k hk=>?_⟩;rw[Nat.testBit_or,Nat.testBit_two_pow,h2 k hk,mB hx]
   by_cases hk2:x%64=k
   · rw[if_pos qJ,decide_eq_true hk2,Bool.or_true]
   · rw[if_neg qJ,decide_eq_false hk2,Bool.or_false]
 · rw[if_neg hi]at hn;obtain⟨h1,h2⟩:=h.2 _ _ hn;refine⟨h1,fun k hk=>?_⟩;rw[h2 k hk,mB hx,if_neg qJ]
theorem Uj{ws:List Nat}{st:List Bool}(h:nF ws st){x w:Nat}(hx:x<st.length)(hw:ws[x/64]? =some w):nF (ws.set (x/64) (w &&& (18446744073709551615-2 ^ (x%64)))) (st.set x false):=by
 have hl:x/64<ws.length:=(jE.1 hw).1;refine⟨by rw[uG,uG];exact h.1,fun i n hn=>?_⟩;rw[vP]at hn
 by_cases hi:x/64=i
 · subst hi;rw[if_pos rfl,if_pos hl,Option.some.injEq]at hn;subst hn;obtain⟨h1,h2⟩:=h.2 _ _ hw;refine⟨Nat.lt_of_le_of_lt Nat.and_le_left h1,fun k hk=>?_⟩;have hp:2 ^ (x%64)<2 ^ 64:=Nat.pow_lt_pow_right qZ qJ;have e:18446744073709551615-2 ^ (x%64)=2 ^ 64-(2 ^ (x%64)+1):=by
    have :(2:Nat) ^ 64=18446744073709551616:=by decide
    omega
   rw[Nat.testBit_and,e,Nat.testBit_two_pow_sub_succ hp,Nat.testBit_two_pow,h2 k hk,mB hx,decide_eq_true hk,Bool.true_and]
   by_cases hk2:x%64=k
   · rw[if_pos qJ,decide_eq_true hk2,Bool.not_true,Bool.and_false]
   · rw[if_neg qJ,decide_eq_false hk2,Bool.not_false,Bool.and_true]
 · rw[if_neg hi]at hn;obtain⟨h1,h2⟩:=h.2 _ _ hn;refine⟨h1,fun k hk=>?_⟩;rw[h2 k hk,mB hx,if_neg qJ]
theorem tW{st:List Bool}{y:Nat}(h:st.length≤y):st.getD y false=false:=by
 rw[kP,kI h];rfl
theorem K7{ws:List Nat}{st:List Bool}(h:nF ws st):nF (ws++[0]) st:=by
 refine⟨by rw[jI];have :=h.1;omega,fun i n hn=>?_⟩
 by_cases hi:i<ws.length
 · rw[vE hi]at hn;exact h.2 i n hn
 · rw[vU qJ]at hn
   by_cases h0:i=ws.length
   · subst h0;rw[Nat.sub_self]at hn;obtain rfl:(0:Nat)=n:=by simpa using hn
     refine⟨by decide,fun k hk=>?_⟩;rw[tW (by have :=h.1;omega)];simp
   · rw[kI qW]at hn;cases hn
section
variable {α:Type}(enc:α→List Value)(k:Nat)
def uS(l:List α):List Value:=l.flatMap enc
def pA(w:World)(A:Option Addr)(l:List α):Prop:=
 0<l.length→∃b off,A=some ⟨b,off,none⟩∧∀i x,l[i]? =some x→∀j v,(enc x)[j]? =some v→w.cell? ⟨b,off+i*k+j,none⟩=some v
variable {enc k}
theorem uC(l m:List α):uS enc (l++m)=uS enc l++uS enc m:=by simp[uS]
theorem yP(hk:∀x,(enc x).length=k)(l:List α):(uS enc l).length=l.length*k:=by
 induction l with
 |nil=>simp[uS]
 |cons x l ih=>
  have e:uS enc (x::l)=enc x++uS enc l:=rfl;rw[e,jI,ih,hk,List.length_cons,Nat.add_mul];omega
theorem UP(hk:∀x,(enc x).length=k):∀(l:List α) (i:Nat) (x:α),l[i]? =some x→∀j,j<k→(uS enc l)[i*k+j]? =(enc x)[j]?
 |[],i,x,h,j,hj=>by simp at h
 |y::l,0,x,h,j,hj=>by
  obtain rfl:y=x:=by simpa using h
  have e:uS enc (y::l)=enc y++uS enc l:=rfl;rw[e,Nat.zero_mul,kB,vE (by rw[hk];exact hj)]
 |y::l,i+1,x,h,j,hj=>by
  have e:uS enc (y::l)=enc y++uS enc l:=rfl;rw[e,vU (by rw[hk,Nat.add_mul];omega),hk,show(i+1)*k+j-k=i*k+j from by rw[Nat.add_mul];omega];exact UP hk l i x qK3 j hj
theorem mC(h1:∀x,∀v∈enc x,v.oneCell'=true)(l:List α):∀u∈uS enc l,u.oneCell'=true:=by
 intro u hu;simp only[uS,List.mem_flatMap]at hu;obtain⟨x,_,hx⟩:=hu;exact h1 x u hx
theorem pA.below{w w1:World}{A:Option Addr}{l:List α}(h:pA enc k w A l)(hb:Below w.heap.size w w1):pA enc k w1 A l:=fun hl=>by
 obtain⟨b,off,e,hc⟩:=h hl;exact⟨b,off,e,fun i x hx j v hv=>jA hb (hc i x hx j v hv)⟩
theorem pA.at_{w:World}{A:Option Addr}{l:List α}(h:pA enc k w A l){i:Nat}(hi:i<l.length):∃b off x,A=some ⟨b,off,none⟩∧l[i]? =some x∧∀j v,(enc x)[j]? =some v→w.cell? ⟨b,off+i*k+j,none⟩=some v:=by
 obtain⟨b,off,hA,hc⟩:=h qJ;exact⟨b,off,l[i],hA,jD hi,hc i _ (jD hi)⟩
theorem vZ(b off j:Nat):(⟨b,off,none⟩:Addr).add j=⟨b,off+j,none⟩:=by
 unfold Addr.add
 by_cases hz:j=0
 · rw[if_pos hz,hz];rfl
 · rw[if_neg hz]
theorem pA.news{w:World}{ad:Addr}{l:List α}(hk:∀x,(enc x).length=k)(h:pA enc k w (some ad) l):∀j u,(uS enc l)[j]? =some u→w.cell? (ad.add j)=some u:=by
 intro j u hj;have hlt:=(jE.1 hj).1;rw[yP hk]at hlt;have hl0:0<l.length:=by
  rcases Nat.eq_zero_or_pos l.length with h0|h0
  · rw[h0]at hlt;omega
  · exact h0
 have hk0:0<k:=by
  rcases Nat.eq_zero_or_pos k with h0|h0
  · rw[h0]at hlt;omega
  · exact h0
 obtain⟨b,off,e,hc⟩:=h hl0;obtain rfl:ad=⟨b,off,none⟩:=by simpa using e
 rw[vZ];have hi:j/k<l.length:=Nat.div_lt_of_lt_mul (by rw[Nat.mul_comm];exact hlt);have hm:j%k<k:=Nat.mod_lt _ hk0;have e1:j/k*k+j%k=j:=Nat.div_add_mod' j k;have h1:=UP hk l (j/k) _ (jD hi) (j%k) hm;rw[e1,hj]at h1;have h2:=hc (j/k) _ (jD hi) (j%k) u h1.symm;rw[show off+j=off+j/k*k+j%k from by omega];exact h2
theorem UU{w:World}{base:Nat}{e:TypeId}{v:Value}{n:Nat}{xs:List Value}(h:w.ownsRow base e k v n xs){g:Nat}(hg:v.ownBlock=some g):base≤g∧g<w.heap.size:=h.lt g hg
end
end Go.Proofs.YtjcpdcncfjkejaaGreatDoor
namespace Go
variable {P:Program}
theorem jM{ops:Array Oper}{rest:List Oper}{op:Oper}{a:Act}{w:World}{Q:Exit→Act→World→Prop}(v:Value)(hw:Region.wanted op (yielded ops a.tmps)=true)(hr:(execOp a.eval op).run P w=.ok (.value v) w)
 (h:wpList P ops Q rest (a.put op.dst v) w):wpList P ops Q (op::rest) a w:=by
 unfold wpList;rw[if_pos hw];refine .inl ?_;unfold Oper.wp;rw[hr];exact h
theorem uM{ops:Array Oper}{rest:List Oper}{op:Oper}{a:Act}{w:World}{Q:Exit→Act→World→Prop}(v:Value)(w':World)(hw:Region.wanted op (yielded ops a.tmps)=true)(hr:(execOp a.eval op).run P w=.ok (.value v) w')
 (h:wpList P ops Q rest (a.put op.dst v) w'):wpList P ops Q (op::rest) a w:=by
 unfold wpList;rw[if_pos hw];refine .inl ?_;unfold Oper.wp;rw[hr];exact h
end Go
namespace Go
section
variable {P:Program}{ops:Array Oper}{md:Region.Mode}{S:World→Prop}
def zH(n:Nat)(dst:Option Tmp)(u v:Value):Prop:=∀a:Act,a.tmps.size=n→a.put dst u=a.put dst v
theorem zH.rfl'{n:Nat}{dst:Option Tmp}{v:Value}:zH n dst v v:=fun _ _=>rfl
def upU(P:Program)(S:World→Prop)(n:Nat)(dst:Option Tmp)(v:Value):Result Next→Prop
 | .ok (.value u) w'=>zH n dst u v∧S w'
 | .ok .skip w'=>zH n dst undef v∧S w'
 | .ok (.enter f args) w'=>Calls P f args w' fun e w''=>match e with
    | .returned u=>zH n dst u v∧S w''
    |_=>False
 | .ok (.row row args) w'=>Rows P row args w' fun u w''=>zH n dst u v∧S w''
 |_=>False
def oR(P:Program)(ops:Array Oper)(S:World→Prop)(o:Oper)(v:Value)(a:Act):Prop:=
 (Region.wanted o (yielded ops a.tmps)=true∧∀w,S w→upU P S a.tmps.size o.dst v ((execOp a.eval o).run P w))∨
 (Region.wanted o (yielded ops a.tmps)=false∧v=undef)
theorem oR.of_same{o:Oper}{v:Value}{a a':Act}(hy:oR P ops S o v a)(he:execOp a'.eval o=execOp a.eval o)
 (hw:Region.wanted o (yielded ops a'.tmps)=Region.wanted o (yielded ops a.tmps)) (hs:a'.tmps.size=a.tmps.size):oR P ops S o v a':=by
 unfold oR at *;rw[he,hw,hs];exact hy
theorem Act.put_size(a:Act)(dst:Option Tmp)(v:Value):(a.put dst v).tmps.size=a.tmps.size:=by
 cases dst<;>simp[Act.put]
theorem oR.wpOp{Q:Exit→Act→World→Prop}{i:Nat}{o:Oper}{v:Value}{a:Act}(hi:ops[i]? =some o)(hy:oR P ops S o v a)
 {K:Act→World→Prop} {w:World} (hS:S w) (h:∀w',S w'→K (a.put o.dst v) w'):wpOp P ops Q i K a w:=by
 unfold Go.wpOp;simp only[hi];rcases hy with⟨hw,hv⟩|⟨hw,rfl⟩
 · simp only[hw,if_true,Oper.wp];refine .inl ?_;have hv:=hv w hS;generalize (execOp a.eval o).run P w=r at *;cases r with
   |ok n w'=>
    cases n<;>simp only[upU,Oper.upon]at hv ⊢
    case value u=>rw[hv.1 a rfl];exact h _ hv.2
    case skip=>rw[hv.1 a rfl];exact h _ hv.2
    case enter f args=>
     refine Calls.mono hv fun e w'' he=>?_;cases e with
     |returned u=>simp only at he ⊢;rw[he.1 a rfl];exact h _ he.2
     |panicked c=>exact he.elim
     |outgrown=>exact he.elim
    case row row args=>exact Rows.mono hv fun u w'' he=>(by rw[he.1 a rfl];exact h _ he.2)
   |halt x w'=>exact hv.elim
 · simp only[hw,Bool.false_eq_true,if_false];exact h _ hS
def aB(P:Program)(md:Region.Mode)(ops:Array Oper)(S:World→Prop)(n:Nat)(L:Array Bool→Act→Prop):Nat→Array Bool→Act→Prop
 |0,listed,a=>L listed a
 |f+1,listed,a=>
  Region.ready md ops listed≠[]∧∀i∈Region.ready md ops listed,i<n∧∃o v,ops[i]? =some o∧oR P ops S o v a∧aB P md ops S n L f (listed.setIfInBounds i true) (a.put o.dst v)
theorem nA{n g:Nat}{L:Array Bool→Act→Prop}{Q':Exit→Act→World→Prop}(hL:∀listed a,L listed a→∀w,S w→wpAny P md ops Q' g listed a w):
 ∀(f:Nat) (listed:Array Bool) (a:Act),aB P md ops S n L f listed a→∀w,S w→wpAny P md ops Q' (f+g) listed a w
 |0,listed,a,h,w,hS=>by rw[kB];exact hL _ _ h w hS
 |f+1,listed,a,h,w,hS=>by
  rw[show f+1+g=(f+g)+1 by omega];refine⟨fun h0=>absurd h0 h.1,fun i hi=>?_⟩;obtain⟨_,o,v,ho,hy,hr⟩:=h.2 i hi;exact hy.wpOp ho hS (fun w' hS'=>nA hL f _ _ hr w' hS')
theorem rL{n i:Nat}{oi:Oper}{v:Value}{L:Array Bool→Act→Prop}(hi:ops[i]? =some oi)(hsel:∀(j:Nat) (o:Oper) cs b,ops[j]? =some o→o.op≠ .select cs b)
 (hs:Region.sinkB md ops n=true) (hc:Region.chainB md ops n=true) (hn:n<ops.size) (hin:i<n)
 (hdone:∀listed a,L listed a→∀j∈Region.ready md ops listed,n≤j):
 ∀(f:Nat) (listed:Array Bool) (a:Act),HeadInv md ops n listed→
  (∀j oj,ops[j]? =some oj→j≠i→listed.getD j true=false→(∀e∈oj.after,Region.binds md e=true→e.on≠i)→oi.apart ops oj=true)→
  i∈Region.ready md ops listed→oR P ops S oi v a→
  aB P md ops S n L f (listed.setIfInBounds i true) (a.put oi.dst v)→aB P md ops S n L (f+1) listed a:=by
 intro f
 induction f with
 |zero=>
  intro listed a inv _ hr hy H;have hun:=(mem_ready.1 hr).1;refine⟨fun h=>qKr,fun j hj=>?_⟩;have hjn:j<n:=by
   rcases Nat.lt_or_ge j n with h|h
   · exact h
   · exact qZc
  refine⟨hjn,?_⟩
  by_cases hji:j=i
  · subst hji;exact⟨oi,v,hi,hy,H⟩
  · have :=hdone _ _ H j (ready_mono hj hji);omega
 |succ f ih=>
  intro listed a inv hfree hr hy H;have hun:=(mem_ready.1 hr).1;refine⟨fun h=>qKr,fun j hj=>?_⟩;have hjn:j<n:=by
   rcases Nat.lt_or_ge j n with h|h
   · exact h
   · exact qZc
  refine⟨hjn,?_⟩
  by_cases hji:j=i
  · subst hji;exact⟨oi,v,hi,hy,H⟩
  · obtain⟨_,oj',u,hoj',hyj,Hj⟩:=H.2 j (ready_mono hj hji);obtain⟨hjun,oj,hoj,hall⟩:=mem_ready.1 hj;obtain rfl:oj'=oj:=Option.some.inj (hoj'.symm.trans hoj);have hnot:∀e∈oj'.after,Region.binds md e=true→e.on≠i:=fun e he hb heq=>by
     have h1:=hall e he hb;rw[heq,getD_both hun]at h1;cases h1
    obtain⟨h1,h2,h3⟩:=Oper.apart_spec (hfree j oj' hoj hji hjun hnot);have hsi:=fun cs b=>hsel i oi cs b hi;have hsj:=fun cs b=>hsel j oj' cs b hoj;have hyj':oR P ops S oj' u a:=hyj.of_same (execOp_put oj' hsj a oi.dst v h1).symm (wanted_put oj' a oi.dst v h1).symm (Act.put_size _ _ _).symm;have hyi':oR P ops S oi v (a.put oj'.dst u):=hy.of_same (execOp_put oi hsi a oj'.dst u h3) (wanted_put oi a oj'.dst u h3) (Act.put_size _ _ _);have hfree':∀k ok,ops[k]? =some ok→k≠i→(listed.setIfInBounds j true).getD k true=false→
     (∀e∈ok.after,Region.binds md e=true→e.on≠i)→oi.apart ops ok=true:=fun k ok hk hki hun hno=>by
     refine hfree k ok hk hki ?_ hno
     by_cases hjk:j=k
     · subst hjk;exact hjun
     · rw[getD_set_ne true hjk]at hun;exact hun
    refine⟨oj',u,hoj,hyj',ih (listed.setIfInBounds j true) _ (inv.set hj hjn) hfree' (ready_mono hr (Ne.symm hji)) hyi' ?_⟩;rw[Array.setIfInBounds_comm _ _ hji,←Act.put_comm a v u h2];exact Hj
def fT(P:Program)(ops:Array Oper)(S:World→Prop)(Lq:Act→Prop):List Oper→Act→Prop
 |[],a=>Lq a
 |o::l,a=>∃v,oR P ops S o v a∧fT P ops S Lq l (a.put o.dst v)
theorem VF{n g:Nat}{Lq:Act→Prop}(hsel:Region.noSelect ops=true)(hs:Region.sinkB md ops n=true)(hc:Region.chainB md ops n=true)(hn:n<ops.size):
 ∀(l:List Oper) (k:Nat) (listed:Array Bool) (a:Act),(∀j,j<l.length→l[j]? =ops[k+j]?)→k+l.length=n→HeadInv md ops n listed→
 Region.lexHead md ops g l.length k listed=true→fT P ops S Lq l a→
 aB P md ops S n (fun listed' a'=>Region.seqB md ops g n listed'=true∧Lq a') l.length listed a
 |[],k,listed,a,_,hk,_,hB,h=>by
  have :k=n:=by simpa using hk
  subst this;exact⟨by simpa[Region.lexHead]using hB,h⟩
 |o::l,k,listed,a,hl,hk,inv,hB,h=>by
  have h0:ops[k]? =some o:=by simpa using(hl 0 qV).symm
  simp only[List.length_cons,Region.lexHead,Bool.and_eq_true]at hB;obtain⟨⟨hr,hf⟩,hB'⟩:=hB;have hkn:k<n:=by simp only[List.length_cons]at hk;omega
  have hr':k∈Region.ready md ops listed:=by simpa using hr
  obtain⟨v,hy,hK⟩:=h;exact rL h0 (Region.noSelect_spec hsel) hs hc hn hkn (fun listed' a' hL=>seqB_ready hL.1) l.length listed a inv (Region.free_spec h0 hf) hr' hy
   (VF hsel hs hc hn l (k+1) _ _ (fun j hj=>by have :=hl (j+1) qW;simpa[Nat.add_assoc,Nat.add_comm 1 j]using this) (by simp only[List.length_cons]at hk;omega) (inv.set hr' hkn) hB' hK)
theorem jO{id:Nat}{Q:Exit→Act→World→Prop}{a:Act}{w:World}{l:List Oper}(n:Nat)(S:World→Prop)(hm:P.follows .mixedOrders=true)(hB:Region.lexTailB .any l.toArray n=true)
 (hS:S w.drew) (h:fT P l.toArray S (fun a'=>∀w',S w'→wpList P l.toArray Q (l.drop n) a' w') (l.take n) a):(Code.region id l.toArray true).wp P Q a w:=by
 simp only[Region.lexTailB,Bool.and_eq_true,decide_eq_true_eq]at hB;obtain⟨⟨⟨⟨hsel,hn⟩,hs⟩,hc⟩,hlex⟩:=hB;have htl:(l.take n).length=n:=by
  have hn':n<l.length:=by simpa using hn
  simp;omega
 have hdl:(l.drop n).length=l.toArray.size-n:=by simp
 have inv0:HeadInv .any l.toArray n (Array.replicate l.toArray.size false):=
  ⟨by simp,fun j oj _ hl=>qK2,fun t _ ht=>getD_in (by simpa using ht) (getD_replicate_false _ _)⟩
 have H:=VF (md:=.any) (g:=l.toArray.size-n) hsel hs hc hn (l.take n) 0 _ a (fun j hj=>by
  have hj':j<n:=by rw[htl]at hj;exact hj
  simp[hj']) (by simpa using htl) inv0 (by rw[htl];exact hlex) h
 refine wp_region_any hm ?_;have :=nA (Q':=Q) (g:=l.toArray.size-n) (fun listed a' hL w' hS'=>by
  have :=wpAny_of_seq (md:=.any) (Q':=Q) (l.drop n) n listed a' w' (fun j=>by simp[gV]) (by rw[hdl];exact hL.1) (hL.2 w' hS')
  rwa[hdl]at this) _ _ _ H w.drew hS
 rw[htl,show n+(l.toArray.size-n)=l.toArray.size by simp at hn;simp;omega]at this;exact this
variable {Lq:Act→Prop}
theorem kU{a:Act}(h:Lq a):fT P ops S Lq [] a:=h
theorem kV{o:Oper}{l:List Oper}{a:Act}(hw:Region.wanted o (yielded ops a.tmps)=false)(hr:fT P ops S Lq l (a.put o.dst undef)):fT P ops S Lq (o::l) a:=
 ⟨undef,.inr ⟨hw,rfl⟩,hr⟩
theorem kG{o:Oper}{l:List Oper}{a:Act}(v:Value)(hw:Region.wanted o (yielded ops a.tmps)=true)(h:∀w,S w→(execOp a.eval o).run P w=.ok (.value v) w)
 (hr:fT P ops S Lq l (a.put o.dst v)):fT P ops S Lq (o::l) a:=
 ⟨v,.inl ⟨hw,fun w hS=>by rw[h w hS];exact⟨zH.rfl',hS⟩⟩,hr⟩
theorem kN{o:Oper}{l:List Oper}{a:Act}(f:FuncId)(args:Array Value)(v:Value)(hw:Region.wanted o (yielded ops a.tmps)=true)(h:∀w,(execOp a.eval o).run P w=.ok (.enter f args) w)
 (hc:∀w,S w→Calls P f args w fun e w'=>e=.returned v∧S w')
 (hr:fT P ops S Lq l (a.put o.dst v)):fT P ops S Lq (o::l) a:=
 ⟨v,.inl ⟨hw,fun w hS=>by
  rw[h w];refine(hc w hS).mono fun e w' he=>?_;rw[he.1];exact⟨zH.rfl',he.2⟩⟩,hr⟩
end
end Go
namespace Go.Proofs.YtjcpdcncfjkejaaGreatDoor
def lK:List (Int×Int):=[(0x300,0x36f),(0x483,0x489),(0x591,0x5bd),(0x610,0x61a),(0x64b,0x65f),(0x900,0x902),(0x93c,0x93c),(0x941,0x948),(0xe31,0xe31),(0xe34,0xe3a),(0x1ab0,0x1aff),(0x1dc0,0x1dff),(0x200b,0x200f),(0x20d0,0x20ff),(0x2060,0x2064),(0xfe00,0xfe0f),(0xfe20,0xfe2f),(0xfeff,0xfeff),(0xe0100,0xe01ef)]
def iS:List (Int×Int):=[(0x1100,0x115f),(0x231a,0x231b),(0x2329,0x232a),(0x23e9,0x23ec),(0x25fd,0x25fe),(0x2614,0x2615),(0x2e80,0x303e),(0x3041,0x33ff),(0x3400,0x4dbf),(0x4e00,0x9fff),(0xa000,0xa4cf),(0xa960,0xa97f),(0xac00,0xd7a3),(0xf900,0xfaff),(0xfe30,0xfe6f),(0xff00,0xff60),(0xffe0,0xffe6),(0x1f300,0x1f64f),(0x1f680,0x1f6ff),(0x1f900,0x1f9ff),(0x20000,0x2fffd),(0x30000,0x3fffd)]
def bM(l:List (Int×Int))(r:Int):Bool:=l.any (fun x=>decide (x.1≤r)&&decide (r≤x.2))
def dZ(r:Int):Bool:=decide (r<32)||(decide (127≤r)&&decide (r<160))||(decide (0xd800≤r)&&decide (r<0xe000))||decide (0x10ffff<r)
def pR(r:Int):Int:=if dZ r then -1 else if bM lK r then 0 else if bM iS r then 2 else 1
theorem KO{r:Int}(h:r<0x300):bM lK r=false∧bM iS r=false:=by
 constructor<;>
 · simp only[bM,lK,iS,List.any_cons,List.any_nil,Bool.or_false,Bool.or_eq_false_iff,Bool.and_eq_false_iff,decide_eq_false_iff_not];omega
theorem Jv{r:Int}(h:r<0x300):pR r=if dZ r then -1 else 1:=by
 unfold pR;rw[(KO h).1,(KO h).2];rfl
structure Atr where
 fk:Int
 fn:Int
 bk:Int
 bn:Int
 fl:Int
structure Col where
 k:Int
 n:Int
def mS(c:Cl):Atr:=⟨c.fk,c.fn,c.bk,c.bn,c.fl⟩
def yO(r:Int)(more:ByteArray)(half:Int)(a:Atr):Cl:=⟨r,more,half,a.fk,a.fn,a.bk,a.bn,a.fl⟩
def pM(a:Atr):Cl:=yO 0 kD 0 a
def uU(c:Cl):Cl:=pM (mS c)
def vD(b:Col):Cl:=pM ⟨0,0,b.k,b.n,0⟩
def wH:Cl:=yO 0 kD 3 ⟨0,0,0,0,0⟩
def fA(a b:Cl):Bool:=decide (a.half=1)&&decide (b.half=2)&&decide (a={b with half:=1})
def uX:List Cl→List Cl
 |[]=>[]
 |[c]=>if c.half=0∨c.half=3 then[c]else[uU c]
 |c::d::l=>if c.half=0 then c::uX (d::l)else if fA c d then c::d::uX l else uU c::uX (d::l)
theorem nK(c d:Cl)(l:List Cl):uX (c::d::l)=if c.half=0 then c::uX (d::l)else if fA c d then c::d::uX l else uU c::uX (d::l):=by rw[uX]
theorem mG(c:Cl):uX [c]=if c.half=0∨c.half=3 then[c]else[uU c]:=by rw[uX]
theorem kR:∀l:List Cl,(uX l).length=l.length
 |[]=>rfl
 |[c]=>by rw[uX];split<;>rfl
 |c::d::l=>by
  rw[uX];have h1:=kR (d::l);have h2:=kR l
  split
  · simp only[List.length_cons]at h1 ⊢;omega
  split
  · simp only[List.length_cons];omega
  · simp only[List.length_cons]at h1 ⊢;omega
theorem eU{c:Cl}(h:c.half=0)(l:List Cl):uX (c::l)=c::uX l:=by
 match l with
 |[]=>rw[mG,if_pos (Or.inl h)];rfl
 |d::l=>rw[uX,if_pos h]
theorem bT:∀l:List Cl,uX (uX l)=uX l
 |[]=>rfl
 |[c]=>by
  rw[uX]
  split
  · next h=>rw[uX,if_pos h]
  · rw[eU rfl];rfl
 |c::d::l=>by
  have h1:=bT (d::l);have h2:=bT l;rw[uX]
  split
  · next h=>rw[eU h,h1]
  split
  · next h hp=>rw[uX,if_neg h,if_pos hp,h2]
  · rw[eU rfl,h1]
def dS(l:List Cl)(x r:Int)(a:Atr):List Cl:=
 let o:=uX l
 if pR r=1∧0≤x∧x<o.length then uX (o.set x.toNat (yO r kD 0 a))
 else if pR r=2∧0≤x∧x+1<o.length then uX ((o.set x.toNat (yO r kD 1 a)).set (x.toNat+1) (yO r kD 2 a))
 else o
def cH(l:List Cl):List Cl:=uX ((uX l).set (l.length-1) wH)
def nB(b:Col)(x y:Int)(l:List Cl):List Cl:=l.mapIdx (fun i c=>if x≤i∧(i:Int)<y then vD b else c)
def pG(l:List Cl)(x y:Int)(b:Col):List Cl:=uX (nB b x y (uX l))
def pU(l:List Cl)(x n:Int)(b:Col):List Cl:=
 let o:=uX l
 if x<0∨(o.length:Int)≤x∨n<1 then o
 else uX ((o.take x.toNat++kJ n.toNat (vD b)++o.drop x.toNat).take o.length)
def yC(l:List Cl)(x n:Int)(b:Col):List Cl:=
 let o:=uX l
 if x<0∨(o.length:Int)≤x∨n<1 then o
 else uX ((o.take x.toNat++o.drop (x.toNat+n.toNat)++kJ n.toNat (vD b)).take o.length)
theorem lQ(l:List Cl)(x r:Int)(a:Atr):(dS l x r a).length=l.length:=by
 unfold dS;simp only[]
 split
 · rw[kR,uG,kR]
 split
 · rw[kR,uG,uG,kR]
 · rw[kR]
theorem nH(l:List Cl):(cH l).length=l.length:=by unfold cH;rw[kR,uG,kR]
theorem lZ(l:List Cl)(x y:Int)(b:Col):(pG l x y b).length=l.length:=by unfold pG nB;rw[kR,List.length_mapIdx,kR]
theorem dX(l:List Cl)(x n:Int)(b:Col):(pU l x n b).length=l.length:=by
 unfold pU;simp only[]
 split
 · exact kR l
 · rw[kR,vH];have :=kR l;simp only[jI,vH,kS,List.length_drop];omega
theorem lF(l:List Cl)(x n:Int)(b:Col):(yC l x n b).length=l.length:=by
 unfold yC;simp only[]
 split
 · exact kR l
 · next h=>
   rw[kR,vH];have :=kR l;simp only[jI,vH,kS,List.length_drop];omega
open Go.RowKit
structure Mod(X:List Nat)(w w':World):Prop where
 os:w'.os=w.os
 tape:w'.tape=w.tape
 output:w'.output=w.output
 size:w.heap.size≤w'.heap.size
 block:∀k,k<w.heap.size→k∉X→w'.heap[k]? =w.heap[k]?
theorem Mod.refl(X:List Nat)(w:World):Mod X w w:=⟨rfl,rfl,rfl,jS _,fun _ _ _=>rfl⟩
theorem Mod.trans{X Y:List Nat}{a b c:World}(h:Mod X a b)(k:Mod Y b c)(hY:∀g∈Y,g∈X∨a.heap.size≤g):Mod X a c:=
 ⟨k.os.trans h.os,k.tape.trans h.tape,k.output.trans h.output,vY h.size k.size,fun i hi hx=>(k.block i (Nat.lt_of_lt_of_le hi h.size) (fun hy=>by
  rcases hY i hy with h1|h1
  · exact hx h1
  · omega)).trans (h.block i hi hx)⟩
theorem Mod.of_below{X:List Nat}{w w':World}(h:Below w.heap.size w w'):Mod X w w':=⟨h.os,h.tape,h.output,h.size,fun k hk _=>h.block k hk⟩
theorem Mod.below{X:List Nat}{w w':World}{B:Nat}(h:Mod X w w')(hX:∀g∈X,B≤g)(hB:B≤w.heap.size):Below B w w':=⟨h.os,h.tape,h.output,h.size,fun k hk=>h.block k qJ (fun hx=>by have :=hX k hx;omega)⟩
theorem Mod.mono{X Y:List Nat}{w w':World}(h:Mod X w w')(hXY:∀g∈X,g∈Y):Mod Y w w':=⟨h.os,h.tape,h.output,h.size,fun k hk hy=>h.block k hk (fun hx=>hy (hXY k hx))⟩
theorem Mod.then_below{X:List Nat}{a b c:World}(h:Mod X a b)(k:Below b.heap.size b c):Mod X a c:=h.trans (Mod.of_below (X:=[]) k) (fun g hg=>by cases hg)
theorem Mod.of_grown{X:List Nat}{w w':World}{row:Option Nat}(h:w.grownBy w' row)(hX:∀g,row=some g→g∈X):Mod X w w':=
 ⟨h.os,h.tape,h.output,h.size,fun k hk hx=>h.block k hk (fun e=>hx (hX k e.symm))⟩
theorem Mod.setCell{X:List Nat}{w w1:World}(h:Mod X w w1){a:Addr}(ha:a.block∈X∨w.heap.size≤a.block)(v:Value):Mod X w (w1.setCell a v):=
 ⟨h.os,h.tape,h.output,by simpa[uQ]using h.size,fun k hk hx=>by
  rw[Below.heap_setCell _ _ _ _ (fun e=>by subst e;rcases ha with h1|h1;exact hx h1;omega)];exact h.block k hk hx⟩
theorem Mod.cell{X:List Nat}{w w1:World}(h:Mod X w w1){b o:Nat}{v:Value}(hb:b∉X)(hc:w.cell? ⟨b,o,none⟩=some v):w1.cell? ⟨b,o,none⟩=some v:=
 (World.cell?_of_block (w:=w) (h.block b (gO hc) hb)).trans hc
theorem Mod.hold{X:List Nat}{w w1:World}(h:Mod X w w1){b o:Nat}{v:Value}(hb:b∉X)(hc:w.cell? ⟨b,o,none⟩=some v∧w.frozen? ⟨b,o,none⟩=false):w1.cell? ⟨b,o,none⟩=some v∧w1.frozen? ⟨b,o,none⟩=false:=
 ⟨h.cell hb hc.1,(World.frozen?_of_block (w:=w) (h.block b (gO hc.1) hb)).trans hc.2⟩
theorem uL{X:List Nat}{w w':World}{base:Nat}{e:TypeId}{size:Nat}{v:Value}{n:Nat}{xs:List Value}(h:w.ownsRow base e size v n xs)(hm:Mod X w w')(hX:∀g,v.ownBlock=some g→g∉X):w'.ownsRow base e size v n xs:=by
 obtain⟨h1,h2|⟨g,cap,cur,rfl,e2,e3,e4⟩⟩:=h
 · exact⟨h1,.inl h2⟩
 · refine⟨h1,.inr ⟨g,cap,cur,rfl,e2,?_,e4⟩⟩;rw[hm.block g ?_ (hX g rfl)];exact e3;rcases Nat.lt_or_ge g w.heap.size with h|h
   · exact h
   · rw[Array.getElem?_eq_none h]at e3;cases e3
theorem VG{α:Type}{enc:α→List Value}{k:Nat}{X:List Nat}{w w1:World}{b off:Nat}{l:List α}(h:pA enc k w (some ⟨b,off,none⟩) l)(hm:Mod X w w1)(hX:b∉X):pA enc k w1 (some ⟨b,off,none⟩) l:=fun hl=>by
 obtain⟨b',off',e,hc⟩:=h hl;simp only[Option.some.injEq,Addr.mk.injEq]at e;obtain⟨rfl,rfl,-⟩:=e;exact⟨b,off,rfl,fun i x hx j v hv=>hm.cell hX (hc i x hx j v hv)⟩
theorem gJ{w:World}{base base':Nat}{e:TypeId}{size:Nat}{v:Value}{n:Nat}{xs:List Value}(h:w.ownsRow base e size v n xs)(hb:base'≤base):w.ownsRow base' e size v n xs:=by
 obtain⟨h1,h2|⟨g,cap,cur,rfl,e2,e3⟩⟩:=h
 · exact⟨h1,.inl h2⟩
 · exact⟨h1,.inr ⟨g,cap,cur,rfl,vY hb e2,e3⟩⟩
theorem xD{w w':World}(hg:w.grownBy w' (Value.ownBlock (.slice none 0 0))){b o:Nat}{v:Value}(h:w.cell? ⟨b,o,none⟩=some v)(hf:w.frozen? ⟨b,o,none⟩=false):w'.frozen? ⟨b,o,none⟩=false:=
 (World.frozen?_of_block (w:=w) (hg.block b (gO h) (fun e=>by cases e))).trans hf
section
variable {P:Program}
theorem lD{w w':World}{ρ:Operand→Value}{o:Oper}(s x:Operand)(t:TypeId)(ho:o.op=.call {callee:=.builtin .append,args:=#[s,x],argTypes:=#[t,t]})(vs vx v':Value)(hs:ρ s=vs)(hx:ρ x=vx)
 (hr:(Builtin.append_ #[t,t] o.type #[vs,vx]).run P w=.ok v' w'):(execOp ρ o).run P w=.ok (.value v') w':=by
 unfold execOp;simp only[ho,resolve,invoke,builtin,Sem.run_bind,Sem.run_pure,Result.andThen_ok,List.map_toArray,List.map_cons,List.map_nil,hs,hx,hr]
end
end Go.Proofs.YtjcpdcncfjkejaaGreatDoor
namespace Go
open Go.RowKit
section
variable {P:Program}{ops:Array Oper}{md:Region.Mode}
def JN(S:World→Prop):Prop:=∀w w',S w→Below w.heap.size w w'→S w'
theorem JN.and{S T:World→Prop}(h:JN S)(k:JN T):JN (fun w=>S w∧T w):=fun w w' hS hb=>⟨h w w' hS.1 hb,k w w' hS.2 hb⟩
def upN(P:Program)(w:World)(n:Nat)(dst:Option Tmp)(V:Value→World→Prop):Result Next→Prop
 | .ok (.value u) w'=>∃v,zH n dst u v∧V v w'∧Below w.heap.size w w'
 | .ok .skip w'=>∃v,zH n dst undef v∧V v w'∧Below w.heap.size w w'
 | .ok (.enter f args) w'=>Calls P f args w' fun e w''=>match e with
    | .returned u=>∃v,zH n dst u v∧V v w''∧Below w.heap.size w w''
    |_=>False
 | .ok (.row row args) w'=>Rows P row args w' fun u w''=>∃v,zH n dst u v∧V v w''∧Below w.heap.size w w''
 |_=>False
def uY(P:Program)(ops:Array Oper)(S:World→Prop)(o:Oper)(V:Value→World→Prop)(a:Act):Prop:=
 (Region.wanted o (yielded ops a.tmps)=true∧∀w,S w→upN P w a.tmps.size o.dst V ((execOp a.eval o).run P w))∨
 (Region.wanted o (yielded ops a.tmps)=false∧∀w,S w→V undef w)
theorem uY.of_same{S:World→Prop}{o:Oper}{V:Value→World→Prop}{a a':Act}(hy:uY P ops S o V a)(he:execOp a'.eval o=execOp a.eval o)
 (hw:Region.wanted o (yielded ops a'.tmps)=Region.wanted o (yielded ops a.tmps)) (hs:a'.tmps.size=a.tmps.size):uY P ops S o V a':=by
 unfold uY at *;rw[he,hw,hs];exact hy
theorem uY.strengthen{S T:World→Prop}{o:Oper}{V:Value→World→Prop}{a:Act}(h:∀w,T w→S w)(hy:uY P ops S o V a):uY P ops T o V a:=by
 rcases hy with⟨hw,hv⟩|⟨hw,hv⟩
 · exact .inl ⟨hw,fun w hT=>hv w (h w hT)⟩
 · exact .inr ⟨hw,fun w hT=>hv w (h w hT)⟩
theorem uY.wpOp{S:World→Prop}{Q:Exit→Act→World→Prop}{i:Nat}{o:Oper}{V:Value→World→Prop}{a:Act}(hi:ops[i]? =some o)(hp:JN S)(hy:uY P ops S o V a)
 {K:Act→World→Prop} {w:World} (hS:S w) (h:∀v w',S w'→V v w'→K (a.put o.dst v) w'):wpOp P ops Q i K a w:=by
 unfold Go.wpOp;simp only[hi];rcases hy with⟨hw,hv⟩|⟨hw,hv⟩
 · simp only[hw,if_true,Oper.wp];refine .inl ?_;have hv:=hv w hS;generalize (execOp a.eval o).run P w=r at *;cases r with
   |ok n w'=>
    cases n<;>simp only[upN,Oper.upon]at hv ⊢
    case value u=>obtain⟨v,h1,h2,h3⟩:=hv;rw[h1 a rfl];exact h _ _ (hp _ _ hS h3) h2
    case skip=>obtain⟨v,h1,h2,h3⟩:=hv;rw[h1 a rfl];exact h _ _ (hp _ _ hS h3) h2
    case enter f args=>
     refine Calls.mono hv fun e w'' he=>?_;cases e with
     |returned u=>obtain⟨v,h1,h2,h3⟩:=he;simp only;rw[h1 a rfl];exact h _ _ (hp _ _ hS h3) h2
     |panicked c=>exact he.elim
     |outgrown=>exact he.elim
    case row row args=>exact Rows.mono hv fun u w'' he=>(by obtain⟨v,h1,h2,h3⟩:=he;rw[h1 a rfl];exact h _ _ (hp _ _ hS h3) h2)
   |halt x w'=>exact hv.elim
 · simp only[hw,Bool.false_eq_true,if_false];exact h _ _ hS (hv w hS)
def AT(A:Value→Prop)(T:Value→World→Prop):Value→World→Prop:=fun v w=>A v∧T v w
def JD(P:Program)(md:Region.Mode)(ops:Array Oper)(n:Nat)(L:Array Bool→Act→(World→Prop)→Prop):Nat→Array Bool→Act→(World→Prop)→Prop
 |0,listed,a,S=>L listed a S
 |f+1,listed,a,S=>
  Region.ready md ops listed≠[]∧∀i∈Region.ready md ops listed,i<n∧∃o A T,ops[i]? =some o∧(∀v,JN (T v))∧uY P ops S o (AT A T) a∧
   ∀v,A v→JD P md ops n L f (listed.setIfInBounds i true) (a.put o.dst v) (fun w=>S w∧T v w)
theorem nE{n g:Nat}{L:Array Bool→Act→(World→Prop)→Prop}{Q':Exit→Act→World→Prop}(hL:∀listed a S,L listed a S→∀w,S w→wpAny P md ops Q' g listed a w):
 ∀(f:Nat) (listed:Array Bool) (a:Act) (S:World→Prop),JN S→JD P md ops n L f listed a S→∀w,S w→wpAny P md ops Q' (f+g) listed a w
 |0,listed,a,S,_,h,w,hS=>by rw[kB];exact hL _ _ _ h w hS
 |f+1,listed,a,S,hp,h,w,hS=>by
  rw[show f+1+g=(f+g)+1 by omega];refine⟨fun h0=>absurd h0 h.1,fun i hi=>?_⟩;obtain⟨_,o,A,T,ho,hT,hy,hr⟩:=h.2 i hi;exact hy.wpOp ho hp hS (fun v w' hS' hV'=>nE hL f _ _ _ (hp.and (hT v)) (hr v hV'.1) w' ⟨hS',hV'.2⟩)
def Ym(L:Array Bool→Act→(World→Prop)→Prop):Prop:=∀listed a (S T:World→Prop),(∀w,T w→S w)→L listed a S→L listed a T
theorem JD.weaken{n:Nat}{L:Array Bool→Act→(World→Prop)→Prop}(hLk:Ym L):∀(f:Nat) (listed:Array Bool) (a:Act) (S T:World→Prop),(∀w,T w→S w)→JD P md ops n L f listed a S→JD P md ops n L f listed a T
 |0,listed,a,S,T,h,hh=>hLk listed a S T h hh
 |f+1,listed,a,S,T,h,hh=>by
  refine⟨hh.1,fun i hi=>?_⟩;obtain⟨hn,o,A,V,ho,hV,hy,hr⟩:=hh.2 i hi;exact⟨hn,o,A,V,ho,hV,hy.strengthen h,fun v hv=>JD.weaken hLk f _ _ _ _ (fun w ⟨h1,h2⟩=>⟨h w h1,h2⟩) (hr v hv)⟩
def Any:Value→World→Prop:=fun _ _=>True
theorem Any.pers(u:Value):JN (Any u):=fun _ _ _ _=>trivial
theorem XB{n i:Nat}{oi:Oper}{v:Value}{L:Array Bool→Act→(World→Prop)→Prop}(hLk:Ym L)(hi:ops[i]? =some oi)(hsel:∀(j:Nat) (o:Oper) cs b,ops[j]? =some o→o.op≠ .select cs b)
 (hs:Region.sinkB md ops n=true) (hc:Region.chainB md ops n=true) (hn:n<ops.size) (hin:i<n)
 (hdone:∀listed a S,L listed a S→∀j∈Region.ready md ops listed,n≤j):
 ∀(f:Nat) (listed:Array Bool) (a:Act) (S:World→Prop),HeadInv md ops n listed→
  (∀j oj,ops[j]? =some oj→j≠i→listed.getD j true=false→(∀e∈oj.after,Region.binds md e=true→e.on≠i)→oi.apart ops oj=true)→
  i∈Region.ready md ops listed→uY P ops S oi (AT (· =v) Any) a→
  JD P md ops n L f (listed.setIfInBounds i true) (a.put oi.dst v) S→JD P md ops n L (f+1) listed a S:=by
 intro f
 induction f with
 |zero=>
  intro listed a S inv _ hr hy H;have hun:=(mem_ready.1 hr).1;refine⟨fun h=>qKr,fun j hj=>?_⟩;have hjn:j<n:=by
   rcases Nat.lt_or_ge j n with h|h
   · exact h
   · exact qZc
  refine⟨hjn,?_⟩
  by_cases hji:j=i
  · subst hji;exact⟨oi,_,_,hi,Any.pers,hy,fun u hu=>by subst hu;exact hLk _ _ S _ (fun w h=>h.1) H⟩
  · have :=hdone _ _ _ H j (ready_mono hj hji);omega
 |succ f ih=>
  intro listed a S inv hfree hr hy H;have hun:=(mem_ready.1 hr).1;refine⟨fun h=>qKr,fun j hj=>?_⟩;have hjn:j<n:=by
   rcases Nat.lt_or_ge j n with h|h
   · exact h
   · exact qZc
  refine⟨hjn,?_⟩
  by_cases hji:j=i
  · subst hji;exact⟨oi,_,_,hi,Any.pers,hy,fun u hu=>by subst hu;exact JD.weaken hLk _ _ _ S _ (fun w h=>h.1) H⟩
  · obtain⟨_,oj',A,T,hoj',hT,hyj,Hj⟩:=H.2 j (ready_mono hj hji);obtain⟨hjun,oj,hoj,hall⟩:=mem_ready.1 hj;obtain rfl:oj'=oj:=Option.some.inj (hoj'.symm.trans hoj);have hnot:∀e∈oj'.after,Region.binds md e=true→e.on≠i:=fun e he hb heq=>by
     have h1:=hall e he hb;rw[heq,getD_both hun]at h1;cases h1
    obtain⟨h1,h2,h3⟩:=Oper.apart_spec (hfree j oj' hoj hji hjun hnot);have hsi:=fun cs b=>hsel i oi cs b hi;have hsj:=fun cs b=>hsel j oj' cs b hoj;have hyj':uY P ops S oj' (AT A T) a:=hyj.of_same (execOp_put oj' hsj a oi.dst v h1).symm (wanted_put oj' a oi.dst v h1).symm (Act.put_size _ _ _).symm;have hfree':∀k ok,ops[k]? =some ok→k≠i→(listed.setIfInBounds j true).getD k true=false→
     (∀e∈ok.after,Region.binds md e=true→e.on≠i)→oi.apart ops ok=true:=fun k ok hk hki hun hno=>by
     refine hfree k ok hk hki ?_ hno
     by_cases hjk:j=k
     · subst hjk;exact hjun
     · rw[getD_set_ne true hjk]at hun;exact hun
    refine⟨oj',A,T,hoj,hT,hyj',fun u hu=>?_⟩;have hyi':uY P ops (fun w=>S w∧T u w) oi (AT (· =v) Any) (a.put oj'.dst u):=(hy.of_same (execOp_put oi hsi a oj'.dst u h3) (wanted_put oi a oj'.dst u h3) (Act.put_size _ _ _)).strengthen (fun w h=>h.1);refine ih (listed.setIfInBounds j true) _ _ (inv.set hj hjn) hfree' (ready_mono hr (Ne.symm hji)) hyi' ?_;rw[Array.setIfInBounds_comm _ _ hji,←Act.put_comm a v u h2];exact Hj u hu
def tailN(P:Program)(ops:Array Oper)(Q:Exit→Act→World→Prop)(n:Nat):Array Bool→Act→(World→Prop)→Prop:=fun listed a S=>
 Region.seqB .any ops (ops.size-n) n listed=true∧∀w,S w→wpList P ops Q (ops.toList.drop n) a w
theorem V7{Q:Exit→Act→World→Prop}{n:Nat}:Ym (tailN P ops Q n):=fun _ _ _ _ h hh=>⟨hh.1,fun w hw=>hh.2 w (h w hw)⟩
structure AtN(P:Program)(ops:Array Oper)(Q:Exit→Act→World→Prop)(n:Nat)(f:Nat)(listed:Array Bool)(a:Act)(S:World→Prop):Prop where
 h:HeadInv .any ops n listed→JD P .any ops n (tailN P ops Q n) f listed a S
variable {Q:Exit→Act→World→Prop}{S:World→Prop}{a:Act}{listed:Array Bool}{n f:Nat}
def Region.tailB(ops:Array Oper)(n:Nat):Bool:=Region.noSelect ops&&decide (n<ops.size)&&Region.sinkB .any ops n&&Region.chainB .any ops n
theorem AtN.take(i:Nat){o:Oper}{v:Value}(hB:Region.tailB ops n=true)(hi:ops[i]? =some o)(hin:(i<n)=True)(hf:Region.free .any ops listed i=true)(hr:(Region.ready .any ops listed).contains i=true)
 (hy:uY P ops S o (AT (· =v) Any) a) (h:AtN P ops Q n f (listed.setIfInBounds i true) (a.put o.dst v) S):AtN P ops Q n (f+1) listed a S:=⟨fun inv=>by
 simp only[Region.tailB,Bool.and_eq_true,decide_eq_true_eq]at hB;obtain⟨⟨⟨hsel,hn⟩,hs⟩,hc⟩:=hB;have hr':i∈Region.ready .any ops listed:=by simpa using hr
 have hin':i<n:=by rw[hin];trivial
 exact XB V7 hi (Region.noSelect_spec hsel) hs hc hn hin' (fun listed a S hL=>seqB_ready hL.1) f listed a S inv (Region.free_spec hi hf) hr' hy (h.h (inv.set hr' hin'))⟩
def AtC(c:Nat)(P:Program)(ops:Array Oper)(Q:Exit→Act→World→Prop)(n:Nat)(f:Nat)(listed:Array Bool)(a:Act)(S:World→Prop):Prop:=c≤c∧AtN P ops Q n f listed a S
theorem AtN.go(c:Nat)(h:AtC c P ops Q n f listed a S):AtN P ops Q n f listed a S:=h.2
theorem AtC.back{c:Nat}(h:AtN P ops Q n f listed a S):AtC c P ops Q n f listed a S:=⟨jS c,h⟩
theorem AtC.take{i:Nat}{o:Oper}{v:Value}(hB:Region.tailB ops n=true)(hi:ops[i]? =some o)(hin:(i<n)=True)(hf:Region.free .any ops listed i=true)(hr:(Region.ready .any ops listed).contains i=true)
 (hy:uY P ops S o (AT (· =v) Any) a) (h:AtC (i+1) P ops Q n f (listed.setIfInBounds i true) (a.put o.dst v) S):AtC i P ops Q n (f+1) listed a S:=⟨jS i,AtN.take i hB hi hin hf hr hy h.2⟩
theorem AtN.one(i:Nat){o:Oper}(A:Value→Prop)(T:Value→World→Prop)(hin:(i<n)=True)(hr:Region.ready .any ops listed=[i])(hi:ops[i]? =some o)(hT:∀v,JN (T v))
 (hy:uY P ops S o (AT A T) a) (h:∀v,A v→AtN P ops Q n f (listed.setIfInBounds i true) (a.put o.dst v) (fun w=>S w∧T v w)):AtN P ops Q n (f+1) listed a S:=⟨fun inv=>by
 have hin':i<n:=by rw[hin];trivial
 refine⟨by rw[hr];simp,fun j hj=>?_⟩;have hj':=hj;rw[hr]at hj;obtain rfl:j=i:=by simpa using hj
 exact⟨hin',o,A,T,hi,hT,hy,fun v hv=>(h v hv).h (inv.set hj' hin')⟩⟩
theorem AtN.done(hB:Region.seqB .any ops (ops.size-n) n listed=true)(h:∀w,S w→wpList P ops Q (ops.toList.drop n) a w):AtN P ops Q n 0 listed a S:=⟨fun _=>⟨hB,h⟩⟩
theorem gG{id:Nat}{w:World}(n:Nat)(S:World→Prop)(hm:P.follows .mixedOrders=true)(hB:Region.tailB ops n=true)(hp:JN S)(hS:S w.drew)
 (h:AtN P ops Q n n (Array.replicate ops.size false) a S):(Code.region id ops true).wp P Q a w:=by
 simp only[Region.tailB,Bool.and_eq_true,decide_eq_true_eq]at hB;obtain⟨⟨⟨hsel,hn⟩,hs⟩,hc⟩:=hB;have inv0:HeadInv .any ops n (Array.replicate ops.size false):=
  ⟨by simp,fun j oj _ hl=>qK2,fun t _ ht=>getD_in (by simpa using ht) (getD_replicate_false _ _)⟩
 refine wp_region_any hm ?_;have :=nE (Q':=Q) (g:=ops.size-n) (fun listed a' S hL w' hS'=>by
  have :=wpAny_of_seq (md:=.any) (Q':=Q) (ops.toList.drop n) n listed a' w' (fun j=>by simp[gV]) (by simpa using hL.1) (hL.2 w' hS');simpa using this) _ _ _ _ hp (h.h inv0) w.drew hS
 rw[show n+(ops.size-n)=ops.size by omega]at this;exact this
theorem uY.val{o:Oper}{v:Value}(hw:Region.wanted o (yielded ops a.tmps)=true)(h:∀w,S w→(execOp a.eval o).run P w=.ok (.value v) w):uY P ops S o (AT (· =v) Any) a:=
 .inl ⟨hw,fun w hS=>by rw[h w hS];exact⟨v,zH.rfl',⟨rfl,trivial⟩,jU _ _⟩⟩
theorem uY.call{o:Oper}(f:FuncId)(args:Array Value)(A:Value→Prop)(T:Value→World→Prop)(hw:Region.wanted o (yielded ops a.tmps)=true)(h:∀w,(execOp a.eval o).run P w=.ok (.enter f args) w)
 (hc:∀w,S w→Calls P f args w fun e w'=>∃v,e=.returned v∧(A v∧T v w')∧Below w.heap.size w w'):uY P ops S o (AT A T) a:=
 .inl ⟨hw,fun w hS=>by
  rw[h w];refine(hc w hS).mono fun e w' ⟨v,he,hv,hb⟩=>?_;rw[he];exact⟨v,zH.rfl',hv,hb⟩⟩
theorem uY.call1{o:Oper}(f:FuncId)(args:Array Value)(v:Value)(hw:Region.wanted o (yielded ops a.tmps)=true)(h:∀w,(execOp a.eval o).run P w=.ok (.enter f args) w)
 (hc:∀w,S w→Calls P f args w fun e w'=>e=.returned v∧Below w.heap.size w w'):uY P ops S o (AT (· =v) Any) a:=
 uY.call f args _ _ hw h (fun _ hS=>(hc _ hS).mono fun _ _ ⟨he,hb⟩=>⟨v,he,⟨rfl,trivial⟩,hb⟩)
theorem uY.new{o:Oper}(A:Value→Prop)(T:Value→World→Prop)(hw:Region.wanted o (yielded ops a.tmps)=true)
 (h:∀w,S w→∃v w',(execOp a.eval o).run P w=.ok (.value v) w'∧A v∧T v w'∧Below w.heap.size w w'):uY P ops S o (AT A T) a:=
 .inl ⟨hw,fun w hS=>by
  obtain⟨v,w',hr,hA,hT,hb⟩:=h w hS;rw[hr];exact⟨v,zH.rfl',⟨hA,hT⟩,hb⟩⟩
def Yl(t:TypeId)(cs:Array Value):Value→World→Prop:=fun v w=>∃g,v=.pointer (some ⟨g,0,none⟩)∧w.heap[g]? =some (.cells cs t (0,0))
theorem kQ{w:World}{g:Nat}{o:Obj}(h:w.heap[g]? =some o):g<w.heap.size:=by
 rcases Nat.lt_or_ge g w.heap.size with hlt|hge
 · exact hlt
 · rw[Array.getElem?_eq_none hge]at h;cases h
theorem Yl.pers(t:TypeId)(cs:Array Value)(v:Value):JN (Yl t cs v):=fun _ _ ⟨g,hv,hh⟩ hb=>⟨g,hv,(hb.block g (kQ hh)).trans hh⟩
theorem Yl.at_{t:TypeId}{cs:Array Value}{g:Nat}{w:World}(h:Yl t cs (.pointer (some ⟨g,0,none⟩)) w):w.heap[g]? =some (.cells cs t (0,0)):=by
 obtain⟨g',e,hh⟩:=h;injection e with e
 injection e with e
 injection e with e1 _ _
 rw[e1];exact hh
theorem uY.alloc{o:Oper}(base:Nat)(t:TypeId)(cs:Array Value)(avoid:List Nat)(hw:Region.wanted o (yielded ops a.tmps)=true)
 (h:∀w,S w→(execOp a.eval o).run P w=.ok (.value (.pointer (some ⟨w.heap.size,0,none⟩))) (w.alloc (.cells cs t))) (hb:∀w,S w→base≤w.heap.size) (hav:∀w,S w→∀x∈avoid,x<w.heap.size):
 uY P ops S o (AT (fun v=>∃g,v=.pointer (some ⟨g,0,none⟩)∧base≤g∧∀x∈avoid,g≠x) (Yl t cs)) a:=
 uY.new _ _ hw fun w hS=>⟨_,_,h w hS,⟨_,rfl,hb w hS,fun x hx=>Nat.ne_of_gt (hav w hS x hx)⟩,⟨_,rfl,by
  show(w.heap.push _)[w.heap.size]? =_;simp⟩,(jU _ _).alloc (jS _) _⟩
end
end Go
namespace Go.RL
open Go
section
variable {P:Program}{ops:Array Oper}{md:Region.Mode}{I:World→Prop}
def upL(P:Program)(n:Nat)(dst:Option Tmp)(V:Value→World→Prop):Result Next→Prop
 | .ok (.value u) w'=>∃v,zH n dst u v∧V v w'
 | .ok .skip w'=>∃v,zH n dst undef v∧V v w'
 | .ok (.enter f args) w'=>Calls P f args w' fun e w''=>match e with
    | .returned u=>∃v,zH n dst u v∧V v w''
    |_=>False
 | .ok (.row row args) w'=>Rows P row args w' fun u w''=>∃v,zH n dst u v∧V v w''
 |_=>False
def StabL(P:Program)(ops:Array Oper)(S:World→Prop)(o:Oper)(V:Value→World→Prop)(a:Act):Prop:=
 (Region.wanted o (yielded ops a.tmps)=true∧∀w,S w→upL P a.tmps.size o.dst V ((execOp a.eval o).run P w))∨
 (Region.wanted o (yielded ops a.tmps)=false∧∀w,S w→V undef w)
theorem StabL.of_same{S:World→Prop}{o:Oper}{V:Value→World→Prop}{a a':Act}(hy:StabL P ops S o V a)(he:execOp a'.eval o=execOp a.eval o)
 (hw:Region.wanted o (yielded ops a'.tmps)=Region.wanted o (yielded ops a.tmps)) (hs:a'.tmps.size=a.tmps.size):StabL P ops S o V a':=by
 unfold StabL at *;rw[he,hw,hs];exact hy
theorem StabL.wpOp{S:World→Prop}{Q:Exit→Act→World→Prop}{i:Nat}{o:Oper}{V:Value→World→Prop}{a:Act}(hi:ops[i]? =some o)(hy:StabL P ops S o V a)
 {K:Act→World→Prop} {w:World} (hS:S w) (h:∀v w',V v w'→K (a.put o.dst v) w'):wpOp P ops Q i K a w:=by
 unfold Go.wpOp;simp only[hi];rcases hy with⟨hw,hv⟩|⟨hw,hv⟩
 · simp only[hw,if_true,Oper.wp];refine .inl ?_;have hv:=hv w hS;generalize (execOp a.eval o).run P w=r at *;cases r with
   |ok n w'=>
    cases n<;>simp only[upL,Oper.upon]at hv ⊢
    case value u=>obtain⟨v,h1,h2⟩:=hv;rw[h1 a rfl];exact h _ _ h2
    case skip=>obtain⟨v,h1,h2⟩:=hv;rw[h1 a rfl];exact h _ _ h2
    case enter f args=>
     refine Calls.mono hv fun e w'' he=>?_;cases e with
     |returned u=>obtain⟨v,h1,h2⟩:=he;simp only;rw[h1 a rfl];exact h _ _ h2
     |panicked c=>exact he.elim
     |outgrown=>exact he.elim
    case row row args=>exact Rows.mono hv fun u w'' he=>(by obtain⟨v,h1,h2⟩:=he;rw[h1 a rfl];exact h _ _ h2)
   |halt x w'=>exact hv.elim
 · simp only[hw,Bool.false_eq_true,if_false];exact h _ _ (hv w hS)
def Pure(P:Program)(ops:Array Oper)(I:World→Prop)(o:Oper)(v:Value)(a:Act):Prop:=
 (Region.wanted o (yielded ops a.tmps)=true∧∀w,I w→(execOp a.eval o).run P w=.ok (.value v) w)∨
 (Region.wanted o (yielded ops a.tmps)=false∧v=undef)
theorem Pure.of_same{o:Oper}{v:Value}{a a':Act}(hy:Pure P ops I o v a)(he:execOp a'.eval o=execOp a.eval o)
 (hw:Region.wanted o (yielded ops a'.tmps)=Region.wanted o (yielded ops a.tmps)):Pure P ops I o v a':=by
 unfold Pure at *;rw[he,hw];exact hy
theorem Pure.stab{o:Oper}{v:Value}{a:Act}(hy:Pure P ops I o v a)(S:World→Prop):StabL P ops (fun w=>I w∧S w) o (fun u w=>u=v∧I w∧S w) a:=by
 rcases hy with⟨hw,hv⟩|⟨hw,rfl⟩
 · exact .inl ⟨hw,fun w hS=>by rw[hv w hS.1];exact⟨v,zH.rfl',rfl,hS⟩⟩
 · exact .inr ⟨hw,fun w hS=>⟨rfl,hS⟩⟩
def aB(P:Program)(md:Region.Mode)(ops:Array Oper)(I:World→Prop)(n:Nat)(L:Array Bool→Act→(World→Prop)→Prop):Nat→Array Bool→Act→(World→Prop)→Prop
 |0,listed,a,S=>L listed a S
 |f+1,listed,a,S=>
  Region.ready md ops listed≠[]∧∀i∈Region.ready md ops listed,i<n∧∃(o:Oper) (A:Value→Prop) (T:Value→World→Prop),ops[i]? =some o∧StabL P ops (fun w=>I w∧S w) o (fun v w=>A v∧I w∧T v w) a∧
   ∀v,A v→aB P md ops I n L f (listed.setIfInBounds i true) (a.put o.dst v) (T v)
theorem nI{n g:Nat}{L:Array Bool→Act→(World→Prop)→Prop}{Q':Exit→Act→World→Prop}(hL:∀listed a S,L listed a S→∀w,I w→S w→wpAny P md ops Q' g listed a w):
 ∀(f:Nat) (listed:Array Bool) (a:Act) (S:World→Prop),aB P md ops I n L f listed a S→∀w,I w→S w→wpAny P md ops Q' (f+g) listed a w
 |0,listed,a,S,h,w,hI,hS=>by rw[kB];exact hL _ _ _ h w hI hS
 |f+1,listed,a,S,h,w,hI,hS=>by
  rw[show f+1+g=(f+g)+1 by omega];refine⟨fun h0=>absurd h0 h.1,fun i hi=>?_⟩;obtain⟨_,o,A,T,ho,hy,hr⟩:=h.2 i hi;exact hy.wpOp ho (kM hI hS) (fun v w' hv=>nI hL f _ _ _ (hr v hv.1) w' hv.2.1 hv.2.2)
theorem rL{n i:Nat}{oi:Oper}{v:Value}{L:Array Bool→Act→(World→Prop)→Prop}(hi:ops[i]? =some oi)(hsel:∀(j:Nat) (o:Oper) cs b,ops[j]? =some o→o.op≠ .select cs b)
 (hs:Region.sinkB md ops n=true) (hc:Region.chainB md ops n=true) (hn:n<ops.size) (hin:i<n)
 (hdone:∀listed a S,L listed a S→∀j∈Region.ready md ops listed,n≤j):
 ∀(f:Nat) (listed:Array Bool) (a:Act) (S:World→Prop),HeadInv md ops n listed→
  (∀j oj,ops[j]? =some oj→j≠i→listed.getD j true=false→(∀e∈oj.after,Region.binds md e=true→e.on≠i)→oi.apart ops oj=true)→
  i∈Region.ready md ops listed→Pure P ops I oi v a→
  aB P md ops I n L f (listed.setIfInBounds i true) (a.put oi.dst v) S→aB P md ops I n L (f+1) listed a S:=by
 intro f
 induction f with
 |zero=>
  intro listed a S inv _ hr hy H;have hun:=(mem_ready.1 hr).1;refine⟨fun h=>qKr,fun j hj=>?_⟩;have hjn:j<n:=by
   rcases Nat.lt_or_ge j n with h|h
   · exact h
   · exact qZc
  refine⟨hjn,?_⟩
  by_cases hji:j=i
  · subst hji;exact⟨oi,(· =v),fun _=>S,hi,hy.stab S,fun u hu=>by subst hu;exact H⟩
  · have :=hdone _ _ _ H j (ready_mono hj hji);omega
 |succ f ih=>
  intro listed a S inv hfree hr hy H;have hun:=(mem_ready.1 hr).1;refine⟨fun h=>qKr,fun j hj=>?_⟩;have hjn:j<n:=by
   rcases Nat.lt_or_ge j n with h|h
   · exact h
   · exact qZc
  refine⟨hjn,?_⟩
  by_cases hji:j=i
  · subst hji;exact⟨oi,(· =v),fun _=>S,hi,hy.stab S,fun u hu=>by subst hu;exact H⟩
  · obtain⟨_,oj',A,T,hoj',hyj,Hj⟩:=H.2 j (ready_mono hj hji);obtain⟨hjun,oj,hoj,hall⟩:=mem_ready.1 hj;obtain rfl:oj'=oj:=Option.some.inj (hoj'.symm.trans hoj);have hnot:∀e∈oj'.after,Region.binds md e=true→e.on≠i:=fun e he hb heq=>by
     have h1:=hall e he hb;rw[heq,getD_both hun]at h1;cases h1
    obtain⟨h1,h2,h3⟩:=Oper.apart_spec (hfree j oj' hoj hji hjun hnot);have hsi:=fun cs b=>hsel i oi cs b hi;have hsj:=fun cs b=>hsel j oj' cs b hoj;have hyj':=hyj.of_same (execOp_put oj' hsj a oi.dst v h1).symm (wanted_put oj' a oi.dst v h1).symm (Act.put_size _ _ _).symm;have hfree':∀k ok,ops[k]? =some ok→k≠i→(listed.setIfInBounds j true).getD k true=false→
     (∀e∈ok.after,Region.binds md e=true→e.on≠i)→oi.apart ops ok=true:=fun k ok hk hki hun hno=>by
     refine hfree k ok hk hki ?_ hno
     by_cases hjk:j=k
     · subst hjk;exact hjun
     · rw[getD_set_ne true hjk]at hun;exact hun
    refine⟨oj',A,T,hoj,hyj',fun u hu=>?_⟩;have hyi':Pure P ops I oi v (a.put oj'.dst u):=hy.of_same (execOp_put oi hsi a oj'.dst u h3) (wanted_put oi a oj'.dst u h3);refine ih (listed.setIfInBounds j true) _ _ (inv.set hj hjn) hfree' (ready_mono hr (Ne.symm hji)) hyi' ?_;rw[Array.setIfInBounds_comm _ _ hji,←Act.put_comm a v u h2];exact Hj u hu
def tailL(P:Program)(ops:Array Oper)(I:World→Prop)(Q:Exit→Act→World→Prop)(n:Nat):Array Bool→Act→(World→Prop)→Prop:=fun listed a S=>
 Region.seqB .any ops (ops.size-n) n listed=true∧∀w,I w→S w→wpList P ops Q (ops.toList.drop n) a w
structure AtL(P:Program)(ops:Array Oper)(I:World→Prop)(Q:Exit→Act→World→Prop)(n:Nat)(f:Nat)(listed:Array Bool)(a:Act)(S:World→Prop):Prop where
 h:HeadInv .any ops n listed→aB P .any ops I n (tailL P ops I Q n) f listed a S
variable {Q:Exit→Act→World→Prop}{S:World→Prop}{a:Act}{listed:Array Bool}{n f:Nat}
def Region.tailB(ops:Array Oper)(n:Nat):Bool:=Region.noSelect ops&&decide (n<ops.size)&&Region.sinkB .any ops n&&Region.chainB .any ops n
theorem AtL.take(i:Nat){o:Oper}{v:Value}(hB:RL.Region.tailB ops n=true)(hi:ops[i]? =some o)(hin:(i<n)=True)(hf:Region.free .any ops listed i=true)(hr:(Region.ready .any ops listed).contains i=true)
 (hy:Pure P ops I o v a) (h:AtL P ops I Q n f (listed.setIfInBounds i true) (a.put o.dst v) S):AtL P ops I Q n (f+1) listed a S:=⟨fun inv=>by
 simp only[RL.Region.tailB,Bool.and_eq_true,decide_eq_true_eq]at hB;obtain⟨⟨⟨hsel,hn⟩,hs⟩,hc⟩:=hB;have hr':i∈Region.ready .any ops listed:=by simpa using hr
 have hin':i<n:=by rw[hin];trivial
 exact rL hi (Region.noSelect_spec hsel) hs hc hn hin' (fun listed a S hL=>seqB_ready hL.1) f listed a S inv (Region.free_spec hi hf) hr' hy (h.h (inv.set hr' hin'))⟩
def AtK(c:Nat)(P:Program)(ops:Array Oper)(I:World→Prop)(Q:Exit→Act→World→Prop)(n:Nat)(f:Nat)(listed:Array Bool)(a:Act)(S:World→Prop):Prop:=c≤c∧AtL P ops I Q n f listed a S
theorem AtL.go(c:Nat)(h:AtK c P ops I Q n f listed a S):AtL P ops I Q n f listed a S:=h.2
theorem AtK.back{c:Nat}(h:AtL P ops I Q n f listed a S):AtK c P ops I Q n f listed a S:=⟨jS c,h⟩
theorem AtK.take{i:Nat}{o:Oper}{v:Value}(hB:RL.Region.tailB ops n=true)(hi:ops[i]? =some o)(hin:(i<n)=True)(hf:Region.free .any ops listed i=true)(hr:(Region.ready .any ops listed).contains i=true)
 (hy:Pure P ops I o v a) (h:AtK (i+1) P ops I Q n f (listed.setIfInBounds i true) (a.put o.dst v) S):AtK i P ops I Q n (f+1) listed a S:=⟨jS i,AtL.take i hB hi hin hf hr hy h.2⟩
theorem AtL.one(i:Nat){o:Oper}(A:Value→Prop)(T:Value→World→Prop)(hin:(i<n)=True)(hr:Region.ready .any ops listed=[i])(hi:ops[i]? =some o)
 (hy:StabL P ops (fun w=>I w∧S w) o (fun v w=>A v∧I w∧T v w) a) (h:∀v,A v→AtL P ops I Q n f (listed.setIfInBounds i true) (a.put o.dst v) (T v)):AtL P ops I Q n (f+1) listed a S:=⟨fun inv=>by
 have hin':i<n:=by rw[hin];trivial
 refine⟨by rw[hr];simp,fun j hj=>?_⟩;have hj':=hj;rw[hr]at hj;obtain rfl:j=i:=by simpa using hj
 exact⟨hin',o,A,T,hi,hy,fun v hv=>(h v hv).h (inv.set hj' hin')⟩⟩
theorem AtL.done(hB:Region.seqB .any ops (ops.size-n) n listed=true)(h:∀w,I w→S w→wpList P ops Q (ops.toList.drop n) a w):AtL P ops I Q n 0 listed a S:=⟨fun _=>⟨hB,h⟩⟩
theorem wp_region_l{id:Nat}{w:World}(n:Nat)(I S:World→Prop)(hm:P.follows .mixedOrders=true)(hB:RL.Region.tailB ops n=true)(hI:I w.drew)(hS:S w.drew)
 (h:AtL P ops I Q n n (Array.replicate ops.size false) a S):(Code.region id ops true).wp P Q a w:=by
 simp only[RL.Region.tailB,Bool.and_eq_true,decide_eq_true_eq]at hB;obtain⟨⟨⟨hsel,hn⟩,hs⟩,hc⟩:=hB;have inv0:HeadInv .any ops n (Array.replicate ops.size false):=
  ⟨by simp,fun j oj _ hl=>qK2,fun t _ ht=>getD_in (by simpa using ht) (getD_replicate_false _ _)⟩
 refine wp_region_any hm ?_;have :=nI (Q':=Q) (g:=ops.size-n) (fun listed a' S hL w' hI' hS'=>by
  have :=wpAny_of_seq (md:=.any) (Q':=Q) (ops.toList.drop n) n listed a' w' (fun j=>by simp[gV]) (by simpa using hL.1) (hL.2 w' hI' hS');simpa using this) _ _ _ _ (h.h inv0) w.drew hI hS
 rw[show n+(ops.size-n)=ops.size by omega]at this;exact this
theorem Pure.val{o:Oper}{v:Value}(hw:Region.wanted o (yielded ops a.tmps)=true)(h:∀w,I w→(execOp a.eval o).run P w=.ok (.value v) w):Pure P ops I o v a:=.inl ⟨hw,h⟩
theorem StabL.op{o:Oper}(A:Value→Prop)(T:Value→World→Prop)(hw:Region.wanted o (yielded ops a.tmps)=true)
 (h:∀w,I w→S w→∃v w',(execOp a.eval o).run P w=.ok (.value v) w'∧A v∧I w'∧T v w'):StabL P ops (fun w=>I w∧S w) o (fun v w=>A v∧I w∧T v w) a:=
 .inl ⟨hw,fun w hS=>by
  obtain⟨v,w',hr,hA,hI,hT⟩:=h w hS.1 hS.2;rw[hr];exact⟨v,zH.rfl',hA,hI,hT⟩⟩
theorem StabL.unit{o:Oper}(A:Value→Prop)(T:Value→World→Prop)(hw:Region.wanted o (yielded ops a.tmps)=true)
 (h:∀w,I w→S w→∃w',(execOp a.eval o).run P w=.ok .skip w'∧A undef∧I w'∧T undef w'):StabL P ops (fun w=>I w∧S w) o (fun v w=>A v∧I w∧T v w) a:=
 .inl ⟨hw,fun w hS=>by
  obtain⟨w',hr,hA,hI,hT⟩:=h w hS.1 hS.2;rw[hr];exact⟨undef,zH.rfl',hA,hI,hT⟩⟩
theorem StabL.call{o:Oper}(fn:FuncId)(args:Array Value)(A:Value→Prop)(T:Value→World→Prop)(hw:Region.wanted o (yielded ops a.tmps)=true)(h:∀w,(execOp a.eval o).run P w=.ok (.enter fn args) w)
 (hc:∀w,I w→S w→Calls P fn args w fun e w'=>∃v,e=.returned v∧A v∧I w'∧T v w'):StabL P ops (fun w=>I w∧S w) o (fun v w=>A v∧I w∧T v w) a:=
 .inl ⟨hw,fun w hS=>by
  rw[h w];refine(hc w hS.1 hS.2).mono fun e w' ⟨v,he,hv⟩=>?_;rw[he];exact⟨v,zH.rfl',hv⟩⟩
end
end Go.RL
namespace Go.RL
section
variable {P:Program}{ops:Array Oper}{I:World→Prop}{Q:Exit→Act→World→Prop}{S:World→Prop}{a:Act}{listed:Array Bool}{n f:Nat}
theorem AtL.two(i j:Nat){o o':Oper}(A A':Value→Prop)(T T':Value→World→Prop)(hin:(i<n)=True)(hjn:(j<n)=True)(hr:Region.ready .any ops listed=[i,j])(hi:ops[i]? =some o)(hj:ops[j]? =some o')
 (hy:StabL P ops (fun w=>I w∧S w) o (fun v w=>A v∧I w∧T v w) a) (hy':StabL P ops (fun w=>I w∧S w) o' (fun v w=>A' v∧I w∧T' v w) a)
 (h:∀v,A v→AtL P ops I Q n f (listed.setIfInBounds i true) (a.put o.dst v) (T v))
 (h':∀v,A' v→AtL P ops I Q n f (listed.setIfInBounds j true) (a.put o'.dst v) (T' v)):AtL P ops I Q n (f+1) listed a S:=⟨fun inv=>by
 have hin':i<n:=by rw[hin];trivial
 have hjn':j<n:=by rw[hjn];trivial
 refine⟨by rw[hr];simp,fun k hk=>?_⟩;have hk':=hk;rw[hr]at hk;have hk2:k=i∨k=j:=by simpa using hk
 rcases hk2 with rfl|rfl
 · exact⟨hin',o,A,T,hi,hy,fun v hv=>(h v hv).h (inv.set hk' hin')⟩
 · exact⟨hjn',o',A',T',hj,hy',fun v hv=>(h' v hv).h (inv.set hk' hjn')⟩⟩
end
end Go.RL
namespace Go.Proofs.YtjcpdcncfjkejaaGreatDoor
open Go.RowKit
def bD(W:World)(b i:Nat)(v:Value):Prop:=W.cell? ⟨b,i,none⟩=some v∧W.frozen? ⟨b,i,none⟩=false
def tR(w:World)(e:Ending)(w':World):Prop:=e=.returned (.bool true)∧Below w.heap.size w w'
theorem bX{w:World}{b o:Nat}{v:Value}{cs:Array Value}{e:TypeId}{fz:Nat×Nat}(h:w.heap[b]? =some (.cells cs e fz)):(w.setCell ⟨b,o,none⟩ v).heap[b]? =some (.cells (cs.setIfInBounds o v) e fz):=by
 unfold uQ;simp only[Array.getElem?_modify,if_true,h];rfl
theorem eZ{W:World}{b:Nat}{u v u' v':Value}(h0:W.cell? ⟨b,0,none⟩=some u∧W.frozen? ⟨b,0,none⟩=false)(h1:W.cell? ⟨b,1,none⟩=some v∧W.frozen? ⟨b,1,none⟩=false):
 (((W.setCell ⟨b,0,none⟩ u').setCell ⟨b,1,none⟩ v').cell? ⟨b,0,none⟩=some u'∧((W.setCell ⟨b,0,none⟩ u').setCell ⟨b,1,none⟩ v').frozen? ⟨b,0,none⟩=false)∧((W.setCell ⟨b,0,none⟩ u').setCell ⟨b,1,none⟩ v').cell? ⟨b,1,none⟩=some v'∧((W.setCell ⟨b,0,none⟩ u').setCell ⟨b,1,none⟩ v').frozen? ⟨b,1,none⟩=false:=by
 have k0:=Vv (u:=u') h0;have k1:(W.setCell ⟨b,0,none⟩ u').cell? ⟨b,1,none⟩=some v∧(W.setCell ⟨b,0,none⟩ u').frozen? ⟨b,1,none⟩=false:=⟨(World.cell?_setCell_other W _ _ _ (fun e=>by injection e with e1 e2;omega)).trans h1.1,by rw[World.frozen?_setCell];exact h1.2⟩;exact⟨⟨(World.cell?_setCell_other _ _ _ _ (fun e=>by injection e with e1 e2;omega)).trans k0.1,by rw[World.frozen?_setCell];exact k0.2⟩,Vv k1⟩
theorem gU{w:World}{base n:Nat}{e:TypeId}{v:Value}{xs:List Value}{size:Nat}(h:w.ownsRow base e size v n xs):∃A c,v=.slice A n c:=by
 rcases h.2 with⟨rfl,rfl⟩|⟨g,cap,cur,rfl,_⟩
 · exact⟨none,0,rfl⟩
 · exact⟨_,cap,rfl⟩
theorem kY{w:World}{b:Nat}{cs cs':List Value}{t:TypeId}(h:w.heap[b]? =some (.cells cs.toArray t (0,0)))(i:Nat)(v:Value)(hc:cs.set i v=cs'):(w.setCell ⟨b,i,none⟩ v).heap[b]? =some (.cells cs'.toArray t (0,0)):=by
 rw[bX h,←hc];simp
theorem kC{w:World}{b:Nat}{cs:List Value}{t:TypeId}(h:w.heap[b]? =some (.cells cs.toArray t (0,0)))(i:Nat)(v:Value)(hc:cs[i]? =some v):bD w b i v:=
 at_ h i v (by simpa using hc)
theorem gS{w:World}{b k i:Nat}{v:Value}(h:k≠b):(w.setCell ⟨b,i,none⟩ v).heap[k]? =w.heap[k]? :=Below.heap_setCell _ _ _ _ h
section
variable {P:Program}
end
structure Ro where
 cs:List Cl
 cont:Bool
structure Tl where
 k:Int
 a:Int
 n:Int
structure Pg where
 room:Nat
 hist:List Ro
 gone:Int
 scr:List Ro
 cols:Nat
 told:List Tl
def gZ(cols:Nat)(b:Col):Ro:=⟨kJ cols (vD b),false⟩
def inP(g:Pg)(y:Int):Bool:=decide (0≤y)&&decide (y<g.scr.length)
def pW(g:Pg)(y:Int)(f:List Cl→List Cl):Pg:=if inP g y then{g with scr:=g.scr.modify y.toNat (fun r=>{r with cs:=f r.cs})}else g
def vL(g:Pg)(y:Int)(b:Bool):Pg:=if inP g y then{g with scr:=g.scr.modify y.toNat (fun r=>{r with cont:=b})}else g
def gW(g:Pg)(k a n:Int):Pg:={g with told:=g.told++[⟨k,a,n⟩]}
def iJ(g:Pg)(r:Ro):Pg×Bool:=
 if g.room=0 then({g with gone:=g.gone+1},true)
 else if g.hist.length=g.room then({g with hist:=g.hist.drop 1++[r],gone:=g.gone+1},true)
 else({g with hist:=g.hist++[r]},false)
def pT(l:List Ro)(top bottom:Nat)(b:Ro):List Ro:=l.take top++((l.drop (top+1)).take (bottom-top)++(b::l.drop (bottom+1)))
def bA(l:List Ro)(top bottom:Nat)(b:Ro):List Ro:=l.take top++(b::((l.drop top).take (bottom-top)++l.drop (bottom+1)))
def lU(g:Pg)(top bottom:Nat)(b:Col):Pg:=
 let g1:=gW (gW g 1 (g.hist.length+top) 1) 0 (g.hist.length+bottom) 1
 let g2:={g1 with scr:=pT g.scr top bottom (gZ g.cols b)}
 vL (vL g2 top false) (bottom+1) false
def upP(g:Pg)(top bottom:Nat)(b:Col):Pg:=
 if 0<top then lU g top bottom b
 else
  let g1:=gW g 0 (g.hist.length+bottom+1) 1
  let p:=iJ g1 (g.scr.getD 0 ⟨[],false⟩)
  let g2:=if p.2 then gW p.1 2 0 1 else p.1
  let g3:={g2 with scr:=pT g.scr 0 bottom (gZ g.cols b)}
  vL g3 (bottom+1) false
def cK(g:Pg)(top bottom:Nat)(b:Col):Pg:=
 let g1:=gW (gW g 1 (g.hist.length+bottom) 1) 0 (g.hist.length+top) 1
 let g2:={g1 with scr:=bA g.scr top bottom (gZ g.cols b)}
 vL (vL g2 (top+1) false) (bottom+1) false
def eD(f:Pg→Pg):Nat→Pg→Pg
 |0,g=>g
 |n+1,g=>f (eD f n g)
def gI(g:Pg)(top bottom n:Int)(f:Nat→Nat→Pg→Pg):Pg:=
 if inP g top&&inP g bottom&&decide (top≤bottom)then eD (f top.toNat bottom.toNat) (min n.toNat (bottom-top+1).toNat) g else g
def cO(g:Pg):Pg:=if g.hist.length=0 then g else vL (gW {g with hist:=[],gone:=g.gone+g.hist.length} 2 0 g.hist.length) 0 false
def yU(g:Pg)(y x z:Int)(b:Col):Pg:=
 if inP g y then
  let g1:=pW g y (fun l=>pG l x z b)
  if x<g.cols∧(g.cols:Int)≤z then(if x≤0 then vL (vL g1 (y+1) false) y false else vL g1 (y+1) false)else g1
 else g
theorem lN{l:List Ro}{top bottom:Nat}{b:Ro}(h:top≤bottom)(h2:bottom<l.length):(pT l top bottom b).length=l.length:=by
 unfold pT;simp only[jI,vH,List.length_drop,List.length_cons];omega
theorem xQ{l:List Ro}{top bottom:Nat}{b:Ro}(h:top≤bottom)(h2:bottom<l.length):(bA l top bottom b).length=l.length:=by
 unfold bA;simp only[jI,vH,List.length_drop,List.length_cons];omega
structure Dc where
 L:List Ro
 base:Nat
 cols:Nat
 room:Nat
 gone:Int
 told:List Tl
def yX(g:Pg):Dc:=⟨g.hist++g.scr,g.hist.length,g.cols,g.room,g.gone,g.told⟩
def hE(d:Dc):Int:=(d.L.length:Int)-d.base
def nU(d:Dc)(y:Int):Bool:=decide (0≤y)&&decide (y<hE d)
def pJ(d:Dc)(at_:Nat)(r:Ro):Dc:={d with L:=d.L.take at_++(r::d.L.drop at_),told:=d.told++[⟨0,at_,1⟩]}
def pZ(d:Dc)(at_:Nat):Dc:={d with L:=d.L.take at_++d.L.drop (at_+1),told:=d.told++[⟨1,at_,1⟩]}
def dC(d:Dc)(n:Nat):Dc:={d with L:=d.L.drop n,base:=d.base-n,gone:=d.gone+n,told:=d.told++[⟨2,0,n⟩]}
def gN(d:Dc)(y:Int):Dc:=if nU d y then{d with L:=d.L.modify (d.base+y.toNat) (fun r=>{r with cont:=false})}else d
def KF(d:Dc)(top bottom:Nat)(b:Col):Dc:=gN (gN (pJ (pZ d (d.base+top)) (d.base+bottom) (gZ d.cols b)) top) (bottom+1)
def Jq(d:Dc)(top bottom:Nat)(b:Col):Dc:=
 if top=0 then
  let d1:=pJ d (d.base+bottom+1) (gZ d.cols b)
  let d2:=gN {d1 with base:=d1.base+1} (bottom+1)
  if d2.room<d2.base then dC d2 1 else d2
 else KF d top bottom b
def VN(d:Dc)(top bottom:Nat)(b:Col):Dc:=gN (gN (pJ (pZ d (d.base+bottom)) (d.base+top) (gZ d.cols b)) (top+1)) (bottom+1)
theorem iH(g:Pg)(y:Int):nU (yX g) y=inP g y:=by
 unfold nU inP hE yX;simp only[jI]
 congr 1
 exact decide_eq_decide.2 qJ
theorem fL{α:Type}(a b:List α)(k:Nat)(f:α→α):(a++b).modify (a.length+k) f=a++b.modify k f:=by
 induction a with
 |nil=>simp
 |cons x a ih=>simp[Nat.succ_add,ih]
theorem dP(g:Pg)(y:Int):gN (yX g) y=yX (vL g y false):=by
 unfold gN vL;rw[iH]
 split
 · show Dc.mk ((g.hist++g.scr).modify (g.hist.length+y.toNat) _) _ _ _ _ _=_;rw[fL];rfl
 · rfl
theorem oQ(h l:List Ro)(k:Nat):(h++l).take (h.length+k)=h++l.take k:=by rw[List.take_length_add_append]
theorem oD(h l:List Ro)(k:Nat):(h++l).drop (h.length+k)=l.drop k:=by rw[List.drop_length_add_append]
theorem Zn(g:Pg)(top bottom:Nat)(b:Col)(h1:top≤bottom)(h2:bottom<g.scr.length):KF (yX g) top bottom b=yX (lU g top bottom b):=by
 unfold KF lU;rw[←dP,←dP]
 congr 2
 unfold pJ pZ yX gW pT;simp only[Dc.mk.injEq,true_and];refine⟨?_,by simp⟩;rw[oQ,show g.hist.length+top+1=g.hist.length+(top+1) by omega,oD,uK,oQ,oD,uK]
 congr 1
 rw[List.take_append,List.drop_append];have e1:(g.scr.take top).length=top:=by rw[vH];omega
 rw[e1,List.take_take,show min bottom top=top by omega,uK]
 congr 1
 rw[vR (show(g.scr.take top).length≤bottom by rw[e1];exact h1),List.nil_append,List.drop_drop,show top+1+(bottom-top)=bottom+1 by omega]
theorem Ww(g:Pg)(top bottom:Nat)(b:Col)(h1:top≤bottom)(h2:bottom<g.scr.length):VN (yX g) top bottom b=yX (cK g top bottom b):=by
 unfold VN cK;rw[←dP,←dP]
 congr 2
 unfold pJ pZ yX gW bA;simp only[Dc.mk.injEq,true_and];refine⟨?_,by simp⟩;rw[oQ,show g.hist.length+bottom+1=g.hist.length+(bottom+1) by omega,oD,uK,oQ,oD,uK]
 congr 1
 have e1:(g.scr.take bottom).length=bottom:=by rw[vH];omega
 rw[List.take_append,List.drop_append,e1,List.take_take,show min top bottom=top by omega,show top-bottom=0 by omega];rw[jL,List.append_nil,jF,List.drop_take]
theorem Qs(g:Pg)(n:Nat)(h:n≤g.hist.length):dC (yX g) n=yX (gW {g with hist:=g.hist.drop n,gone:=g.gone+n} 2 0 n):=by
 unfold dC yX gW;simp only[Dc.mk.injEq,true_and];exact⟨by rw[List.drop_append_of_le_length h],by rw[List.length_drop],trivial⟩
theorem Zo(g:Pg)(h:List Ro)(gn:Int)(td:List Tl)(y:Int)(b:Bool):vL {g with hist:=h,gone:=gn,told:=td} y b={vL g y b with hist:=h,gone:=gn,told:=td}:=by
 unfold vL;have e:inP {g with hist:=h,gone:=gn,told:=td} y=inP g y:=rfl;rw[e]
 split<;>rfl
theorem Qa(g:Pg)(y:Int)(b:Bool):(vL g y b).hist=g.hist∧(vL g y b).gone=g.gone∧(vL g y b).told=g.told∧(vL g y b).cols=g.cols∧(vL g y b).room=g.room∧(vL g y b).scr.length=g.scr.length:=by
 unfold vL
 split
 · exact⟨rfl,rfl,rfl,rfl,rfl,by simp⟩
 · exact⟨rfl,rfl,rfl,rfl,rfl,rfl⟩
theorem UF(g:Pg)(top bottom:Nat)(b:Col)(h1:top≤bottom)(h2:bottom<g.scr.length)(hr:g.hist.length≤g.room):Jq (yX g) top bottom b=yX (upP g top bottom b):=by
 unfold Jq upP
 by_cases ht:top=0
 rotate_left
 · rw[if_neg ht,if_pos qJ];exact Zn g top bottom b h1 h2
 subst ht;rw[if_pos rfl,if_neg (show ¬(0:Nat)<0 by omega)];simp only[];obtain⟨s0,l,hs⟩:∃s0 l,g.scr=s0::l:=by
  match h:g.scr,h2 with
  |s0::l,_=>exact⟨s0,l,rfl⟩
 have key:{pJ (yX g) ((yX g).base+bottom+1) (gZ (yX g).cols b)with base:=(pJ (yX g) ((yX g).base+bottom+1) (gZ (yX g).cols b)).base+1}=yX {g with hist:=g.hist++[s0],scr:=pT g.scr 0 bottom (gZ g.cols b),told:=g.told++[⟨0,g.hist.length+bottom+1,1⟩]}:=by
  unfold pJ yX pT;simp only[Dc.mk.injEq,true_and];refine⟨?_,by simp,by simp⟩;rw[show g.hist.length+bottom+1=g.hist.length+(bottom+1) by omega,oQ,oD,hs];simp
 rw[key,dP];have hg0:g.scr.getD 0 ⟨[],false⟩=s0:=by rw[hs];rfl
 rw[hg0];have hh:=Qa {g with hist:=g.hist++[s0],scr:=pT g.scr 0 bottom (gZ g.cols b),told:=g.told++[⟨0,g.hist.length+bottom+1,1⟩]} (bottom+1) false;obtain⟨q1,q2,q3,q4,q5,q6⟩:=hh
 by_cases hf:g.hist.length=g.room
 · have c1:(yX (vL {g with hist:=g.hist++[s0],scr:=pT g.scr 0 bottom (gZ g.cols b),told:=g.told++[⟨0,g.hist.length+bottom+1,1⟩]} (bottom+1) false)).room<(yX (vL {g with hist:=g.hist++[s0],scr:=pT g.scr 0 bottom (gZ g.cols b),told:=g.told++[⟨0,g.hist.length+bottom+1,1⟩]} (bottom+1) false)).base:=by
    show(vL _ _ _).room<(vL _ _ _).hist.length;rw[q1,q5];simp;omega
   rw[if_pos c1,Qs _ 1 (by rw[q1];simp)]
   congr 1
   unfold gW;rw[q1,q2,q3,←Zo];unfold iJ
   by_cases h0:g.room=0
   · have hn:g.hist=[]:=List.length_eq_zero_iff.1 qJ;simp only[h0,if_true,hn,List.nil_append,jB,List.drop_nil];simp
   · simp only[h0,if_false,hf,if_true];have e1:(g.hist++[s0]).drop 1=g.hist.drop 1++[s0]:=List.drop_append_of_le_length qJ;rw[e1];simp
 · have c1:¬((yX (vL {g with hist:=g.hist++[s0],scr:=pT g.scr 0 bottom (gZ g.cols b),told:=g.told++[⟨0,g.hist.length+bottom+1,1⟩]} (bottom+1) false)).room<(yX (vL {g with hist:=g.hist++[s0],scr:=pT g.scr 0 bottom (gZ g.cols b),told:=g.told++[⟨0,g.hist.length+bottom+1,1⟩]} (bottom+1) false)).base):=by
    show ¬((vL _ _ _).room<(vL _ _ _).hist.length);rw[q1,q5];simp;omega
   rw[if_neg c1]
   congr 1
   unfold iJ gW;have h0:¬g.room=0:=by omega
   simp only[h0,if_false,hf];simp
def lG(d:Dc):Dc:=if 0<d.base then gN (dC d d.base) 0 else d
theorem Zm(g:Pg):lG (yX g)=yX (cO g):=by
 unfold lG cO
 by_cases h:g.hist.length=0
 · rw[if_neg (by show ¬0<g.hist.length;omega),if_pos h]
 · rw[if_pos (by show 0<g.hist.length;omega),if_neg h,show(yX g).base=g.hist.length from rfl,Qs g _ (jS _),dP,List.drop_length]
def Qm(x:Int×Int):List Value:=[.int .i32 x.1,.int .i32 x.2]
theorem rU:∀x,(Qm x).length=2:=fun _=>rfl
theorem bS{α:Type}{enc:α→List Value}{K:Nat}(hl:∀x,(enc x).length=K):∀(X:List α) (k:Nat) (x:α) (j:Nat),X[k]? =some x→j<K→(uS enc X)[k*K+j]? =(enc x)[j]?
 |[],k,x,j,h,_=>by simp at h
 |y::X,0,x,j,h,hj=>by
  obtain rfl:y=x:=by simpa using h
  have e:uS enc (y::X)=enc y++uS enc X:=rfl;rw[e,Nat.zero_mul,kB,vE (by rw[hl];exact hj)]
 |y::X,k+1,x,j,h,hj=>by
  have e:uS enc (y::X)=enc y++uS enc X:=rfl;rw[e,vU qVa,hl,show(k+1)*K+j-K=k*K+j by rw[Nat.add_mul];omega];exact bS hl X k x j qK3 hj
theorem VU{α:Type}{enc:α→List Value}{K:Nat}(hl:∀x,(enc x).length=K){w:World}{g:Nat}{t:TypeId}{l:List α}(h:w.heap[g]? =some (.cells (uS enc l).toArray t (0,0))):pA enc K w (some ⟨g,0,none⟩) l:=fun _=>by
 refine⟨g,0,rfl,fun i x hx j v hv=>?_⟩;have hj:j<K:=by have :=(jE.1 hv).1;rwa[hl]at this
 have :=bS hl l i x j hx hj;rw[kB];exact(kC h _ _ (this.trans hv)).1
set_option maxHeartbeats 800000 in
theorem UO(r:Int)(w:World):Calls jG 238 #[.int .i32 r] w fun e w'=>e=.returned (.bool (dZ r))∧w=w':=by
 by_cases h1:r<32
 · skip
   have hv:dZ r=true:=by simp[dZ];omega
   rw[hv];clear hv
   go_enter Tryz.func238,Tryz.ntmps238
   go_wp2
   go_ret
   exact⟨rfl,rfl⟩
 by_cases h2:127≤r
 · by_cases h3:r<160
   · skip
     have hv:dZ r=true:=by simp[dZ];omega
     rw[hv];clear hv
     go_enter Tryz.func238,Tryz.ntmps238
     go_wp2
     go_ret
     exact⟨rfl,rfl⟩
   · by_cases h4:55296≤r
     · by_cases h5:r<57344
       · skip
         have hv:dZ r=true:=by simp[dZ];omega
         rw[hv];clear hv
         go_enter Tryz.func238,Tryz.ntmps238
         go_wp2
         go_ret
         exact⟨rfl,rfl⟩
       · by_cases h6:1114111<r
         · skip
           have hv:dZ r=true:=by simp[dZ];omega
           rw[hv];clear hv
           go_enter Tryz.func238,Tryz.ntmps238
           go_wp2
           go_ret
           exact⟨rfl,rfl⟩
         · skip
           have hv:dZ r=false:=by simp[dZ];omega
           rw[hv];clear hv
           go_enter Tryz.func238,Tryz.ntmps238
           go_wp2
           go_ret
           exact⟨rfl,rfl⟩
     · have h6:¬1114111<r:=by omega
       have hv:dZ r=false:=by simp[dZ];omega
       rw[hv];clear hv
       go_enter Tryz.func238,Tryz.ntmps238
       go_wp2
       go_ret
       exact⟨rfl,rfl⟩
 · have h4:¬55296≤r:=by omega
   have h6:¬1114111<r:=by omega
   have hv:dZ r=false:=by simp[dZ];omega
   rw[hv];clear hv
   go_enter Tryz.func238,Tryz.ntmps238
   go_wp2
   go_ret
   exact⟨rfl,rfl⟩
def UR(l:List (Int×Int))(w:World)(e:Ending)(w':World):Prop:=∃g,e=.returned (.slice (some ⟨g,0,none⟩) l.length l.length)∧pA Qm 2 w' (some ⟨g,0,none⟩) l∧Below w.heap.size w w'
set_option maxHeartbeats 1600000 in
theorem XP(w:World):Calls jG 240 #[] w (UR lK w):=by
 go_enter Tryz.func240,Tryz.ntmps240
 go_wp2
 go_ret
 exact⟨w.heap.size,rfl,VU rU (l:=lK) (kZ rfl),jW (jU _ _) _⟩
set_option maxHeartbeats 1600000 in
theorem XM(w:World):Calls jG 241 #[] w (UR iS w):=by
 go_enter Tryz.func241,Tryz.ntmps241
 go_wp2
 go_ret
 exact⟨w.heap.size,rfl,VU rU (l:=iS) (kZ rfl),jW (jU _ _) _⟩
def PrPost(r:Int)(x:Int×Int)(w:World)(e:Ending)(w':World):Prop:=e=.returned (.bool (decide (x.1≤r)&&decide (r≤x.2)))∧Below w.heap.size w w'
set_option maxHeartbeats 800000 in
theorem Yf(r:Int)(g:Nat)(x:Int×Int)(w:World)(hg:w.cell? ⟨g,0,none⟩=some (.int .i32 r)):Calls jG 280 #[.agg #[.int .i32 x.1,.int .i32 x.2],.pointer (some ⟨g,0,none⟩)] w (PrPost r x w):=by
 have hgl:=gO hg
 by_cases h1:x.1≤r<;>by_cases h2:r≤x.2
 all_goals
  go_enter Tryz.func280,Tryz.ntmps280
  go_wp2
  go_ret
  exact⟨by simp[h1,h2],jW (jU _ _) _⟩
theorem VS{w w1:World}{b o n:Nat}(h:w.there b o n)(hb:Below w.heap.size w w1):w1.there b o n:=fun j hj=>by
 obtain⟨h1,h2⟩:=h j hj;obtain⟨u,hu⟩:=Option.isSome_iff_exists.1 h1;have :=bQ hb ⟨hu,h2⟩;exact⟨by rw[this.1];rfl,this.2⟩
theorem yW{B:Nat}{W w1:World}(h:Below B W w1){b:Nat}(hb:B≤b):∀(vs:List Value) (o:Nat),Below B W (w1.setCells b o vs)
 |[],o=>h
 |v::vs,o=>by
  rw[World.setCells];exact yW (below_set' h hb v) hb vs (o+1)
where below_set' {B:Nat} {W w1:World} (h:Below B W w1) {b o:Nat} (hb:B≤b) (v:Value):Below B W (w1.setCell ⟨b,o,none⟩ v):=h.setCell (p:=⟨b,o,none⟩) hb v
theorem gH{w:World}{g:Nat}{cs:Array Value}{t:TypeId}(h:w.heap[g]? =some (.cells cs t (0,0))):w.there g 0 cs.size:=fun j hj=>by
 rw[kB];exact⟨by rw[cell_of_row w g j cs t (0,0) h,Array.getElem?_eq_getElem hj];rfl,frozen_of_row w g j cs t h⟩
theorem pS{w w1:World}{b o:Nat}{cs:List Value}(h:w.rangeAt b o cs)(hb:Below w.heap.size w w1):w1.rangeAt b o cs:=fun j v hj=>jA hb (h j v hj)
section
variable {P:Program}
theorem QX(w:World)(dT sT ty elem:TypeId)(b o dLen dCap:Nat)(a:Addr)(sLen sCap k:Nat)(cs:List Value)(hu:P.underlying dT=some (.slice elem))(hs:(P.info? elem).map (·.size)=some k)(hn:cs.length=Nat.min sLen dLen*k)
 (hsrc:∀j v,cs[j]? =some v→w.cell? (a.add j)=some v) (hc:∀j,j<cs.length→(w.cell? ⟨b,o+j,none⟩).isSome=true) (hf:∀j,j<cs.length→w.frozen? ⟨b,o+j,none⟩=false) (h1:∀v∈cs,v.oneCell'=true):
 (Builtin.copy_ #[dT,sT] ty #[.slice (some ⟨b,o,none⟩) dLen dCap,.slice (some a) sLen sCap]).run P w=.ok (goInt (Nat.min sLen dLen)) (w.setCells b o cs):=by
 have hl:=run_loadCells_list (P:=P) w a cs hsrc;have hst:=run_storeCells_cells (P:=P) b o cs 0 w (by simpa using hc) (by simpa using hf) h1;cases hq:P.info? elem with
 |none=>simp[hq]at hs
 |some i=>
  have hi:i.size=k:=by simpa[hq]using hs
  simp[Builtin.copy_,run_underlying hu,Builtin.lenOf,Builtin.firstCells,sizeOf,typeInfo,hq,hi,←hn,hl,hst]
theorem lS{fn:Func}{p:Tmp}{ty:TypeId}(h:fn.results=#[.cell p ty])(tmps:Array Value)(P:Program)(w:World):
 (results fn tmps).run P w=((asAddr (tmps.getD p undef)).run P w).andThen fun a w₁=>(loadVar ty a).run P w₁:=by
 simp only[results,h];simp[Sem.run_bind,Result.andThen]
end
theorem uB{b:Nat}{t:TypeId}:∀(vs:List Value) (o:Nat) (cs:List Value) (w:World),w.heap[b]? =some (.cells cs.toArray t (0,0))→o+vs.length≤cs.length→(w.setCells b o vs).heap[b]? =some (.cells (cs.take o++(vs++cs.drop (o+vs.length))).toArray t (0,0))
 |[],o,cs,w,h,_=>by simpa[World.setCells]using h
 |v::vs,o,cs,w,h,hl=>by
  rw[List.length_cons]at hl;have h1:=kY h o v rfl;have ih:=uB vs (o+1) (cs.set o v) (w.setCell ⟨b,o,none⟩ v) h1 (by rw[uG];omega);have hlt:o<(cs.set o v).length:=by rw[uG];omega
  rw[vJ hlt,List.getElem_set_self,List.take_set_of_le (jS o),List.drop_set_of_lt qJ,uK]at ih;rw[World.setCells,List.length_cons,show o+(vs.length+1)=o+1+vs.length by omega];exact ih
theorem gM{X:List Nat}{w:World}{g:Nat}(hg:g∈X∨w.heap.size≤g):∀(cs:List Value) (o:Nat) (w1:World),Mod X w w1→Mod X w (w1.setCells g o cs)
 |[],_,_,h=>h
 |v::r,o,_,h=>gM hg r (o+1) _ (h.setCell (a:=⟨g,o,none⟩) hg v)
theorem cR{w:World}{base g:Nat}{e:TypeId}{size n cap:Nat}{xs:List Value}(h:w.ownsRow base e size (.slice (some ⟨g,0,none⟩) n cap) n xs)(o:Nat)(v:Value):
 (w.setCell ⟨g,o,none⟩ v).ownsRow base e size (.slice (some ⟨g,0,none⟩) n cap) n (xs.set o v):=by
 obtain⟨h1,h2|⟨g',cap',cur,hv,e2,e3,e4,e5,e6,e7⟩⟩:=h
 · exact absurd h2.1 qV
 · simp only[Value.slice.injEq,Option.some.injEq,Addr.mk.injEq,and_true,true_and]at hv;obtain⟨rfl,rfl⟩:=hv;refine⟨by simpa using h1,.inr ⟨g,cap,cur.setIfInBounds o v,rfl,e2,bX e3,e4,e5,by simpa using e6,?_⟩⟩;rw[←e7,Array.toList_setIfInBounds];rw[List.take_set]
theorem pC{w:World}{base g:Nat}{e:TypeId}{size n cap:Nat}{xs:List Value}(h:w.ownsRow base e size (.slice (some ⟨g,0,none⟩) n cap) n xs){i:Nat}{v:Value}(hi:xs[i]? =some v):bD w g i v:=by
 obtain⟨-,h2|⟨g',cap',cur,hv,-,e3,-,-,-,e7⟩⟩:=h
 · exact absurd h2.1 qV
 · simp only[Value.slice.injEq,Option.some.injEq,Addr.mk.injEq,and_true,true_and]at hv;obtain⟨rfl,rfl⟩:=hv;refine at_ e3 i v ?_;rw[←e7,List.getElem?_take]at hi
   split at hi
   · simpa using hi
   · cases hi
theorem cT{α:Type}{enc:α→List Value}{K:Nat}(hl:∀x,(enc x).length=K):∀(X:List α) (k:Nat) (x x':α) (j:Nat) (v:Value),X[k]? =some x→j<K→(enc x).set j v=enc x'→(uS enc X).set (k*K+j) v=uS enc (X.set k x')
 |[],k,x,x',j,v,h,_,_=>by simp at h
 |y::X,0,x,x',j,v,h,hj,he=>by
  obtain rfl:y=x:=by simpa using h
  have e:uS enc (y::X)=enc y++uS enc X:=rfl;have e2:uS enc ((y::X).set 0 x')=enc x'++uS enc X:=rfl;rw[e,e2,Nat.zero_mul,kB,List.set_append_left _ _ (by rw[hl];exact hj),he]
 |y::X,k+1,x,x',j,v,h,hj,he=>by
  have e:uS enc (y::X)=enc y++uS enc X:=rfl;have e2:uS enc ((y::X).set (k+1) x')=enc y++uS enc (X.set k x'):=rfl;rw[e,e2,List.set_append_right _ _ qVa,hl,show(k+1)*K+j-K=k*K+j by rw[Nat.add_mul];omega,cT hl X k x x' j v qK3 hj he]
theorem fF{base g:Nat}{e:TypeId}{size n cap:Nat}:∀(vs:List Value) (o:Nat) (xs:List Value) (w:World),w.ownsRow base e size (.slice (some ⟨g,0,none⟩) n cap) n xs→o+vs.length≤xs.length→
 (w.setCells g o vs).ownsRow base e size (.slice (some ⟨g,0,none⟩) n cap) n (xs.take o++(vs++xs.drop (o+vs.length)))
 |[],o,xs,w,h,_=>by simpa[World.setCells]using h
 |v::vs,o,xs,w,h,hl=>by
  rw[List.length_cons]at hl;have h1:=cR h o v;have ih:=fF vs (o+1) (xs.set o v) (w.setCell ⟨g,o,none⟩ v) h1 (by rw[uG];omega);have e1:(xs.set o v).take (o+1)=xs.take o++[v]:=by
   rw[vJ (by rw[uG];omega),List.getElem_set_self,List.take_set_of_le (jS _)]
  have e2:(xs.set o v).drop (o+1+vs.length)=xs.drop (o+(v::vs).length):=by
   rw[List.drop_set_of_lt qJ,List.length_cons,show o+1+vs.length=o+(vs.length+1) by omega]
  rw[e1,e2,uK]at ih;exact ih
theorem uF{P:Program}{ops:Array Oper}{rest:List Oper}{op:Oper}{a:Act}{w:World}{Q:Exit→Act→World→Prop}(hw:Region.wanted op (yielded ops a.tmps)=true)(ty:TypeId)(x:Operand)(ho:op.op=.load ty x)
 (b o:Nat) (hx:a.eval x=.pointer (some ⟨b,o,none⟩)) (cs:List Value) (d:TypeDesc) (hc:w.rangeAt b o cs)
 (hu:P.underlying ty=some d) (hd:d.isRow=true) (hi:(P.info? ty).map (·.size)=some cs.length)
 (h:wpList P ops Q rest (a.put op.dst (.agg cs.toArray)) w):wpList P ops Q (op::rest) a w:=by
 unfold wpList;rw[if_pos hw];exact .inl (wp_load_mid ty x ho b o hx cs d hc hu hd hi h)
def nV(r:Int):Bool:=decide (0≤r)&&decide (r≤0x10ffff)&&(decide (r<0xd800)||decide (0xdfff<r))
def cV(r:Int):ByteArray:=
 if nV r then
  (if r<0x80 then⟨#[r.toNat.toUInt8]⟩
  else if r<0x800 then⟨#[(192+r/64).toNat.toUInt8,(128+r%64).toNat.toUInt8]⟩
  else if r<0x10000 then⟨#[(224+r/4096).toNat.toUInt8,(128+r/64%64).toNat.toUInt8,(128+r%64).toNat.toUInt8]⟩
  else⟨#[(240+r/262144).toNat.toUInt8,(128+r/4096%64).toNat.toUInt8,(128+r/64%64).toNat.toUInt8,(128+r%64).toNat.toUInt8]⟩)
 else kD
def yV(m:ByteArray)(c:Cl):Cl:={c with more:=m}
def fK(l:List Cl)(x r:Int):List Cl:=
 let o:=uX l
 match o[x.toNat]? with
 |none=>o
 |some c=>
  if x<0∨c.r=0∨pR r≠0∨32<(c.more++cV r).size then o
  else
   let m:=c.more++cV r
   let o1:=if c.half=1 then o.modify (x.toNat+1) (yV m)else if c.half=2 then o.modify (x.toNat-1) (yV m)else o
   uX (o1.modify x.toNat (yV m))
theorem mU(l:List Cl)(x r:Int):(fK l x r).length=l.length:=by
 unfold fK;simp only[]
 split
 · exact kR l
 · split
   · exact kR l
   · rw[kR,List.length_modify]
     split
     · rw[List.length_modify,kR]
     split
     · rw[List.length_modify,kR]
     · exact kR l
def backOf(a:Atr):Col:=⟨a.bk,a.bn⟩
structure PgInv(rows cols room:Nat)(g:Pg):Prop where
 hrows:g.scr.length=rows
 hcols:g.cols=cols
 hroom:g.room=room
 hhist:g.hist.length≤room
 wide:∀r∈g.hist++g.scr,r.cs.length=cols
theorem sX{α:Type}{f:α→α}{y:α}:∀{l:List α} {i:Nat},y∈l.modify i f→y∈l∨∃x∈l,y=f x
 |[],i,h=>by simp at h
 |x::l,0,h=>by
  rw[List.modify_zero_cons]at h;rcases kW.1 h with rfl|h
  · exact .inr ⟨x,by simp,rfl⟩
  · exact .inl (by simp[h])
 |x::l,i+1,h=>by
  rw[List.modify_succ_cons]at h;rcases kW.1 h with rfl|h
  · exact .inl qV
  · rcases sX h with h|⟨z,hz,e⟩
    · exact .inl (by simp[h])
    · exact .inr ⟨z,by simp[hz],e⟩
theorem PgInv.mod{rows cols room:Nat}{g:Pg}(h:PgInv rows cols room g)(i:Nat)(f:Ro→Ro)(hf:∀r,(f r).cs.length=r.cs.length):PgInv rows cols room {g with scr:=g.scr.modify i f}:=by
 refine⟨by show(g.scr.modify i f).length=rows;rw[List.length_modify];exact h.hrows,h.hcols,h.hroom,h.hhist,fun r hr=>?_⟩;rcases kL.1 (show r∈g.hist++g.scr.modify i f from hr)with hr|hr
 · exact h.wide r (by simp[hr])
 · rcases sX hr with hr|⟨x,hx,rfl⟩
   · exact h.wide r (by simp[hr])
   · rw[hf];exact h.wide x qZa
theorem PgInv.row{rows cols room:Nat}{g:Pg}(h:PgInv rows cols room g)(y:Int)(f:List Cl→List Cl)(hf:∀l,(f l).length=l.length):PgInv rows cols room (pW g y f):=by
 unfold pW
 split
 · exact h.mod _ _ (fun r=>hf r.cs)
 · exact h
theorem PgInv.cont{rows cols room:Nat}{g:Pg}(h:PgInv rows cols room g)(y:Int)(b:Bool):PgInv rows cols room (vL g y b):=by
 unfold vL
 split
 · exact h.mod _ _ (fun r=>rfl)
 · exact h
theorem PgInv.tell{rows cols room:Nat}{g:Pg}(h:PgInv rows cols room g)(k a n:Int):PgInv rows cols room (gW g k a n):=⟨h.hrows,h.hcols,h.hroom,h.hhist,h.wide⟩
theorem xC{l:List Ro}{top bottom:Nat}{b r:Ro}(h:r∈pT l top bottom b):r∈l∨r=b:=by
 unfold pT at h;simp only[kL,kW]at h;rcases h with h|h|h|h
 · exact .inl (List.mem_of_mem_take h)
 · exact .inl (List.mem_of_mem_drop (List.mem_of_mem_take h))
 · exact .inr h
 · exact .inl (List.mem_of_mem_drop h)
theorem ZT{l:List Ro}{top bottom:Nat}{b r:Ro}(h:r∈bA l top bottom b):r∈l∨r=b:=by
 unfold bA at h;simp only[kL,kW]at h;rcases h with h|h|h|h
 · exact .inl (List.mem_of_mem_take h)
 · exact .inr h
 · exact .inl (List.mem_of_mem_drop (List.mem_of_mem_take h))
 · exact .inl (List.mem_of_mem_drop h)
theorem PgInv.slide{rows cols room:Nat}{g:Pg}(h:PgInv rows cols room g){s:List Ro}{b:Col}(hl:s.length=g.scr.length)(hm:∀r∈s,r∈g.scr∨r=gZ g.cols b):PgInv rows cols room {g with scr:=s}:=by
 refine⟨hl.trans h.hrows,h.hcols,h.hroom,h.hhist,fun r hr=>?_⟩;rcases kL.1 (show r∈g.hist++s from hr)with hr|hr
 · exact h.wide r (by simp[hr])
 · rcases hm r hr with hr|rfl
   · exact h.wide r (by simp[hr])
   · unfold gZ;rw[kS];exact h.hcols
theorem PgInv.cut{rows cols room:Nat}{g:Pg}(h:PgInv rows cols room g){top bottom:Nat}(h1:top≤bottom)(h2:bottom<g.scr.length)(b:Col):PgInv rows cols room (lU g top bottom b):=by
 unfold lU;exact((PgInv.slide (g:=gW (gW g 1 (g.hist.length+top) 1) 0 (g.hist.length+bottom) 1) ((h.tell _ _ _).tell _ _ _) (b:=b) (lN h1 h2) (fun r hr=>xC hr)).cont _ _).cont _ _
theorem PgInv.down{rows cols room:Nat}{g:Pg}(h:PgInv rows cols room g){top bottom:Nat}(h1:top≤bottom)(h2:bottom<g.scr.length)(b:Col):PgInv rows cols room (cK g top bottom b):=by
 unfold cK;exact((PgInv.slide (g:=gW (gW g 1 (g.hist.length+bottom) 1) 0 (g.hist.length+top) 1) ((h.tell _ _ _).tell _ _ _) (b:=b) (xQ h1 h2) (fun r hr=>ZT hr)).cont _ _).cont _ _
theorem PgInv.push{rows cols room:Nat}{g:Pg}(h:PgInv rows cols room g){r:Ro}(hr:r.cs.length=cols):PgInv rows cols room (iJ g r).1∧(iJ g r).1.scr=g.scr:=by
 have hh:=h.hhist;have hr0:=h.hroom;unfold iJ
 split
 · exact⟨⟨h.hrows,h.hcols,h.hroom,h.hhist,h.wide⟩,rfl⟩
 split
 · next h0 h1=>
   refine⟨⟨h.hrows,h.hcols,h.hroom,by show(g.hist.drop 1++[r]).length≤room;simp;omega,fun x hx=>?_⟩,rfl⟩;rcases kL.1 (show x∈(g.hist.drop 1++[r])++g.scr from hx)with hx|hx
   · rcases kL.1 hx with hx|hx
     · exact h.wide x (List.mem_append_left _ (List.mem_of_mem_drop hx))
     · rw[jR.1 hx];exact hr
   · exact h.wide x qZa
 · next h0 h1=>
   refine⟨⟨h.hrows,h.hcols,h.hroom,by show(g.hist++[r]).length≤room;simp;omega,fun x hx=>?_⟩,rfl⟩;rcases kL.1 (show x∈(g.hist++[r])++g.scr from hx)with hx|hx
   · rcases kL.1 hx with hx|hx
     · exact h.wide x qZa
     · rw[jR.1 hx];exact hr
   · exact h.wide x qZa
theorem PgInv.up{rows cols room:Nat}{g:Pg}(h:PgInv rows cols room g){top bottom:Nat}(h1:top≤bottom)(h2:bottom<g.scr.length)(b:Col):PgInv rows cols room (upP g top bottom b):=by
 unfold upP
 split
 · exact h.cut h1 h2 b
 · next ht=>
   simp only[];have hw:(g.scr.getD 0 ⟨[],false⟩).cs.length=cols:=by
    rw[kP,jD qJ];exact h.wide _ qV
   have hp:=(h.tell 0 (g.hist.length+bottom+1) 1).push hw;have hc:(iJ (gW g 0 (g.hist.length+bottom+1) 1) (g.scr.getD 0 ⟨[],false⟩)).1.cols=g.cols:=hp.1.hcols.trans h.hcols.symm;generalize iJ (gW g 0 (g.hist.length+bottom+1) 1) (g.scr.getD 0 ⟨[],false⟩)=q at hp hc;obtain⟨q,e⟩:=q;refine PgInv.cont ?_ _ _;have hq:PgInv rows cols room (if e=true then gW q 2 0 1 else q):=by
    split
    · exact hp.1.tell _ _ _
    · exact hp.1
   have hs:(if e=true then gW q 2 0 1 else q).scr=g.scr:=by
    split<;>exact hp.2
   have hcc:(if e=true then gW q 2 0 1 else q).cols=g.cols:=by
    split<;>exact hc
   exact hq.slide (b:=b) (by rw[hs];exact lN qJ h2) (fun r hr=>by rw[hs,hcc];exact xC hr)
theorem PgInv.iter{rows cols room:Nat}{f:Pg→Pg}(hf:∀g,PgInv rows cols room g→PgInv rows cols room (f g)):∀(n:Nat) {g:Pg},PgInv rows cols room g→PgInv rows cols room (eD f n g)
 |0,_,h=>h
 |n+1,_,h=>hf _ (PgInv.iter hf n h)
theorem PgInv.times{rows cols room:Nat}{g:Pg}(h:PgInv rows cols room g)(top bottom n:Int)(f:Nat→Nat→Pg→Pg)(hf:∀t b:Nat,t≤b→∀g,PgInv rows cols room g→b<g.scr.length→PgInv rows cols room (f t b g)):PgInv rows cols room (gI g top bottom n f):=by
 unfold gI
 split
 · next hc=>
   simp only[Bool.and_eq_true,inP,decide_eq_true_eq]at hc;refine PgInv.iter (fun g' h'=>hf _ _ qJ g' h' ?_) _ h;have :=h.hrows;have :=h'.hrows;omega
 · exact h
theorem PgInv.forget{rows cols room:Nat}{g:Pg}(h:PgInv rows cols room g):PgInv rows cols room (cO g):=by
 unfold cO
 split
 · exact h
 · exact PgInv.cont (PgInv.tell (g:={g with hist:=[],gone:=g.gone+g.hist.length}) ⟨h.hrows,h.hcols,h.hroom,kT _,fun r hr=>h.wide r (by have hr':r∈([]:List Ro)++g.scr:=hr;simp at hr';simp[hr'])⟩ _ _ _) _ _
theorem PgInv.erase{rows cols room:Nat}{g:Pg}(h:PgInv rows cols room g)(y x z:Int)(b:Col):PgInv rows cols room (yU g y x z b):=by
 unfold yU;have h1:=h.row y (fun l=>pG l x z b) (fun l=>lZ l x z b)
 split
 · simp only[]
   split
   · split
     · exact(h1.cont _ _).cont _ _
     · exact h1.cont _ _
   · exact h1
 · exact h
theorem zp{Y:Prop}(e:Y:=by simp only[Act.put,List.setIfInBounds_toArray,List.set_cons_zero,List.set_cons_succ]<;>rfl):Y:=e
theorem zt{Y:Prop}(e:Y:=by simp only[List.take_succ_cons,List.take_zero,List.drop_succ_cons,List.drop_zero]<;>rfl):Y:=e
theorem zb{α:Type}[BEq α][LawfulBEq α]{a b:α}(h:¬a=b):(a==b)=false:=beq_eq_false_iff_ne.2 h
theorem zm{Y:Prop}(e:Y:=by simp[intOf];omega):Y:=e
theorem zr{Y:Prop}(e:Y:=by rfl):Y:=e
theorem zk{Y:Prop}(e:Y:=by kernel_rfl):Y:=e
theorem zc{Y:Prop}(e:Y:=by intro w2;go_simp;first|done|fail):Y:=e
theorem zv{Y:Prop}(e:Y:=by intro w' hS;(repeat(have :=And.left hS;replace hS:=And.right hS));go_simp;first|done|with_reducible rfl):Y:=e
section
variable {P:Program}{ops:Array Oper}{S R:World→Prop}{Lq:Act→Prop}{o:Oper}{l:List Oper}{a:Act}{v:Value}{w W:World}{id:Nat}{Q:Exit→Act→World→Prop}{a1 a2 a3:Addr}{x1 x2 x3:Value}{X:Prop}{f:FuncId}{args:Array Value}
theorem zG(v:Value)(x:X)(hw:Region.wanted o (yielded ops a.tmps)=true:=by exact zr)(hr:(execOp a.eval o).run P w=.ok (.value v) w:=by exact zr)(e:wpList P ops Q l (a.put o.dst v) w=X:=by exact zp):wpList P ops Q (o::l) a w:=jM v hw hr (e▸x)
theorem zGs(v:Value)(x:X)(hw:Region.wanted o (yielded ops a.tmps)=true:=by exact zr)(hr:(execOp a.eval o).run P w=.ok (.value v) w:=by go_simp)(e:wpList P ops Q l (a.put o.dst v) w=X:=by exact zp):wpList P ops Q (o::l) a w:=jM v hw hr (e▸x)
theorem zP{Y:Prop}(x:X)(e:Y=X:=by exact zp):Y:=e▸x
theorem zS(x:X)(hw:Region.wanted o (yielded ops a.tmps)=false:=by exact zr)(e:fT P ops S Lq l (a.put o.dst undef)=X:=by exact zp):fT P ops S Lq (o::l) a:=kV hw (e▸x)
theorem zV(x:X)(hw:Region.wanted o (yielded ops a.tmps)=true:=by exact zr)(h:∀w,S w→(execOp a.eval o).run P w=.ok (.value v) w:=by exact zv)(e:fT P ops S Lq l (a.put o.dst v)=X:=by exact zp):fT P ops S Lq (o::l) a:=kG v hw h (e▸x)
theorem zC0(hc:∀w,S w→Calls P f args w fun e w'=>e=.returned v∧S w')(x:X)(hw:Region.wanted o (yielded ops a.tmps)=true:=by exact zr)(h:∀w,(execOp a.eval o).run P w=.ok (.enter f args) w:=by exact zc)(e:fT P ops S Lq l (a.put o.dst v)=X:=by exact zp):fT P ops S Lq (o::l) a:=kN f args v hw h hc (e▸x)
theorem zD(f:FuncId)(args:Array Value)(v:Value)(hc:∀w,S w→Calls P f args w fun e w'=>e=.returned v∧S w')(x:X)(hw:Region.wanted o (yielded ops a.tmps)=true:=by exact zr)(h:∀w,(execOp a.eval o).run P w=.ok (.enter f args) w:=by exact zc)(e:fT P ops S Lq l (a.put o.dst v)=X:=by exact zp):fT P ops S Lq (o::l) a:=zC0 hc x hw h e
theorem zC1(H:∀w',Below W.heap.size W w'→Calls P f args w' fun e w2=>e=.returned v∧Below w'.heap.size w' w2)(w':World)(hS:Below W.heap.size W w'∧w'.cell? a1=some x1):Calls P f args w' fun e w2=>e=.returned v∧Below W.heap.size W w2∧w2.cell? a1=some x1:=
 (H w' hS.1).mono fun _ _ ⟨he,hb⟩=>⟨he,jN hS.1 hb,jA hb hS.2⟩
theorem zC2(H:∀w',Below W.heap.size W w'→Calls P f args w' fun e w2=>e=.returned v∧Below w'.heap.size w' w2)(w':World)(hS:Below W.heap.size W w'∧w'.cell? a1=some x1∧w'.cell? a2=some x2):Calls P f args w' fun e w2=>e=.returned v∧Below W.heap.size W w2∧w2.cell? a1=some x1∧w2.cell? a2=some x2:=
 (H w' hS.1).mono fun _ _ ⟨he,hb⟩=>⟨he,jN hS.1 hb,jA hb hS.2.1,jA hb hS.2.2⟩
theorem zC3(H:∀w',Below W.heap.size W w'→Calls P f args w' fun e w2=>e=.returned v∧Below w'.heap.size w' w2)(w':World)(hS:Below W.heap.size W w'∧w'.cell? a1=some x1∧w'.cell? a2=some x2∧w'.cell? a3=some x3):Calls P f args w' fun e w2=>e=.returned v∧Below W.heap.size W w2∧w2.cell? a1=some x1∧w2.cell? a2=some x2∧w2.cell? a3=some x3:=
 (H w' hS.1).mono fun _ _ ⟨he,hb⟩=>⟨he,jN hS.1 hb,jA hb hS.2.1,jA hb hS.2.2.1,jA hb hS.2.2.2⟩
theorem zE(H:∀w',Below W.heap.size W w'→Calls P f args w' fun e w2=>e=.returned v∧w'=w2)(w':World)(hS:Below W.heap.size W w'∧R w'):Calls P f args w' fun e w2=>e=.returned v∧Below W.heap.size W w2∧R w2:=
 (H w' hS.1).mono fun _ _ ⟨he,hb⟩=>⟨he,hb▸hS⟩
theorem zU(n:Nat){l:List Oper}(S:World→Prop)(hS:S w.drew)(x:X)(hm:P.follows .mixedOrders=true:=by exact zk)(hB:Region.lexTailB .any l.toArray n=true:=by exact zk)
 (e:fT P l.toArray S (fun a'=>∀w',S w'→wpList P l.toArray Q (l.drop n) a' w') (l.take n) a=X:=by exact zt):(Code.region id l.toArray true).wp P Q a w:=jO n S hm hB hS (e▸x)
theorem zU1(n:Nat){l:List Oper}(c1:w.cell? a1=some x1)(x:X)(hm:P.follows .mixedOrders=true:=by exact zk)(hB:Region.lexTailB .any l.toArray n=true:=by exact zk)
 (e:fT P l.toArray (fun w'=>Below w.heap.size w w'∧w'.cell? a1=some x1) (fun a'=>∀w',(Below w.heap.size w w'∧w'.cell? a1=some x1)→wpList P l.toArray Q (l.drop n) a' w') (l.take n) a=X:=by exact zt):(Code.region id l.toArray true).wp P Q a w:=
 zU n _ ⟨(Below.refl _ _).drew,c1⟩ x hm hB e
theorem zU2(n:Nat){l:List Oper}(c1:w.cell? a1=some x1)(c2:w.cell? a2=some x2)(x:X)(hm:P.follows .mixedOrders=true:=by exact zk)(hB:Region.lexTailB .any l.toArray n=true:=by exact zk)
 (e:fT P l.toArray (fun w'=>Below w.heap.size w w'∧w'.cell? a1=some x1∧w'.cell? a2=some x2) (fun a'=>∀w',(Below w.heap.size w w'∧w'.cell? a1=some x1∧w'.cell? a2=some x2)→wpList P l.toArray Q (l.drop n) a' w') (l.take n) a=X:=by exact zt):(Code.region id l.toArray true).wp P Q a w:=
 zU n _ ⟨(Below.refl _ _).drew,c1,c2⟩ x hm hB e
theorem zU3(n:Nat){l:List Oper}(c1:w.cell? a1=some x1)(c2:w.cell? a2=some x2)(c3:w.cell? a3=some x3)(x:X)(hm:P.follows .mixedOrders=true:=by exact zk)(hB:Region.lexTailB .any l.toArray n=true:=by exact zk)
 (e:fT P l.toArray (fun w'=>Below w.heap.size w w'∧w'.cell? a1=some x1∧w'.cell? a2=some x2∧w'.cell? a3=some x3) (fun a'=>∀w',(Below w.heap.size w w'∧w'.cell? a1=some x1∧w'.cell? a2=some x2∧w'.cell? a3=some x3)→wpList P l.toArray Q (l.drop n) a' w') (l.take n) a=X:=by exact zt):(Code.region id l.toArray true).wp P Q a w:=
 zU n _ ⟨(Below.refl _ _).drew,c1,c2,c3⟩ x hm hB e
theorem zq{Y:Prop}(e:Y:=by intro q;simp only[List.take_succ_cons,List.take_zero,List.drop_succ_cons,List.drop_zero];(repeat(first|refine zS ?_|refine zV ?_));exact kU q.o):Y:=e
theorem zW(n:Nat){l:List Oper}(S:World→Prop)(hS:S w.drew)(q:∀w',S w'→R w')(hm:P.follows .mixedOrders=true)(hB:Region.lexTailB .any l.toArray n=true)
 (h:Hid (∀w',S w'→R w')→fT P l.toArray S (fun a'=>∀w',S w'→wpList P l.toArray Q (l.drop n) a' w') (l.take n) a):(Code.region id l.toArray true).wp P Q a w:=jO n S hm hB hS (h (Hd q))
theorem zW1(n:Nat){l:List Oper}(c1:w.cell? a1=some x1)(q:∀w',(Below w.heap.size w w'∧w'.cell? a1=some x1)→R w')(hm:P.follows .mixedOrders=true:=by exact zk)(hB:Region.lexTailB .any l.toArray n=true:=by exact zk)
 (h:Hid (∀w',(Below w.heap.size w w'∧w'.cell? a1=some x1)→R w')→fT P l.toArray (fun w'=>Below w.heap.size w w'∧w'.cell? a1=some x1) (fun a'=>∀w',(Below w.heap.size w w'∧w'.cell? a1=some x1)→wpList P l.toArray Q (l.drop n) a' w') (l.take n) a:=by exact zq):(Code.region id l.toArray true).wp P Q a w:=zW n _ ⟨(Below.refl _ _).drew,c1⟩ q hm hB h
theorem zW2(n:Nat){l:List Oper}(c1:w.cell? a1=some x1)(c2:w.cell? a2=some x2)(q:∀w',(Below w.heap.size w w'∧w'.cell? a1=some x1∧w'.cell? a2=some x2)→R w')(hm:P.follows .mixedOrders=true:=by exact zk)(hB:Region.lexTailB .any l.toArray n=true:=by exact zk)
 (h:Hid (∀w',(Below w.heap.size w w'∧w'.cell? a1=some x1∧w'.cell? a2=some x2)→R w')→fT P l.toArray (fun w'=>Below w.heap.size w w'∧w'.cell? a1=some x1∧w'.cell? a2=some x2) (fun a'=>∀w',(Below w.heap.size w w'∧w'.cell? a1=some x1∧w'.cell? a2=some x2)→wpList P l.toArray Q (l.drop n) a' w') (l.take n) a:=by exact zq):(Code.region id l.toArray true).wp P Q a w:=zW n _ ⟨(Below.refl _ _).drew,c1,c2⟩ q hm hB h
theorem zW3(n:Nat){l:List Oper}(c1:w.cell? a1=some x1)(c2:w.cell? a2=some x2)(c3:w.cell? a3=some x3)(q:∀w',(Below w.heap.size w w'∧w'.cell? a1=some x1∧w'.cell? a2=some x2∧w'.cell? a3=some x3)→R w')(hm:P.follows .mixedOrders=true:=by exact zk)(hB:Region.lexTailB .any l.toArray n=true:=by exact zk)
 (h:Hid (∀w',(Below w.heap.size w w'∧w'.cell? a1=some x1∧w'.cell? a2=some x2∧w'.cell? a3=some x3)→R w')→fT P l.toArray (fun w'=>Below w.heap.size w w'∧w'.cell? a1=some x1∧w'.cell? a2=some x2∧w'.cell? a3=some x3) (fun a'=>∀w',(Below w.heap.size w w'∧w'.cell? a1=some x1∧w'.cell? a2=some x2∧w'.cell? a3=some x3)→wpList P l.toArray Q (l.drop n) a' w') (l.take n) a:=by exact zq):(Code.region id l.toArray true).wp P Q a w:=zW n _ ⟨(Below.refl _ _).drew,c1,c2,c3⟩ q hm hB h
end
section
variable {P:Program}{ops:Array Oper}{I S:World→Prop}{Q:Exit→Act→World→Prop}{a:Act}{listed:Array Bool}{n f i:Nat}{o1 o2 o3 o4 o5 o6}{v:Value}{X:Prop}
theorem zA(x:X)(hB:Region.tailB ops n=true:=by exact zk)(hi:ops[i]? =some ⟨o1,o2,o3,o4,o5,o6⟩:=by exact rfl)(hin:(i<n)=True:=by simp)(hf:Region.free .any ops listed i=true:=by exact zk)(hr:(Region.ready .any ops listed).contains i=true:=by exact zk)
 (hy:uY P ops S ⟨o1,o2,o3,o4,o5,o6⟩ (AT (· =v) Any) a:=by first|exact uY.skip zr|exact uY.val zr zv) (e:AtC (i+1) P ops Q n f (listed.setIfInBounds i true) (a.put (Oper.mk o1 o2 o3 o4 o5 o6).dst v) S=X:=by exact zp):AtC i P ops Q n (f+1) listed a S:=AtC.take hB hi hin hf hr hy (e▸x)
theorem zK(x:X)(hB:Go.RL.Region.tailB ops n=true:=by exact zk)(hi:ops[i]? =some ⟨o1,o2,o3,o4,o5,o6⟩:=by exact rfl)(hin:(i<n)=True:=by simp)(hf:Region.free .any ops listed i=true:=by exact zk)(hr:(Region.ready .any ops listed).contains i=true:=by exact zk)
 (hy:Go.RL.Pure P ops I ⟨o1,o2,o3,o4,o5,o6⟩ v a:=by exact Go.RL.Pure.val zr zv) (e:Go.RL.AtK (i+1) P ops I Q n f (listed.setIfInBounds i true) (a.put (Oper.mk o1 o2 o3 o4 o5 o6).dst v) S=X:=by exact zp):Go.RL.AtK i P ops I Q n (f+1) listed a S:=Go.RL.AtK.take hB hi hin hf hr hy (e▸x)
end
structure Ch where
 g0:Int
 g1:Int
 g2:Int
 g3:Int
 use:Int
 once:Int
structure Pe where
 at_:Atr
 ch:Ch
 put:Bool
 wrap:Bool
 home:Bool
structure Sc where
 pg:Pg
 st:List Bool
 pen:Pe
 y:Int
 x:Int
 top:Int
 bot:Int
 sp:Pe
 sy:Int
 sx:Int
 has:Bool
 last:Int
def zY:Atr:=⟨0,0,0,0,0⟩
def pF:Ch:=⟨66,66,66,66,0,0⟩
def vW:Pe:=⟨zY,pF,false,true,false⟩
def bH:Pe:=⟨zY,⟨0,0,0,0,0,0⟩,false,false,false⟩
def Qr:List Int:=[0x25c6,0x2592,0x2409,0x240c,0x240d,0x240a,0xb0,0xb1,0x2424,0x240b,0x2518,0x2510,0x250c,0x2514,0x253c,0x23ba,0x23bb,0x2500,0x23bc,0x23bd,0x251c,0x2524,0x2534,0x252c,0x2502,0x2264,0x2265,0x3c0,0x2260,0xa3,0xb7]
def hQ(kind r:Int):Int:=
 if kind=65∧r=35 then 163 else if kind=48∧r=95 then 32 else if kind=48∧96≤r∧r≤126 then Qr.getD (r-96).toNat 0 else r
def aD(c:Ch):Int:=if c.once=2∨c.once=3 then c.once else if 0≤c.use∧c.use≤3 then c.use else 0
def Ud(c:Ch)(k:Int):Int:=if k=0 then c.g0 else if k=1 then c.g1 else if k=2 then c.g2 else c.g3
def YW(c:Ch)(r:Int):Int:=hQ (Ud c (aD c)) r
def mY(c:Ch):Ch:={c with once:=0}
def uZ(n lo hi:Int):Int:=max lo (min n hi)
def yJ(s:Sc):Col:=backOf s.pen.at_
def rowsS(s:Sc):Int:=s.pg.scr.length
def colsS(s:Sc):Int:=s.pg.cols
def inS(s:Sc):Int:=min s.x (colsS s-1)
def zM(s:Sc):Sc×Bool:=
 if s.y=s.bot then({s with x:=inS s,pg:=gI s.pg s.top s.bot 1 (fun t b g=>upP g t b (yJ s))},true)
 else if s.y<rowsS s-1 then({s with x:=inS s,y:=s.y+1},true)
 else({s with x:=inS s},false)
def yY(s:Sc):Sc:=
 if s.y=s.top then{s with x:=inS s,pg:=gI s.pg s.top s.bot 1 (fun t b g=>cK g t b (yJ s))}
 else if 0<s.y then{s with x:=inS s,y:=s.y-1}
 else{s with x:=inS s}
def cQ(s:Sc):Sc:=if s.x<colsS s then{s with pg:=pW s.pg s.y cH}else s
def onS(p:Sc×Bool):Sc:=if p.2 then{p.1 with x:=0,pg:=vL p.1.pg p.1.y true}else{p.1 with x:=0}
def cB(s:Sc)(w:Int):Sc:=
 if s.x+w≤colsS s then s
 else if s.pen.wrap=false then{s with x:=colsS s-w}
 else onS (zM (cQ s))
def bO(s:Sc)(w:Int):Sc:=if s.pen.put then{s with pg:=pW s.pg s.y (fun l=>pU l s.x w (yJ s))}else s
def ZI(s:Sc)(r w:Int):Sc:={s with pg:=pW s.pg s.y (fun l=>dS l s.x r s.pen.at_),x:=s.x+w,last:=r}
def pH(s:Sc)(r:Int):Sc:=
 if pR r=0 then{s with pg:=pW s.pg s.y (fun l=>fK l (s.x-1) r)}
 else if pR r<1 then s
 else ZI (bO (cB s (pR r)) (pR r)) r (pR r)
def cA(s:Sc)(r:Int):Sc:=pH {s with pen:={s.pen with ch:=mY s.pen.ch}} (YW s.pen.ch r)
def lA(rows cols lines:Nat)(st:List Bool):Sc:=⟨⟨lines,[],0,kJ rows (gZ cols ⟨0,0⟩),cols,[]⟩,st,vW,0,0,0,rows-1,bH,0,0,false,0⟩
def iZ(d:Dc)(y:Int)(f:List Cl→List Cl):Dc:=if nU d y then{d with L:=d.L.modify (d.base+y.toNat) (fun r=>{r with cs:=f r.cs})}else d
def Yu(d:Dc)(y:Int):Dc:=if nU d y then{d with L:=d.L.modify (d.base+y.toNat) (fun r=>{r with cont:=true})}else d
def lL(d:Dc)(y x z:Int)(b:Col):Dc:=
 if nU d y then
  let d1:=iZ d y (fun l=>pG l x z b)
  if x<d.cols∧(d.cols:Int)≤z then(if x<1 then gN (gN d1 (y+1)) y else gN d1 (y+1))else d1
 else d
theorem Zl(g:Pg)(y:Int)(f:List Cl→List Cl):iZ (yX g) y f=yX (pW g y f):=by
 unfold iZ pW;rw[iH]
 split
 · show Dc.mk ((g.hist++g.scr).modify (g.hist.length+y.toNat) _) _ _ _ _ _=_;rw[fL];rfl
 · rfl
theorem Wt(g:Pg)(y:Int):Yu (yX g) y=yX (vL g y true):=by
 unfold Yu vL;rw[iH]
 split
 · show Dc.mk ((g.hist++g.scr).modify (g.hist.length+y.toNat) _) _ _ _ _ _=_;rw[fL];rfl
 · rfl
theorem Yv(g:Pg)(y x z:Int)(b:Col):lL (yX g) y x z b=yX (yU g y x z b):=by
 unfold lL yU;rw[iH]
 by_cases h:inP g y=true
 · rw[if_pos h,if_pos h];simp only[];rw[Zl];show(if x<(g.cols:Int)∧(g.cols:Int)≤z then _ else _)=_
   by_cases h2:x<(g.cols:Int)∧(g.cols:Int)≤z
   · rw[if_pos h2,if_pos h2,dP,dP]
     by_cases h3:x<1
     · rw[if_pos h3,if_pos qJ]
     · rw[if_neg h3,if_neg qJ]
   · rw[if_neg h2,if_neg h2]
 · rw[if_neg h,if_neg h]
def pI(st:List Bool)(x:Nat):Nat:=((List.range' (x+1) (st.length-1-(x+1))).find? (fun y=>st.getD y false)).getD (st.length-1)
def yK(st:List Bool)(x:Nat):Nat:=(((List.range' 1 (x-1)).reverse).find? (fun y=>st.getD y false)).getD 0
def pE(f:Nat→Nat):Nat→Nat→Nat
 |0,x=>x
 |n+1,x=>pE f n (f x)
def goT(f:Nat→Nat)(cols:Nat)(x n:Int):Int:=pE f (min (max 0 n) cols).toNat (max 0 (min x (cols-1))).toNat
def eA(f:Sc→Sc):Nat→Sc→Sc
 |0,s=>s
 |n+1,s=>f (eA f n s)
def bZ(s:Sc)(n:Int):Sc:=if s.last=0 then s else eA (fun t=>pH t t.last) (uZ n 1 (rowsS s*colsS s)).toNat s
def lO(s:Sc)(n:Int):Sc:=
 if n=0 then s
 else if 0<n then{s with x:=goT (pI s.st) s.st.length (inS s) n}
 else{s with x:=goT (yK s.st) s.st.length (inS s) (max 0 (-(max n (-1000))))}
def dF(s:Sc)(y x:Int):Sc:=
 if s.pen.home then{s with y:=s.top+uZ y 0 (s.bot-s.top),x:=uZ x 0 (colsS s-1)}
 else{s with y:=uZ y 0 (rowsS s-1),x:=uZ x 0 (colsS s-1)}
def byS(at_ d lo hi:Int):Int:=uZ (at_+uZ d (-1000) 1000) lo hi
def oP(s:Sc):Int:=if s.top≤s.y then s.top else 0
def nS(s:Sc):Int:=if s.y≤s.bot then s.bot else rowsS s-1
def goS(s:Sc)(dy dx:Int):Sc:={s with y:=byS s.y dy (min (oP s) s.y) (max (nS s) s.y),x:=byS (inS s) dx 0 (colsS s-1)}
def yR(s:Sc)(t b:Int):Sc:=if 0≤t∧b<rowsS s∧t<b then dF {s with top:=t,bot:=b} 0 0 else s
def cJ(s:Sc)(y x z:Int):Sc:={s with pg:=yU s.pg y x z (yJ s)}
def dE(s:Sc)(from_:Int):Nat→Sc
 |0=>s
 |n+1=>cJ (dE s from_ n) (from_+n) 0 (colsS s)
def vX(s:Sc)(k:Int):Sc:=
 if k=0 then cJ s s.y (inS s) (colsS s)else if k=1 then cJ s s.y 0 (inS s+1)else if k=2 then dE s s.y 1 else s
def pV(s:Sc)(k:Int):Sc:=
 if k=0 then dE (vX s 0) (s.y+1) (rowsS s-(s.y+1)).toNat
 else if k=1 then dE (vX s 1) 0 s.y.toNat
 else if k=2 then dE s 0 (rowsS s).toNat
 else if k=3 then{s with pg:=cO s.pg}
 else s
def inX(s:Sc):Sc:={s with x:=inS s}
def yH(s:Sc)(n:Int):Sc:=cJ (inX s) s.y (inS s) (inS s+uZ n 1 1000)
def pB(s:Sc)(n:Int):Sc:={inX s with pg:=pW s.pg s.y (fun l=>pU l (inS s) (max 1 n) (yJ s))}
def pP(s:Sc)(n:Int):Sc:={inX s with pg:=pW s.pg s.y (fun l=>yC l (inS s) (max 1 n) (yJ s))}
def bW(s:Sc):Bool:=decide (s.top≤s.y)&&decide (s.y≤s.bot)
def gF(s:Sc)(n:Int):Sc:=if bW s then{s with x:=0,pg:=gI s.pg s.y s.bot (max 1 n) (fun t b g=>cK g t b (yJ s))}else s
def gR(s:Sc)(n:Int):Sc:=if bW s then{s with x:=0,pg:=gI s.pg s.y s.bot (max 1 n) (fun t b g=>lU g t b (yJ s))}else s
def bJ(s:Sc)(n:Int):Sc:=
 if 0<n then{s with pg:=gI s.pg s.top s.bot n (fun t b g=>upP g t b (yJ s))}
 else if n<0 then{s with pg:=gI s.pg s.top s.bot (-(max n (-1000))) (fun t b g=>cK g t b (yJ s))}
 else s
def cI(s:Sc):Sc:={s with sp:=s.pen,sy:=s.y,sx:=inS s,has:=true}
def fM(s:Sc)(y x:Int):Sc:={s with y:=uZ y 0 (rowsS s-1),x:=uZ x 0 (colsS s-1)}
def fV(p k:Pe):Pe:={p with at_:=k.at_,ch:=k.ch,home:=k.home}
def gD(s:Sc):Sc:=if s.has then fM {s with pen:=fV s.pen s.sp} s.sy s.sx else fM {s with pen:=fV s.pen vW} 0 0
def dK(s:Sc):Sc:={s with top:=0,bot:=rowsS s-1}
def iO(s:Sc)(y:Int):Nat→Sc
 |0=>s
 |n+1=>{iO s y n with pg:=pW (iO s y n).pg y (fun l=>dS l n 69 zY)}
def zL(s:Sc):Nat→Sc
 |0=>s
 |n+1=>iO {zL s n with pg:=yU (zL s n).pg n 0 (colsS s) ⟨0,0⟩} n s.pg.cols
def eE(s:Sc):Sc:=fM (zL (dK s) s.pg.scr.length) 0 0
def fW(s:Sc):Sc:=dK {s with pen:=vW,sp:=bH,sy:=0,sx:=0,has:=false,last:=0}
def nD(s:Sc):Sc:={s with x:=max 0 (inS s-1)}
def tM(s o:Sc):Sc:=fM {s with pen:=o.pen} o.y (inS o)
def dD(last:Int):Ch:=if last=66∨last=48∨last=65 then{pF with g0:=last}else pF
def dW(n:Int):Int:=max (-1) (min n 65535)
def cW(g:List Int):List Int:=if g.length=0 then[-1]else(g.take 8).map dW
def bG(l:List (List Int)):List (List Int):=if l.length=0 then[[-1]]else(l.take 32).map cW
theorem Q3(n:Int): -1≤dW n∧dW n≤65535:=by unfold dW;omega
def JP(l:List (List Int)):Prop:=∀g∈l,0<g.length∧g.length≤8∧∀n∈g,-1≤n∧n≤65535
theorem Q4(g:List Int):0<(cW g).length∧(cW g).length≤8∧∀n∈cW g,-1≤n∧n≤65535:=by
 unfold cW
 split
 · exact⟨by decide,by decide,fun n hn=>by rw[jR.1 hn];decide⟩
 · refine⟨by simp;omega,by simp;omega,fun n hn=>?_⟩;obtain⟨m,-,rfl⟩:=List.mem_map.1 hn;exact Q3 m
theorem KA(l:List (List Int)):JP (bG l):=by
 unfold bG
 split
 · intro g hg;rw[jR.1 hg];exact⟨by decide,by decide,fun n hn=>by rw[jR.1 hn];decide⟩
 · intro g hg;obtain⟨m,-,rfl⟩:=List.mem_map.1 hg;exact Q4 m
theorem JK(l:List (List Int)):0<(bG l).length∧(bG l).length≤32:=by
 unfold bG
 split
 · exact⟨by decide,by decide⟩
 · constructor
   · simp;omega
   · simp;omega
def qQ1(n f:Int):Bool:=if n<0 then false else decide (n/f%2=1)
def zI(n f:Int)(on:Bool):Int:=if qQ1 n f=on then n else if on then n+f else n-f
def yG(l:List (List Int))(i:Nat):Int:=max 0 ((l.getD i []).headD 0)
def lP(n:Int):Int:=max 0 n
def eH(l:List (List Int))(i:Nat):Option Col×Nat:=
 let g:=l.getD i []
 if 1<g.length then
  if g.getD 1 0=5∧g.length=3∧g.getD 2 0<256 then(some ⟨1,lP (g.getD 2 0)⟩,i+1)
  else if g.getD 1 0=2∧(g.length=5∨g.length=6)∧g.getD (g.length-1) 0<256∧g.getD (g.length-2) 0<256∧g.getD (g.length-3) 0<256 then
   (some ⟨2,65536*lP (g.getD (g.length-3) 0)+256*lP (g.getD (g.length-2) 0)+lP (g.getD (g.length-1) 0)⟩,i+1)
  else(none,i+1)
 else if yG l (i+1)=5 then(if i+2<l.length∧yG l (i+2)<256 then some ⟨1,yG l (i+2)⟩else none,i+3)
 else if yG l (i+1)=2 then
  (if i+4<l.length∧yG l (i+2)<256∧yG l (i+3)<256∧yG l (i+4)<256 then some ⟨2,65536*yG l (i+2)+256*yG l (i+3)+yG l (i+4)⟩else none,i+5)
 else(none,i+2)
def pO(f v:Int)(g:List Int):Int:=
 if v=1 then zI f 1 true else if v=2 then zI f 2 true else if v=3 then zI f 4 true
 else if v=4 then zI (zI f 256 (decide (1<g.length)&&decide (g.getD 1 0=2))) 8 (!(decide (1<g.length)&&decide (g.getD 1 0=2))&& !(decide (1<g.length)&&decide (g.getD 1 0=0)))
 else if v=5∨v=6 then zI f 16 true else if v=7 then zI f 32 true else if v=8 then zI f 64 true else if v=9 then zI f 128 true
 else if v=21 then zI (zI f 8 false) 256 true else if v=22 then zI (zI f 1 false) 2 false else if v=23 then zI f 4 false
 else if v=24 then zI (zI f 8 false) 256 false else if v=25 then zI f 16 false else if v=27 then zI f 32 false else if v=28 then zI f 64 false
 else if v=29 then zI f 128 false else if v=53 then zI f 512 true else if v=55 then zI f 512 false else f
def iV(c:Col)(v:Int):Col:=if v=39 then⟨0,0⟩else if 30≤v∧v≤37 then⟨1,v-30⟩else if 90≤v∧v≤97 then⟨1,v-82⟩else c
def iX(c:Col)(v:Int):Col:=if v=49 then⟨0,0⟩else if 40≤v∧v≤47 then⟨1,v-40⟩else if 100≤v∧v≤107 then⟨1,v-92⟩else c
def nP(a:Atr)(v:Int)(g:List Int):Atr:=
 if v=0 then zY else⟨(iV ⟨a.fk,a.fn⟩ v).k,(iV ⟨a.fk,a.fn⟩ v).n,(iX ⟨a.bk,a.bn⟩ v).k,(iX ⟨a.bk,a.bn⟩ v).n,pO a.fl v g⟩
def tY(a:Atr)(v:Int)(c:Option Col):Atr:=match c with
 |none=>a
 |some c=>if v=38 then{a with fk:=c.k,fn:=c.n}else{a with bk:=c.k,bn:=c.n}
def eB(a:Atr)(l:List (List Int))(i:Nat):Atr×Nat:=
 if yG l i=38∨yG l i=48 then(tY a (yG l i) (eH l i).1,(eH l i).2)else(nP a (yG l i) (l.getD i []),i+1)
theorem mO(a:Atr)(l:List (List Int))(i:Nat):i<(eB a l i).2:=by
 unfold eB
 split
 · unfold eH;simp only[]
   split
   · split
     · exact Nat.lt_succ_self _
     split
     · exact Nat.lt_succ_self _
     · exact Nat.lt_succ_self _
   split
   · show i<i+3;omega
   split
   · show i<i+5;omega
   · show i<i+2;omega
 · exact Nat.lt_succ_self _
def cE:Nat→Atr→List (List Int)→Nat→Atr
 |0,a,_,_=>a
 |n+1,a,l,i=>if i<l.length then cE n (eB a l i).1 l (eB a l i).2 else a
def dO(a:Atr)(l:List (List Int)):Atr:=cE l.length a l 0
theorem iM(l:List (List Int)):∀(n:Nat) (a:Atr) (i:Nat),l.length≤i→cE n a l i=a
 |0,_,_,_=>rfl
 |n+1,a,i,h=>by unfold cE;rw[if_neg qJ]
theorem aA(l:List (List Int)):∀(n k:Nat) (a:Atr) (i:Nat),l.length≤n+i→cE (n+k) a l i=cE n a l i
 |0,k,a,i,h=>by rw[iM l _ a i qJ,iM l _ a i qJ]
 |n+1,k,a,i,h=>by
  rw[show n+1+k=(n+k)+1 by omega];unfold cE
  split
  · exact aA l n k _ _ (by have :=mO a l i;omega)
  · rfl
theorem aT(l:List (List Int))(a:Atr)(i:Nat)(h:i<l.length):cE l.length a l i=cE l.length (eB a l i).1 l (eB a l i).2:=by
 obtain⟨n,hn⟩:∃n,l.length=n+1:=⟨l.length-1,by omega⟩;have e:=aA l n 1 (eB a l i).1 (eB a l i).2 (by have :=mO a l i;omega);rw[hn,e];show(if i<l.length then cE n (eB a l i).1 l (eB a l i).2 else a)=_;rw[if_pos h]
def zZ(f:Int):Prop:=0≤f∧f<1024
def kX(c:Cl):List Value:=[.int .i32 c.r,.string c.more,.int .i64 c.half,.int .i64 c.fk,.int .i64 c.fn,.int .i64 c.bk,.int .i64 c.bn,.int .i64 c.fl]
theorem vF:∀c,(kX c).length=8:=fun _=>rfl
theorem gL:∀c,∀v∈kX c,v.oneCell'=true:=fun c v hv=>by
 simp only[kX,kW,List.not_mem_nil,or_false]at hv;rcases hv with rfl|rfl|rfl|rfl|rfl|rfl|rfl|rfl<;>rfl
theorem uD:(jG.info? 154).map (·.size)=some 8:=by kernel_rfl
theorem bU(c:Cl):(kX c).toArray.all (·.oneCell')=true:=all_oneCell_toArray (gL c)
theorem QU{fn:Func}{p:Tmp}(hr:fn.results=#[.cell p 154])(tmps:Array Value)(w:World)(b:Nat)(c:Cl)(hp:tmps.getD p undef=.pointer (some ⟨b,0,none⟩))(h:w.rangeAt b 0 (kX c)):
 (results fn tmps).run jG w=.ok (clV c) w:=by
 rw[lS hr,hp];have :=run_loadVar_mid (P:=jG) w b 0 154 (kX c) _ h uH rfl uD;simp only[asAddr,Sem.run_pure,Result.andThen_ok,this];rfl
theorem kA{w:World}{g:Nat}{cs:List Value}{t:TypeId}(h:w.heap[g]? =some (.cells cs.toArray t (0,0))):w.rangeAt g 0 cs:=fun j v hj=>by rw[kB];exact(kC h j v hj).1
def JC(c:Cl)(w:World)(e:Ending)(w':World):Prop:=e=.returned (clV c)∧Below w.heap.size w w'
set_option maxHeartbeats 1600000 in
theorem JV(a:Atr)(w:World):Calls jG 288 #[.agg #[.int .i64 a.fk,.int .i64 a.fn,.int .i64 a.bk,.int .i64 a.bn,.int .i64 a.fl]] w (JC (pM a) w):=by
 go_enter Tryz.func288,Tryz.ntmps288
 go_wp2
 exact bodyPost_ret (QU rfl _ _ (w.heap.size+1) (pM a) rfl (kA (kZ qV))) rfl ⟨rfl,jW (jW (jU _ _) _) _⟩
set_option maxHeartbeats 1600000 in
theorem JZ(b:Col)(w:World):Calls jG 286 #[.agg #[.int .i64 b.k,.int .i64 b.n]] w (JC (vD b) w):=by
 have HE:=Hd (fun w=>JV ⟨0,0,b.k,b.n,0⟩ w);have HB0:=Hd (jW (jW (jU w.heap.size w) (.cells #[.int .i64 b.k,.int .i64 b.n] 38)) (.cells (kX (pM ⟨0,0,0,0,0⟩)).toArray 154));have HT0:=Hd (gH (cs:=(kX (pM ⟨0,0,0,0,0⟩)).toArray) (w:=(w.alloc (.cells #[.int .i64 b.k,.int .i64 b.n] 38)).alloc (.cells (kX (pM ⟨0,0,0,0,0⟩)).toArray 154)) (g:=w.heap.size+1) (kZ qV))
 go_enter Tryz.func286,Tryz.ntmps286
 go_wp2_with(first
  |(go_at_call 288;refine(HE.o _).mono ?_;rintro e w1 ⟨rfl,hb⟩;have HB1:=Hd hb;clear hb;have HT1:=Hd (VS HT0.o HB1.o))
  |(refine wpList_store_mid (op:=⟨none,.store 154 (.tmp 2) (.tmp 5),_,_,_,_⟩) rfl 154 (.tmp 2) (.tmp 5) rfl (w.heap.size+1) 0 (kX (vD b)).toArray rfl rfl HT1.o uD (bU (vD b)) ?_))
 exact bodyPost_ret (QU rfl _ _ (w.heap.size+1) (vD b) rfl (World.rangeAt_setCells_same _ _ _ _ HT1.o)) rfl ⟨rfl,yW (jN HB0.o HB1.o) qJ _ _⟩
def xB(a b:Cl):Bool:=decide (a.half=1)&&decide (a={b with half:=1})
set_option maxHeartbeats 1600000 in
theorem Wa(a b:Cl)(w:World):Calls jG 287 #[clV a,clV b] w fun e w'=>e=.returned (.bool (xB a b))∧Below w.heap.size w w':=by
 unfold clV;have HB2:=Hd (jW (jW (jU w.heap.size w) (.cells (kX a).toArray 154)) (.cells (kX {b with half:=1}).toArray 154));have HA2:=Hd (show((w.alloc (.cells (kX a).toArray 154)).alloc (.cells (kX {b with half:=1}).toArray 154)).heap[w.heap.size]? =some (.cells (kX a).toArray 154 (0,0))from uI (kZ rfl));have HC2:=Hd (show((w.alloc (.cells (kX a).toArray 154)).alloc (.cells (kX {b with half:=1}).toArray 154)).heap[w.heap.size+1]? =some (.cells (kX {b with half:=1}).toArray 154 (0,0))from kZ qV)
 by_cases h:a.half=1
 · have hv:xB a b=decide (a={b with half:=1}):=by unfold xB;rw[h];simp
   rw[hv];clear hv;obtain⟨ar,am,ah,a1,a2,a3,a4,a5⟩:=a;obtain rfl:ah=1:=h
   go_enter Tryz.func287,Tryz.ntmps287
   go_upto_region 2 with fail
   refine wp_region_lit ?_;refine zGs (.pointer (some ⟨w.heap.size,2,none⟩)) ?_;refine zGs (.int .i64 1) ?_;refine zGs (.bool true) ?_;refine zG (.bool true) ?_;refine uF qK 154 (.tmp 2) rfl w.heap.size 0 rfl (kX ⟨ar,am,1,a1,a2,a3,a4,a5⟩) _ (kA HA2.o) uH rfl uD ?_;refine zP ?_;refine uF qK 154 (.tmp 3) rfl (w.heap.size+1) 0 rfl (kX {b with half:=1}) _ (kA HC2.o) uH rfl uD ?_;refine zP ?_;refine jM (.bool (decide ((⟨ar,am,1,a1,a2,a3,a4,a5⟩:Cl)={b with half:=1}))) qK (JO _ _ _ _ _ _ (.tmp 10) (.tmp 11) ⟨ar,am,1,a1,a2,a3,a4,a5⟩ {b with half:=1} rfl rfl _) ?_;refine zP ?_;generalize hD:decide ((⟨ar,am,1,a1,a2,a3,a4,a5⟩:Cl)={b with half:=1})=D;have HD:=Hd hD;clear hD
   go_wp2
   go_ret
   exact⟨by rw[←HD.o];rfl,HB2.o⟩
 · have hv:xB a b=false:=by unfold xB;simp[h]
   rw[hv];have h1:(a.half==1)=false:=zb h;clear hv
   go_enter Tryz.func287,Tryz.ntmps287
   go_wp2
   go_ret
   exact⟨rfl,HB2.o⟩
theorem Kg{α:Type}[DecidableEq α]{l m:List α}{k:Nat}{a b:α}(ha:l[k]? =some a)(hb:m[k]? =some b)(h:l.take k=m.take k)(e:a=b):l.take (k+1)=m.take (k+1):=by
 have h1:=(jE.1 ha);have h2:=(jE.1 hb);obtain⟨p1,q1⟩:=h1;obtain⟨p2,q2⟩:=h2;rw[vJ p1,vJ p2,h,q1,q2,e]
theorem qQp{α:Type}{l m:List α}{k:Nat}{a b:α}(ha:l[k]? =some a)(hb:m[k]? =some b)(e:a≠b):l≠m:=by
 rintro rfl;rw[ha]at hb;injection hb with hb
 exact e hb
set_option maxHeartbeats 1600000 in
theorem Jk(A B:Option Addr)(l m:List Cl)(ca cb:Nat)(w:World)(hl:XU w A l)(hm:XU w B m)(hz:l.length≤9223372036854775807)(hz2:m.length≤9223372036854775807):
 Calls jG 150 #[.slice A l.length ca,.slice B m.length cb] w fun e w'=>e=.returned (.bool (decide (l=m)))∧Below w.heap.size w w':=by
 have HL:=Hd hl;have HM:=Hd hm;clear hl hm
 by_cases hlen:l.length=m.length
 rotate_left
 · have e:decide (l=m)=false:=by simp;rintro rfl;exact hlen rfl
   rw[e];clear e;have h':((l.length:Int) != (m.length:Int))=true:=by simp;omega
   clear hlen
   go_enter Tryz.func150,Tryz.ntmps150
   go_wp2
   go_ret
   exact⟨rfl,jU _ _⟩
 · have HE:=Hd hlen;have h':((l.length:Int) != (m.length:Int))=false:=by simp;omega
   have hle:l.length≤m.length:=by omega
   have hge:m.length≤l.length:=by omega
   clear hlen;generalize hX:decide (l=m)=X;have HX:=Hd hX;clear hX
   go_enter Tryz.func150,Tryz.ntmps150
   go_wp2_with fail
   go_loopw [5] (fun i wr=>∃k:Nat,k≤l.length∧i=.int .i64 k∧Below w.heap.size w wr∧l.take k=m.take k) (fun i _=>l.length-(intOf i).toNat)
   case atStart=>exact⟨0,kT _,rfl,jU _ _,rfl⟩
   case round=>
    obtain⟨k,hk,rfl,hB,htk⟩:=hrel;have HT:=Hd htk;clear htk
    by_cases hlt:k<l.length
    rotate_left
    · go_wp2
      go_ret
      refine⟨?_,hB⟩;have h1:=HT.o;rw[vT qJ,vT qJ]at h1;rw[←HX.o,h1];simp
    · have hltm:k<m.length:=by omega
      obtain⟨b,off,x,rfl,hx,cx⟩:=HL.o.at_ hlt;obtain⟨b',off',y,rfl,hy,cy⟩:=HM.o.at_ hltm;have HXX:=Hd hx;have HYY:=Hd hy;clear hx hy;replace cx:=cx.below hB;replace cy:=cy.below hB;unfold K3 at cx cy
      go_wp2_with fail
      refine jO 8 (fun w'=>Below wr.heap.size wr w'∧(w'.cell? ⟨b,off+k*8,none⟩=some (.int .i32 x.r)∧w'.cell? ⟨b,off+k*8+1,none⟩=some (.string x.more)∧w'.cell? ⟨b,off+k*8+2,none⟩=some (.int .i64 x.half)∧w'.cell? ⟨b,off+k*8+3,none⟩=some (.int .i64 x.fk)∧w'.cell? ⟨b,off+k*8+4,none⟩=some (.int .i64 x.fn)∧w'.cell? ⟨b,off+k*8+5,none⟩=some (.int .i64 x.bk)∧w'.cell? ⟨b,off+k*8+6,none⟩=some (.int .i64 x.bn)∧w'.cell? ⟨b,off+k*8+7,none⟩=some (.int .i64 x.fl))∧(w'.cell? ⟨b',off'+k*8,none⟩=some (.int .i32 y.r)∧w'.cell? ⟨b',off'+k*8+1,none⟩=some (.string y.more)∧w'.cell? ⟨b',off'+k*8+2,none⟩=some (.int .i64 y.half)∧w'.cell? ⟨b',off'+k*8+3,none⟩=some (.int .i64 y.fk)∧w'.cell? ⟨b',off'+k*8+4,none⟩=some (.int .i64 y.fn)∧w'.cell? ⟨b',off'+k*8+5,none⟩=some (.int .i64 y.bk)∧w'.cell? ⟨b',off'+k*8+6,none⟩=some (.int .i64 y.bn)∧w'.cell? ⟨b',off'+k*8+7,none⟩=some (.int .i64 y.fl))) qQ qQ ?_ ?_
      · exact⟨(jU _ _).drew,cx,cy⟩
      simp only[jC,jL,jB,jF]
      repeat(refine kG ?_ qK ?_ ?_;rotate_left;· (intro w' hS;obtain⟨_,_,_⟩:=hS;go_simp;first|done|with_reducible rfl)
             refine zP ?_)
      refine kU (fun w' hS=>?_);have hB4:=hS.1;clear hS;refine aP (.bool (!decide (x=y))) rfl (JI _ _ _ _ _ _ _ _ x y rfl rfl w') ?_
      by_cases hxy:x=y
      · rw[show(!decide (x=y))=false from by simp[hxy]];refine zP ?_;have HXY:=Hd hxy;clear hxy
        go_wp2
        go_roundw
        case rel=>exact⟨k+1,by omega,by go_num,jN hB hB4,Kg HXX.o HYY.o HT.o HXY.o⟩
        case measure=>exact zm
      · rw[show(!decide (x=y))=true from by simp[hxy]];refine zP ?_;have HXY:=Hd hxy;clear hxy
        go_wp2
        go_ret
        refine⟨?_,jN hB hB4⟩;rw[←HX.o,show decide (l=m)=false from by simp;exact qQp HXX.o HYY.o HXY.o];rfl
end Go.Proofs.YtjcpdcncfjkejaaGreatDoor
