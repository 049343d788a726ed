/- Joined by a tool of this claim out of smaller texts. Conditions: as stated. -/
import Derived.Test.YtjcpdcncfjkejaaGreatDoorSx11
import Derived.LoopN
import Derived.Deep.OwnRows
set_option linter.unusedVariables false
set_option linter.unusedSimpArgs false
set_option maxRecDepth 100000
open Go.Lib renaming hid → Hd
open Go.Proofs.Tryz renaming prog → jG, underlying38 → kE, underlying154 → uH, underlying95 → uT, underlying40 → vN
open Go.RowKit.Below renaming refl → jU
open Go.IntWalk renaming i64_in → jH
open List renaming drop_succ_cons → jB, take_succ_cons → jC, getElem?_eq_getElem → jD, drop_zero → jF, take_zero → jL, mem_singleton → jR, getElem?_eq_some_iff → jE, length_append → jI, replicate → kJ, mem_cons → kW, mem_append → kL, length_replicate → kS, append_assoc → uK, length_set → uG, getElem?_append_right → vU, length_take → vH, drop_eq_nil_of_le → vR, take_of_length_le → vT, getElem?_append_left → vE, getElem?_drop → gV
open Go.IntKind renaming i64 → jP
open Nat renaming le_refl → jS, zero_add → kB, zero_le → kT
open Go.World renaming ownsRow → kK, ownsRow_nil → uE
open And renaming intro → kM
open ByteArray renaming empty → kD
open Array renaming getElem?_eq_some_iff → kF
open Int renaming toNat_natCast → uJ
namespace Go.Proofs.YtjcpdcncfjkejaaGreatDoor
open Go.RowKit
section
variable {base:Nat}{w:World}{v:Sv}{s:Sc}{rows cols room:Nat}
set_option maxHeartbeats 1600000 in
theorem X4(a d lo hi:Int)(w:World)(ha: -2000≤a∧a≤2000):Calls jG 124 #[.int .i64 a,.int .i64 d,.int .i64 lo,.int .i64 hi] w fun e w'=>e=.returned (.int .i64 (byS a d lo hi))∧w=w':=by
 have HN:=Hd (fun a b c w=>mQ a b c w);have hn:=zO (n:=d) (lo:= -1000) (hi:=1000) qZ;have hw:jP.wrap (a+uZ d (-1000) 1000)=a+uZ d (-1000) 1000:=jH _ qJ;unfold byS
 go_enter Tryz.func124,Tryz.ntmps124
 go_wp2_with(go_at_call 109;refine(HN.o _ _ _ _).mono ?_;rintro e w1 ⟨rfl,rfl⟩)
 go_ret
 exact⟨rfl,rfl⟩
set_option maxHeartbeats 3200000 in
theorem sGo_any(h:ScO base w v s)(hs:ScN rows cols room s)(hr:rows≤1000)(hc:2≤cols)(hc3:cols≤1000)(dy dx:Int):Calls jG 52 #[.pointer (some ⟨v.S,0,none⟩),.int .i64 dy,.int .i64 dx] w (gQ base w v (goS s dy dx)):=by
 have hx:=hs.inS hc;have hy0:=hs.y0;have hy1:=hs.y1;have hrows:=hs.pg.hrows;have hcl:=hs.pg.hcols;have ht0:=hs.t0;have hb1:=hs.b1;have HRW:=Hd (cF h);rw[hrows]at HRW;have HO:=Hd h;have HG1:=Hd (fun a d lo hi w ha=>X4 a d lo hi w ha);obtain⟨c16,-⟩:=at_ h.blk 16 (.int .i64 s.y) rfl;obtain⟨c18,-⟩:=at_ h.blk 18 (.int .i64 s.top) rfl;obtain⟨c19,-⟩:=at_ h.blk 19 (.int .i64 s.bot) rfl;have hwr:jP.wrap ((rows:Int)-1)=(rows:Int)-1:=jH _ qJ;have hwc:jP.wrap ((cols:Int)-1)=(cols:Int)-1:=jH _ qJ;have hgo:goS s dy dx={s with y:=byS s.y dy (oP s) (nS s),x:=byS (inS s) dx 0 ((cols:Int)-1)}:=by
  unfold goS colsS;rw[hcl];have h1:min (oP s) s.y=oP s:=by unfold oP;split<;>omega
  have h2:max (nS s) s.y=nS s:=by unfold nS rowsS;rw[hrows];split<;>omega
  rw[h1,h2]
 rw[hgo];have HLO:=Hd (show oP s=if s.top≤s.y then s.top else 0 from rfl);have HHI:Hid (nS s=if s.y≤s.bot then s.bot else(rows:Int)-1):=Hd (by unfold nS rowsS;rw[hrows]);have HXI:=Hd hx;have HRC:=Hd (kM hrows hcl);have hng1:¬s.y<0:=by omega
 have hng2:¬(rows:Int)-1<s.y:=by omega
 clear h hs hgo hx hrows hcl hy0 hy1 ht0 hb1
 by_cases hc1:s.top≤s.y
 · by_cases hc2:s.y≤s.bot
   · rw[HLO.o,HHI.o,if_pos hc1,if_pos hc2];have hm1:¬s.y<s.top:=by omega
     have hm2:¬s.bot<s.y:=by omega
     go_enter Tryz.func52,Tryz.ntmps52
     go_upto_region 2 with(go_at_call 110;refine HRW.o.mono ?_;rintro e w1 ⟨rfl,rfl⟩)
     refine zW3 8 c16 c18 c19 fun w' hS=>?_;obtain⟨hb2,c16',c18',c19'⟩:=hS;clear c16 c18 c19
     rename World=>W2
     go_upto_region 4 with fail
     refine jO 8 (fun w'=>Below w.heap.size w w'∧w'.cell? ⟨v.S,16,none⟩=some (.int .i64 s.y)∧w'.cell? ⟨v.S,18,none⟩=some (.int .i64 s.top)∧w'.cell? ⟨v.S,19,none⟩=some (.int .i64 s.bot)) qQ qQ ?_ ?_
     · exact qZy
     simp only[jC,jL,jB,jF]
     repeat first|refine zS ?_|refine zV ?_
     refine kU (fun w' hS=>?_);obtain⟨hb3,c16,c18,c19⟩:=hS;clear hb2 c16' c18' c19'
     rename World=>W3
     go_upto_region 7 with fail
     refine jO 22 (fun w'=>Below w.heap.size w w'∧w'.cell? ⟨v.S,16,none⟩=some (.int .i64 s.y)) qQ qQ ?_ ?_
     · exact⟨hb3.drew,c16⟩
     simp only[jC,jL,jB,jF]
     repeat first|refine zS ?_|((refine kN 124 #[.int .i64 s.y,.int .i64 dy,.int .i64 (s.top),.int .i64 (s.bot)] (.int .i64 (byS s.y dy (s.top) (s.bot))) qK ?_ (fun w' hS=>(HG1.o _ _ _ _ w' qJ).mono fun e w2 ⟨he,hb⟩=>⟨he,hb▸hS⟩) ?_;(focus(intro w2;go_simp;first|done|omega|(constructor<;>intro _<;>omega))));refine zP ?_)|refine zV ?_
     refine kU (fun w' hS=>?_);have HB4:=Hd hS.1;clear hS hb3 c16 c18 c19
     rename World=>W4
     have hO4:=HO.o.below HB4.o;obtain⟨c16,f16⟩:=at_ hO4.blk 16 (.int .i64 s.y) rfl;have hO5:=hO4.put 16 (.int .i64 (byS s.y dy (s.top) (s.bot))) (s':={s with y:=byS s.y dy (s.top) (s.bot)}) rfl rfl rfl;have HIN:=Hd (cG hO5);have HCL:Hid (∀w',Below (W4.setCell ⟨v.S,16,none⟩ (.int .i64 (byS s.y dy (s.top) (s.bot)))).heap.size (W4.setCell ⟨v.S,16,none⟩ (.int .i64 (byS s.y dy (s.top) (s.bot)))) w'→Calls jG 111 #[.pointer (some ⟨v.S,0,none⟩)] w' fun e w2=>e=.returned (.int .i64 cols)∧w'=w2):=Hd (fun w' hb=>by have :=bK (hO5.below hb);rw[show(({s with y:=byS s.y dy (s.top) (s.bot)}:Sc).pg.cols)=cols from HRC.o.2]at this;exact this);have HIE:Hid (inS ({s with y:=byS s.y dy (s.top) (s.bot)}:Sc)=inS s):=Hd rfl;rw[HIE.o]at HIN;have HO5:=Hd hO5;clear hO4 hO5
     go_wp2_with(first
      |(go_at_call 76;refine HIN.o.mono ?_;rintro e w6 ⟨rfl,hb⟩;have HB6:=Hd hb;obtain⟨c17,f17⟩:=at_ (HO5.o.below hb).blk 17 (.int .i64 s.x) rfl;clear hb)
      |(go_at_call 111;refine(HCL.o _ HB6.o).mono ?_;rintro e w7 ⟨rfl,rfl⟩)
      |(go_at_call 124;refine(HG1.o _ _ _ _ _ qV2).mono ?_;rintro e w8 ⟨rfl,rfl⟩))
     go_end0
     exact qZz
   · rw[HLO.o,HHI.o,if_pos hc1,if_neg hc2];have hm1:¬s.y<s.top:=by omega
     have hm2:s.bot<s.y:=by omega
     go_enter Tryz.func52,Tryz.ntmps52
     go_upto_region 2 with(go_at_call 110;refine HRW.o.mono ?_;rintro e w1 ⟨rfl,rfl⟩)
     refine zW3 8 c16 c18 c19 fun w' hS=>?_;obtain⟨hb2,c16',c18',c19'⟩:=hS;clear c16 c18 c19
     rename World=>W2
     go_upto_region 4 with fail
     refine jO 8 (fun w'=>Below w.heap.size w w'∧w'.cell? ⟨v.S,16,none⟩=some (.int .i64 s.y)∧w'.cell? ⟨v.S,18,none⟩=some (.int .i64 s.top)∧w'.cell? ⟨v.S,19,none⟩=some (.int .i64 s.bot)) qQ qQ ?_ ?_
     · exact qZy
     simp only[jC,jL,jB,jF]
     repeat first|refine zS ?_|refine zV ?_
     refine kU (fun w' hS=>?_);obtain⟨hb3,c16,c18,c19⟩:=hS;clear hb2 c16' c18' c19'
     rename World=>W3
     go_upto_region 7 with fail
     refine jO 22 (fun w'=>Below w.heap.size w w'∧w'.cell? ⟨v.S,16,none⟩=some (.int .i64 s.y)) qQ qQ ?_ ?_
     · exact⟨hb3.drew,c16⟩
     simp only[jC,jL,jB,jF]
     repeat first|refine zS ?_|((refine kN 124 #[.int .i64 s.y,.int .i64 dy,.int .i64 (s.top),.int .i64 ((rows:Int)-1)] (.int .i64 (byS s.y dy (s.top) ((rows:Int)-1))) qK ?_ (fun w' hS=>(HG1.o _ _ _ _ w' qJ).mono fun e w2 ⟨he,hb⟩=>⟨he,hb▸hS⟩) ?_;(focus(intro w2;go_simp;first|done|omega|(constructor<;>intro _<;>omega))));refine zP ?_)|refine zV ?_
     refine kU (fun w' hS=>?_);have HB4:=Hd hS.1;clear hS hb3 c16 c18 c19
     rename World=>W4
     have hO4:=HO.o.below HB4.o;obtain⟨c16,f16⟩:=at_ hO4.blk 16 (.int .i64 s.y) rfl;have hO5:=hO4.put 16 (.int .i64 (byS s.y dy (s.top) ((rows:Int)-1))) (s':={s with y:=byS s.y dy (s.top) ((rows:Int)-1)}) rfl rfl rfl;have HIN:=Hd (cG hO5);have HCL:Hid (∀w',Below (W4.setCell ⟨v.S,16,none⟩ (.int .i64 (byS s.y dy (s.top) ((rows:Int)-1)))).heap.size (W4.setCell ⟨v.S,16,none⟩ (.int .i64 (byS s.y dy (s.top) ((rows:Int)-1)))) w'→Calls jG 111 #[.pointer (some ⟨v.S,0,none⟩)] w' fun e w2=>e=.returned (.int .i64 cols)∧w'=w2):=Hd (fun w' hb=>by have :=bK (hO5.below hb);rw[show(({s with y:=byS s.y dy (s.top) ((rows:Int)-1)}:Sc).pg.cols)=cols from HRC.o.2]at this;exact this);have HIE:Hid (inS ({s with y:=byS s.y dy (s.top) ((rows:Int)-1)}:Sc)=inS s):=Hd rfl;rw[HIE.o]at HIN;have HO5:=Hd hO5;clear hO4 hO5
     go_wp2_with(first
      |(go_at_call 76;refine HIN.o.mono ?_;rintro e w6 ⟨rfl,hb⟩;have HB6:=Hd hb;obtain⟨c17,f17⟩:=at_ (HO5.o.below hb).blk 17 (.int .i64 s.x) rfl;clear hb)
      |(go_at_call 111;refine(HCL.o _ HB6.o).mono ?_;rintro e w7 ⟨rfl,rfl⟩)
      |(go_at_call 124;refine(HG1.o _ _ _ _ _ qV2).mono ?_;rintro e w8 ⟨rfl,rfl⟩))
     go_end0
     exact qZz
 · by_cases hc2:s.y≤s.bot
   · rw[HLO.o,HHI.o,if_neg hc1,if_pos hc2];have hm1:s.y<s.top:=by omega
     have hm2:¬s.bot<s.y:=by omega
     go_enter Tryz.func52,Tryz.ntmps52
     go_upto_region 2 with(go_at_call 110;refine HRW.o.mono ?_;rintro e w1 ⟨rfl,rfl⟩)
     refine zW3 8 c16 c18 c19 fun w' hS=>?_;obtain⟨hb2,c16',c18',c19'⟩:=hS;clear c16 c18 c19
     rename World=>W2
     go_upto_region 4 with fail
     refine jO 8 (fun w'=>Below w.heap.size w w'∧w'.cell? ⟨v.S,16,none⟩=some (.int .i64 s.y)∧w'.cell? ⟨v.S,18,none⟩=some (.int .i64 s.top)∧w'.cell? ⟨v.S,19,none⟩=some (.int .i64 s.bot)) qQ qQ ?_ ?_
     · exact qZy
     simp only[jC,jL,jB,jF]
     repeat first|refine zS ?_|refine zV ?_
     refine kU (fun w' hS=>?_);obtain⟨hb3,c16,c18,c19⟩:=hS;clear hb2 c16' c18' c19'
     rename World=>W3
     go_upto_region 7 with fail
     refine jO 22 (fun w'=>Below w.heap.size w w'∧w'.cell? ⟨v.S,16,none⟩=some (.int .i64 s.y)) qQ qQ ?_ ?_
     · exact⟨hb3.drew,c16⟩
     simp only[jC,jL,jB,jF]
     repeat first|refine zS ?_|((refine kN 124 #[.int .i64 s.y,.int .i64 dy,.int .i64 (0),.int .i64 (s.bot)] (.int .i64 (byS s.y dy (0) (s.bot))) qK ?_ (fun w' hS=>(HG1.o _ _ _ _ w' qJ).mono fun e w2 ⟨he,hb⟩=>⟨he,hb▸hS⟩) ?_;(focus(intro w2;go_simp;first|done|omega|(constructor<;>intro _<;>omega))));refine zP ?_)|refine zV ?_
     refine kU (fun w' hS=>?_);have HB4:=Hd hS.1;clear hS hb3 c16 c18 c19
     rename World=>W4
     have hO4:=HO.o.below HB4.o;obtain⟨c16,f16⟩:=at_ hO4.blk 16 (.int .i64 s.y) rfl;have hO5:=hO4.put 16 (.int .i64 (byS s.y dy (0) (s.bot))) (s':={s with y:=byS s.y dy (0) (s.bot)}) rfl rfl rfl;have HIN:=Hd (cG hO5);have HCL:Hid (∀w',Below (W4.setCell ⟨v.S,16,none⟩ (.int .i64 (byS s.y dy (0) (s.bot)))).heap.size (W4.setCell ⟨v.S,16,none⟩ (.int .i64 (byS s.y dy (0) (s.bot)))) w'→Calls jG 111 #[.pointer (some ⟨v.S,0,none⟩)] w' fun e w2=>e=.returned (.int .i64 cols)∧w'=w2):=Hd (fun w' hb=>by have :=bK (hO5.below hb);rw[show(({s with y:=byS s.y dy (0) (s.bot)}:Sc).pg.cols)=cols from HRC.o.2]at this;exact this);have HIE:Hid (inS ({s with y:=byS s.y dy (0) (s.bot)}:Sc)=inS s):=Hd rfl;rw[HIE.o]at HIN;have HO5:=Hd hO5;clear hO4 hO5
     go_wp2_with(first
      |(go_at_call 76;refine HIN.o.mono ?_;rintro e w6 ⟨rfl,hb⟩;have HB6:=Hd hb;obtain⟨c17,f17⟩:=at_ (HO5.o.below hb).blk 17 (.int .i64 s.x) rfl;clear hb)
      |(go_at_call 111;refine(HCL.o _ HB6.o).mono ?_;rintro e w7 ⟨rfl,rfl⟩)
      |(go_at_call 124;refine(HG1.o _ _ _ _ _ qV2).mono ?_;rintro e w8 ⟨rfl,rfl⟩))
     go_end0
     exact qZz
   · rw[HLO.o,HHI.o,if_neg hc1,if_neg hc2];have hm1:s.y<s.top:=by omega
     have hm2:s.bot<s.y:=by omega
     go_enter Tryz.func52,Tryz.ntmps52
     go_upto_region 2 with(go_at_call 110;refine HRW.o.mono ?_;rintro e w1 ⟨rfl,rfl⟩)
     refine zW3 8 c16 c18 c19 fun w' hS=>?_;obtain⟨hb2,c16',c18',c19'⟩:=hS;clear c16 c18 c19
     rename World=>W2
     go_upto_region 4 with fail
     refine jO 8 (fun w'=>Below w.heap.size w w'∧w'.cell? ⟨v.S,16,none⟩=some (.int .i64 s.y)∧w'.cell? ⟨v.S,18,none⟩=some (.int .i64 s.top)∧w'.cell? ⟨v.S,19,none⟩=some (.int .i64 s.bot)) qQ qQ ?_ ?_
     · exact qZy
     simp only[jC,jL,jB,jF]
     repeat first|refine zS ?_|refine zV ?_
     refine kU (fun w' hS=>?_);obtain⟨hb3,c16,c18,c19⟩:=hS;clear hb2 c16' c18' c19'
     rename World=>W3
     go_upto_region 7 with fail
     refine jO 22 (fun w'=>Below w.heap.size w w'∧w'.cell? ⟨v.S,16,none⟩=some (.int .i64 s.y)) qQ qQ ?_ ?_
     · exact⟨hb3.drew,c16⟩
     simp only[jC,jL,jB,jF]
     repeat first|refine zS ?_|((refine kN 124 #[.int .i64 s.y,.int .i64 dy,.int .i64 (0),.int .i64 ((rows:Int)-1)] (.int .i64 (byS s.y dy (0) ((rows:Int)-1))) qK ?_ (fun w' hS=>(HG1.o _ _ _ _ w' qJ).mono fun e w2 ⟨he,hb⟩=>⟨he,hb▸hS⟩) ?_;(focus(intro w2;go_simp;first|done|omega|(constructor<;>intro _<;>omega))));refine zP ?_)|refine zV ?_
     refine kU (fun w' hS=>?_);have HB4:=Hd hS.1;clear hS hb3 c16 c18 c19
     rename World=>W4
     have hO4:=HO.o.below HB4.o;obtain⟨c16,f16⟩:=at_ hO4.blk 16 (.int .i64 s.y) rfl;have hO5:=hO4.put 16 (.int .i64 (byS s.y dy (0) ((rows:Int)-1))) (s':={s with y:=byS s.y dy (0) ((rows:Int)-1)}) rfl rfl rfl;have HIN:=Hd (cG hO5);have HCL:Hid (∀w',Below (W4.setCell ⟨v.S,16,none⟩ (.int .i64 (byS s.y dy (0) ((rows:Int)-1)))).heap.size (W4.setCell ⟨v.S,16,none⟩ (.int .i64 (byS s.y dy (0) ((rows:Int)-1)))) w'→Calls jG 111 #[.pointer (some ⟨v.S,0,none⟩)] w' fun e w2=>e=.returned (.int .i64 cols)∧w'=w2):=Hd (fun w' hb=>by have :=bK (hO5.below hb);rw[show(({s with y:=byS s.y dy (0) ((rows:Int)-1)}:Sc).pg.cols)=cols from HRC.o.2]at this;exact this);have HIE:Hid (inS ({s with y:=byS s.y dy (0) ((rows:Int)-1)}:Sc)=inS s):=Hd rfl;rw[HIE.o]at HIN;have HO5:=Hd hO5;clear hO4 hO5
     go_wp2_with(first
      |(go_at_call 76;refine HIN.o.mono ?_;rintro e w6 ⟨rfl,hb⟩;have HB6:=Hd hb;obtain⟨c17,f17⟩:=at_ (HO5.o.below hb).blk 17 (.int .i64 s.x) rfl;clear hb)
      |(go_at_call 111;refine(HCL.o _ HB6.o).mono ?_;rintro e w7 ⟨rfl,rfl⟩)
      |(go_at_call 124;refine(HG1.o _ _ _ _ _ qV2).mono ?_;rintro e w8 ⟨rfl,rfl⟩))
     go_end0
     exact qZz
theorem rO(h:ScO base w v s):Calls jG 28 #[.pointer (some ⟨v.S,0,none⟩)] w fun e w'=>e=.returned (.pointer (some ⟨v.T,0,none⟩))∧w=w':=by
 obtain⟨x0,-⟩:=at_ h.blk 15 (.pointer (some ⟨v.T,0,none⟩)) rfl;clear h
 go_enter Tryz.func28,Tryz.ntmps28
 go_wp2
 go_ret
 exact⟨rfl,rfl⟩
set_option maxHeartbeats 1600000 in
theorem Vg(h:ScO base w v s)(p wr hm:Bool):Calls jG 90 #[.pointer (some ⟨v.S,0,none⟩),.agg #[.bool p,.bool wr,.bool hm]] w (gQ base w v {s with pen:={s.pen with put:=p,wrap:=wr,home:=hm}}):=by
 have hb:=jW (jU w.heap.size w) (.cells #[.bool p,.bool wr,.bool hm] 45);have hO:=h.below hb;obtain⟨c11,f11⟩:=at_ hO.blk 11 (.bool s.pen.put) rfl;obtain⟨c12,f12⟩:=at_ hO.blk 12 (.bool s.pen.wrap) rfl;obtain⟨c13,f13⟩:=at_ hO.blk 13 (.bool s.pen.home) rfl;have HO:=Hd hO;have HB:=Hd hb;clear h hO hb
 go_enter Tryz.func90,Tryz.ntmps90
 go_wp2
 go_end0
 exact⟨rfl,uR.pre HB.o ⟨v,rfl,rfl,rfl,((HO.o.put 11 _ (s':={s with pen:={s.pen with put:=p}}) rfl rfl rfl).put 12 _ (s':={s with pen:={s.pen with put:=p,wrap:=wr}}) rfl rfl rfl).put 13 _ rfl rfl rfl,((ScO.mod_put (v:=v) 11 _).trans (ScO.mod_put (v:=v) 12 _) (fun _ hb=>.inl hb)).trans (ScO.mod_put (v:=v) 13 _) (fun _ hb=>.inl hb),fun _ hb=>.inl hb⟩⟩
end
section
variable {base:Nat}{w:World}{v:Sv}{s:Sc}{rows cols room:Nat}
theorem oC(g:Pg)(y x z:Int)(b:Col):(yU g y x z b).cols=g.cols:=by
 unfold yU
 split
 · split
   · split
     · rw[(bR _ _ _).2.2.1,(bR _ _ _).2.2.1];exact(eQ _ _).2
     · rw[(bR _ _ _).2.2.1];exact(eQ _ _).2
   · exact(eQ _ _).2
 · rfl
theorem QD(s:Sc)(y:Int):∀n,(iO s y n).pg.cols=s.pg.cols
 |0=>rfl
 |n+1=>(eQ _ _).2.trans (QD s y n)
theorem rC(s:Sc):∀n,(zL s n).pg.cols=s.pg.cols
 |0=>rfl
 |n+1=>(QD _ _ _).trans ((oC _ _ _ _ _).trans (rC s n))
set_option maxHeartbeats 3200000 in
theorem Ui(h:ScO base w v s):Calls jG 71 #[.pointer (some ⟨v.S,0,none⟩)] w (gQ base w v (eE s)):=by
 have hR3:s.pg.scr.length≤1000:=by rw[←h.page.len];exact h.page.rows1000
 have hC3:=h.page.cols1000;have HWH:=Hd (QJ h);have HO:=Hd h;unfold eE;clear h
 go_enter Tryz.func71,Tryz.ntmps71
 go_upto_region 2 with(go_at_call 95;refine HWH.o.mono ?_;rintro e w2 ⟨rfl,hs⟩;have HS2:=Hd hs;clear hs)
 rename World=>W2
 have HRW:Hid (Calls jG 110 #[.pointer (some ⟨v.S,0,none⟩)] W2 fun e w3=>e=.returned (.int .i64 s.pg.scr.length)∧W2=w3):=Hd (by
  obtain⟨v2,e1,-,-,hO2,-,-⟩:=HS2.o;have hc:=cF hO2;rw[e1]at hc;exact hc)
 go_upto_region 3 with(go_at_call 110;refine HRW.o.mono ?_;rintro e w3 ⟨rfl,rfl⟩)
 clear HWH HRW HO;generalize hq:s.pg.scr.length=R at *;generalize hc:s.pg.cols=C at *;have HC:=Hd hc;clear hq hc
 go_loopw [10] (fun s10 wr=>∃z:Nat,s10=.int .i64 z∧z≤R∧uR base w v (zL (dK s) z) wr) (fun s10 _=>R-(intOf s10).toNat)
 case atStart=>exact⟨0,rfl,kT _,HS2.o⟩
 case round=>
  obtain⟨z,rfl,hz,hs⟩:=hrel;have HS:=Hd hs;clear hs HS2
  by_cases hlt:z<R
  rotate_left
  · obtain rfl:z=R:=by omega
    have hltI:¬(z:Int)<(z:Int):=by omega
    obtain⟨v0,e1,e2,e3,hO0,hm0,hx0⟩:=HS.o;have HP:Hid (Calls jG 78 #[.pointer (some ⟨v.S,0,none⟩),.int .i64 0,.int .i64 0] wr (gQ base wr v0 (fM (zL (dK s) z) 0 0))):=Hd (by rw[←e1];exact sQ hO0 0 0);have HE0:=Hd (show v0.S=v.S∧v0.T=v.T∧v0.q.P=v.q.P∧Mod (scX v) w wr∧∀b∈scX v0,b∈scX v∨w.heap.size≤b from⟨e1,e2,e3,hm0,hx0⟩);clear e1 e2 e3 hO0 hm0 hx0 HS
    go_wp2_with(go_at_call 78;refine HP.o.mono ?_;rintro e w9 ⟨rfl,hp⟩;have HP9:=Hd hp;clear hp)
    go_end0
    exact⟨rfl,uR.trans HE0.o HP9.o⟩
  · have hltI:(z:Int)<(R:Int):=by omega
    have hwa:jP.wrap ((z:Int)+1)=(z:Int)+1:=jH _ qJ;obtain⟨v0,e1,e2,e3,hO0,hm0,hx0⟩:=HS.o;have HE0:=Hd (show v0.S=v.S∧v0.T=v.T∧v0.q.P=v.q.P∧Mod (scX v) w wr∧∀b∈scX v0,b∈scX v∨w.heap.size≤b from⟨e1,e2,e3,hm0,hx0⟩);have HSM:Hid ((zL (dK s) z).pg.cols=C):=Hd ((rC _ _).trans HC.o);have HFN:Hid (zL (dK s) (z+1)=iO {zL (dK s) z with pg:=yU (zL (dK s) z).pg (z:Int) 0 (C:Int) ⟨0,0⟩} z C):=Hd (by rw[←HC.o];rfl);clear hm0 hx0 e2 e3 HS;generalize zL (dK s) z=t at hO0 HSM HFN;obtain⟨ts,-⟩:=at_ hO0.blk 14 (.pointer (some ⟨v0.q.P,0,none⟩)) rfl;have HOT:=Hd hO0;have HCL:Hid (∀w',Below wr.heap.size wr w'→Calls jG 111 #[.pointer (some ⟨v.S,0,none⟩)] w' fun e w2=>e=.returned (.int .i64 C)∧w'=w2):=Hd (fun w' hb=>by rw[←e1,←HSM.o];exact bK (HOT.o.below hb));have HPC:Hid (∀w',Below wr.heap.size wr w'→Calls jG 126 #[.pointer (some ⟨v0.q.P,0,none⟩),.int .i64 (z:Int),.int .i64 0,.int .i64 C,.agg #[.int .i64 0,.int .i64 0]] w' (gY base w' v0.q (yU t.pg (z:Int) 0 C ⟨0,0⟩))):=Hd (fun w' hb=>lJ (HOT.o.below hb).page _ _ _ ⟨_,_⟩);rw[e1]at ts;clear hO0 e1
    go_upto_region 5 with fail
    refine zU1 8 ts ?_
    repeat first|refine zS ?_|refine zC0 (zE HCL.o) ?_|refine zV ?_
    refine kU (fun w' hS=>?_);have HBT:=Hd hS.1;clear hS ts
    go_upto_region 6 with(go_at_call 126;refine(HPC.o _ HBT.o).mono ?_;rintro e w9 ⟨rfl,hp⟩;have HP9:=Hd hp;clear hp)
    rename World=>W9
    have HR9:=Hd (uR.trans HE0.o (uR.pre HBT.o ((HOT.o.below HBT.o).paged HP9.o)));have HCL9:Hid (Calls jG 111 #[.pointer (some ⟨v.S,0,none⟩)] W9 fun e w2=>e=.returned (.int .i64 C)∧W9=w2):=Hd (by
     obtain⟨v9,e1,-,-,hO9,-,-⟩:=HR9.o;rw[←e1,←(oC t.pg z 0 C ⟨0,0⟩).trans HSM.o];exact bK hO9)
    have HT:Hid ((yU t.pg z 0 C ⟨0,0⟩).cols=C):=Hd ((oC t.pg z 0 C ⟨0,0⟩).trans HSM.o);clear HSM HPC HCL HBT HP9 HOT HE0;generalize {t with pg:=yU t.pg (z:Int) 0 (C:Int) ⟨0,0⟩}=u at HFN HR9
    go_upto_region 7 with(go_at_call 111;refine HCL9.o.mono ?_;rintro e w3 ⟨rfl,rfl⟩)
    clear HCL9
    go_loopw [24] (fun s24 wi=>∃x:Nat,s24=.int .i64 x∧x≤C∧uR base w v (iO u z x) wi) (fun s24 _=>C-(intOf s24).toNat)
    case atStart=>exact⟨0,rfl,kT _,HR9.o⟩
    case round=>
     obtain⟨x,rfl,hx,hs⟩:=hrel;have HS:=Hd hs;clear hs HR9
     by_cases hlx:x<C
     rotate_left
     · obtain rfl:x=C:=by omega
       have hlxI:¬(x:Int)<(x:Int):=by omega
       go_wp2
       go_roundw
       case rel=>
        refine⟨z+1,by go_num,by omega,?_⟩;rw[HFN.o];exact HS.o
       case measure=>exact zm
     · have hlxI:(x:Int)<(C:Int):=by omega
       have hwx:jP.wrap ((x:Int)+1)=(x:Int)+1:=jH _ qJ;obtain⟨v1,e1,e2,e3,hO1,hm1,hx1⟩:=HS.o;have HE1:=Hd (show v1.S=v.S∧v1.T=v.T∧v1.q.P=v.q.P∧Mod (scX v) w wr∧∀b∈scX v1,b∈scX v∨w.heap.size≤b from⟨e1,e2,e3,hm1,hx1⟩);obtain⟨ts,-⟩:=at_ hO1.blk 14 (.pointer (some ⟨v1.q.P,0,none⟩)) rfl;rw[e1]at ts;have HO1:=Hd hO1;have HPT:Hid (Calls jG 140 #[.pointer (some ⟨v1.q.P,0,none⟩),.int .i64 (z:Int),.int .i64 (x:Int),.int .i32 69,.agg #[.int .i64 0,.int .i64 0,.int .i64 0,.int .i64 0,.int .i64 0]] wr (gY base wr v1.q (pW (iO u z x).pg z (fun l=>dS l x 69 zY)))):=Hd (ZB hO1.page z x 69 zY);clear e1 e2 e3 hO1 hm1 hx1 HS
       go_wp2_with(go_at_call 140;refine HPT.o.mono ?_;rintro e w9 ⟨rfl,hp⟩;have HP9:=Hd hp;clear hp)
       go_roundw
       case rel=>
        refine⟨x+1,by go_num,by omega,?_⟩;exact uR.trans HE1.o (HO1.o.paged HP9.o)
       case measure=>exact zm
end
section
variable {base:Nat}{w:World}{v:Sv}{s:Sc}{rows cols room:Nat}
theorem ScO.puts{s':Sc}(h:ScO base w v s)(o:Nat)(vs:List Value)(ho:o+vs.length≤38)(he:(lX s v.q.P v.T).take o++(vs++(lX s v.q.P v.T).drop (o+vs.length))=lX s' v.q.P v.T)(hp:s'.pg=s.pg)(ht:s'.st=s.st):
 ScO base (w.setCells v.S o vs) v s'∧Mod (scX v) w (w.setCells v.S o vs):=by
 have hM:Mod [v.S] w (w.setCells v.S o vs):=gM (.inl qV) vs o w (Mod.refl _ _);refine⟨⟨?_,h.hb,?_,?_⟩,hM.mono (fun b hb=>by rw[jR.1 hb];simp[scX])⟩
 · rw[←he];exact uB vs o _ w h.blk (by show _≤38;exact ho)
 · rw[hp];exact qZr
 · rw[ht];exact h.tabs.mod hM (fun b hb hx=>h.nt qJw)
theorem ScO.there(h:ScO base w v s){o n:Nat}(ho:o+n≤38):w.there v.S o n:=fun j hj=>by
 have :=gH h.blk (o+j) (by show o+j<38;omega);rw[kB]at this;exact this
theorem rY:(jG.info? 106).map (·.size)=some 16:=by kernel_rfl
def keL(p:Pe)(y x:Int):List Value:=[.int .i64 p.at_.fk,.int .i64 p.at_.fn,.int .i64 p.at_.bk,.int .i64 p.at_.bn,.int .i64 p.at_.fl,.int .i64 p.ch.g0,.int .i64 p.ch.g1,.int .i64 p.ch.g2,.int .i64 p.ch.g3,.int .i64 p.ch.use,.int .i64 p.ch.once,.bool p.put,.bool p.wrap,.bool p.home,.int .i64 y,.int .i64 x]
theorem VY(p:Pe)(y x:Int):∀v∈keL p y x,v.oneCell'=true:=fun v hv=>by
 simp only[keL,kW,List.not_mem_nil,or_false]at hv;rcases hv with rfl|rfl|rfl|rfl|rfl|rfl|rfl|rfl|rfl|rfl|rfl|rfl|rfl|rfl|rfl|rfl<;>rfl
set_option maxHeartbeats 1600000 in
theorem Xv(h:ScO base w v s)(c:Ch):Calls jG 91 #[.pointer (some ⟨v.S,0,none⟩),chV c] w (gQ base w v {s with pen:={s.pen with ch:=c}}):=by
 obtain⟨g0,g1,g2,g3,u,o⟩:=c;unfold chV;simp only[];have hb:=jW (jU w.heap.size w) (.cells #[.int .i64 g0,.int .i64 g1,.int .i64 g2,.int .i64 g3,.int .i64 u,.int .i64 o] 43);have hO:=h.below hb;obtain⟨c5,f5⟩:=at_ hO.blk 5 (.int .i64 s.pen.ch.g0) rfl;obtain⟨c6,f6⟩:=at_ hO.blk 6 (.int .i64 s.pen.ch.g1) rfl;obtain⟨c7,f7⟩:=at_ hO.blk 7 (.int .i64 s.pen.ch.g2) rfl;obtain⟨c8,f8⟩:=at_ hO.blk 8 (.int .i64 s.pen.ch.g3) rfl;obtain⟨c9,f9⟩:=at_ hO.blk 9 (.int .i64 s.pen.ch.use) rfl;obtain⟨c10,f10⟩:=at_ hO.blk 10 (.int .i64 s.pen.ch.once) rfl;have HO:=Hd hO;have HB:=Hd hb;clear h hO hb
 go_enter Tryz.func91,Tryz.ntmps91
 go_wp2
 go_end0
 have hp:=HO.o.puts 5 (vI ⟨g0,g1,g2,g3,u,o⟩) (by show 5+6≤38;omega) (s':={s with pen:={s.pen with ch:=⟨g0,g1,g2,g3,u,o⟩}}) rfl rfl rfl;exact⟨rfl,uR.pre HB.o ⟨v,rfl,rfl,rfl,hp.1,hp.2,fun _ hb=>.inl hb⟩⟩
set_option maxHeartbeats 3200000 in
theorem Xk(h:ScO base w v s):Calls jG 73 #[.pointer (some ⟨v.S,0,none⟩)] w (gQ base w v (fW s)):=by
 have HF:=Hd (fun w=>rT w);have HO:=Hd h;clear h
 go_enter Tryz.func73,Tryz.ntmps73
 go_upto_region 1 with fail
 refine wp_region_lit ?_;refine zG (.pointer (some ⟨v.S,0,none⟩)) ?_;refine zG (.pointer (some ⟨v.S,0,none⟩)) ?_;refine zG (.pointer (some ⟨v.S,0,none⟩)) ?_;refine zG (.pointer (some ⟨v.S,0,none⟩)) ?_;refine gC rfl 77 #[] qY (HF.o _) (.agg (peL vW).toArray) (fun e w' h=>h.1) ?_;rintro w1 ⟨-,hb⟩;have HB:=Hd hb;refine zP ?_;refine jM (.agg (keL bH 0 0).toArray) qK qJ9 ?_;refine zP ?_;refine zGs (.pointer (some ⟨v.S,0,none⟩)) ?_;refine zGs (.pointer (some ⟨v.S,0,none⟩)) ?_;have hO1:=HO.o.below hb;refine wpList_store_mid rfl 104 (.tmp 11) (.tmp 8) rfl (v.S) (0) ((peL vW).toArray) rfl rfl (hO1.there qVt) oW (all_oneCell_toArray (iY _)) ?_;simp only[Act.put];have hO2:=hO1.puts 0 (peL vW) qVt (s':={s with pen:=vW}) rfl rfl rfl;change wpList _ _ _ _ _ (w1.setCells v.S 0 (peL vW));have HM2:=Hd hO2.2;replace hO2:=hO2.1;generalize w1.setCells v.S 0 (peL vW)=W2 at hO2 HM2 ⊢;refine zGs (.pointer (some ⟨v.S,0,none⟩)) ?_;refine zGs (.pointer (some ⟨v.S,20,none⟩)) ?_;refine wpList_store_mid rfl 106 (.tmp 13) (.tmp 9) rfl (v.S) (20) ((keL bH 0 0).toArray) rfl rfl (hO2.there qVn) rY (all_oneCell_toArray (VY _ _ _)) ?_;simp only[Act.put]
 have hO3:=hO2.puts 20 (keL bH 0 0) qVn (s':={s with pen:=vW,sp:=bH,sy:=0,sx:=0}) rfl rfl rfl;change wpList _ _ _ _ _ (W2.setCells v.S 20 (keL bH 0 0));have HM3:=Hd hO3.2;replace hO3:=hO3.1;generalize W2.setCells v.S 20 (keL bH 0 0)=W3 at hO3 HM3 ⊢;obtain⟨c36,f36⟩:=at_ hO3.blk 36 (.bool s.has) rfl;obtain⟨c37,f37⟩:=at_ hO3.blk 37 (.int .i32 s.last) rfl;have hO5:=(hO3.put 36 (.bool false) (s':={s with pen:=vW,sp:=bH,sy:=0,sx:=0,has:=false}) rfl rfl rfl).put 37 (.int .i32 0) (s':={s with pen:=vW,sp:=bH,sy:=0,sx:=0,has:=false,last:=0}) rfl rfl rfl;have HWH:=Hd (QJ hO5);have HMM:=Hd (((Mod.of_below hb).trans (HM2.o.trans HM3.o (fun _ hb=>.inl hb)) (fun _ hb=>.inl hb)).trans ((ScO.mod_put (w:=W3) (v:=v) 36 (.bool false)).trans (ScO.mod_put (v:=v) 37 (.int .i32 0)) (fun _ hb=>.inl hb)) (fun _ hb=>.inl hb));clear hO1 hO2 hO3 hO5 hb
 go_wp2_with(go_at_call 95;refine HWH.o.mono ?_;rintro e w9 ⟨rfl,hs⟩;have HS9:=Hd hs;clear hs)
 go_end0
 exact⟨rfl,uR.trans ⟨rfl,rfl,rfl,HMM.o,fun _ hb=>.inl hb⟩ HS9.o⟩
end
section
variable {base:Nat}{w:World}{v:Sv}{s:Sc}
theorem Wr.sci{rows cols room i:Nat}(h:Wr rows cols room i s)(h0:1≤rows):ScI s:=by
 obtain⟨a,y,x,e1,e2,e3,e4,e5,e6,e7,e8⟩:=h.a;refine⟨by omega,?_,by omega,?_,?_,?_,?_⟩
 · rw[h.inv.hrows];omega
 · rw[h.inv.hcols];omega
 · rw[h.top];omega
 · rw[h.top,h.bot];omega
 · rw[h.bot,h.inv.hrows];omega
theorem QF{rows cols room i:Nat}{s0:Sc}{wr:World}(hw:∀n,Wr rows cols room n (wrS s0 n))(h0:1≤rows)(hi:i≤1000)(hs:uR base w v (wrS s0 i) wr):Calls jG 33 #[.pointer (some ⟨v.S,0,none⟩),.int .i32 (97+(i:Int)%26)] wr (fun e w'=>e=.returned (.tuple #[])∧uR base w v (wrS s0 (i+1)) w'):=by
 obtain⟨v1,e1,e2,e3,hO,hm,hx⟩:=hs;have ht:=(hw i).told;rw[←e1];exact(QK hO ((hw i).sci h0) qJ (97+(i:Int)%26)).mono fun e w' hp=>⟨hp.1,uR.trans ⟨e1,e2,e3,hm,hx⟩ hp.2⟩
theorem Xy(s:Sc)(w:World):(Instr.field 47 (.agg (stL s).toArray) 0).run jG w=.ok (.agg #[.int .i64 s.y,.int .i64 s.x]) w:=by
 have h:=Tryz.underlying47;have ha:=Tryz.isAgg36 w;have hs:=Tryz.sizeOf36 w;have e:(Instr.field 47 (.agg (stL s).toArray) 0).run jG w=.ok (.agg ((stL s).toArray.extract 0 2)) w:=by
  simp[Instr.field,part,run_underlying h,asAgg,ha,hs,Result.andThen,go_sem]
 rw[e];rfl
theorem row_in{q:Pv}{g:Pg}(h:PgO base w q g)(i:Nat)(r:Ro)(hr:(g.hist++g.scr)[i]? =some r):Calls jG 34 #[.pointer (some ⟨q.P,0,none⟩),.int .i64 i] w (tT r w):=by
 by_cases hc:i<g.hist.length
 · exact WD h i r (by rwa[vE hc]at hr)
 · rw[vU qJ]at hr;exact qQi h i (i-g.hist.length) r qJ hr
def eO(w:World)(e:Ending)(w':World):Prop:=e=.returned (.bool true)∧Below w.heap.size w w'
set_option maxHeartbeats 3200000 in
theorem cY(w:World):Calls jG 10 #[] w (eO w):=by
 have HN:=Hd (fun w=>aG 2 3 5 w qZ qZ qZ qZ qZ);obtain⟨s0,hs0⟩:∃s0,lA 2 3 5 (bN [] 3)=s0:=⟨_,rfl⟩;have hw:∀n,Wr 2 3 5 n (wrS s0 n):=K5 (by rw[←hs0];exact wr_new qZ) qZ qZ;have f3:(wrS s0 3).y=0∧(wrS s0 3).x=3:=by rw[←hs0];exact⟨rfl,rfl⟩
 have f4:(wrS s0 4).y=1∧(wrS s0 4).x=1:=by rw[←hs0];exact⟨rfl,rfl⟩
 have f5:((wrS s0 4).pg.hist++(wrS s0 4).pg.scr)[1]?.map (·.cont)=some true:=by rw[←hs0];rfl
 have HW:=Hd hw;have F3:=Hd f3;have F4:=Hd f4;have F5:=Hd f5;unfold XY at HN;rw[hs0]at HN;clear hw f3 f4 f5 hs0
 go_enter Tryz.func10,Tryz.ntmps10
 go_upto_region 4 with(go_at_call 24;refine(HN.o _).mono ?_;rintro e w1 ⟨v,rfl,hO,hb⟩;have HO:=Hd hO;have HB:=Hd hb;clear hO hb)
 rename World=>W1
 obtain⟨W2,hW2⟩:∃W2,W1.alloc (.cells #[.int .i32 97,.int .i32 98,.int .i32 99] 21)=W2:=⟨_,rfl⟩;have hb2:Below W1.heap.size W1 W2:=by rw[←hW2];exact jW (jU _ _) _
 have HNW:=Hd (show W2.heap[W1.heap.size]? =some (.cells #[.int .i32 97,.int .i32 98,.int .i32 99] 21 (0,0))from by rw[←hW2];exact kZ rfl);have HO2:=Hd (HO.o.below hb2);have HB2:=Hd (jN HB.o hb2);have HNX:=Hd (show W1.heap.size∉scX v from fun hx=>by have :=(HO.o.lt _ hx).2;omega);have HRS:=Hd hW2;clear hb2 hW2
 go_wp2_with fail
 rw[HRS.o]
 go_loopw [4,20] (fun _ s20 wr=>∃i:Nat,s20=.int .i64 i∧i≤3∧uR w.heap.size W2 v (wrS s0 i) wr) (fun _ s20 _=>3-(intOf s20).toNat)
 case atStart=>exact⟨0,rfl,by decide,HO2.o.res⟩
 case round=>
  obtain⟨i,rfl,hi,hs⟩:=hrel;have HS:=Hd hs;have HC:=Hd (fun k u (h:W2.cell? ⟨W1.heap.size,k,none⟩=some u)=>(show Mod (scX v) W2 wr from by obtain⟨-,-,-,-,-,hm,-⟩:=hs;exact hm).cell HNX.o h);clear hs
  by_cases hlt:i<3
  · have HP:=Hd (QF HW.o qZ qJ HS.o);have HBI:i=0∨i=1∨i=2:=by omega
    rcases HBI with rfl|rfl|rfl
    all_goals
     have c0:=HC.o 0 _ (at_ HNW.o 0 _ rfl).1;have c1:=HC.o 1 _ (at_ HNW.o 1 _ rfl).1;have c2:=HC.o 2 _ (at_ HNW.o 2 _ rfl).1
     first
      |rw[show(97:Int)+((0:Nat):Int)%26=97 from by decide]at HP
      |rw[show(97:Int)+((1:Nat):Int)%26=98 from by decide]at HP
      |rw[show(97:Int)+((2:Nat):Int)%26=99 from by decide]at HP
     go_wp2_with(go_at_call 33;refine HP.o.mono ?_;rintro e w4 ⟨rfl,hs⟩;have HS4:=Hd hs;clear hs)
     go_roundw
     case rel=>exact⟨_,rfl,by decide,HS4.o⟩
     case measure=>simp[intOf]
  · obtain rfl:i=3:=by omega
    have HST:Hid (Calls jG 13 #[.pointer (some ⟨v.S,0,none⟩)] wr (JH (wrS s0 3) wr)):=Hd (by
     obtain⟨v3,e1,-,-,hO3,-⟩:=HS.o;rw[←e1];exact fU hO3)
    unfold JH at HST;have hat:=fun w=>Xy (wrS s0 3) w;simp only[F3.o.1,F3.o.2]at hat;clear HC
    go_upto_region 10 with(go_at_call 13;refine HST.o.mono ?_;rintro e w4 ⟨rfl,hb⟩;have HS4:=Hd (HS.o.post hb);clear hb)
    have HP:=Hd (QF HW.o qZ qZ HS4.o);rw[show(97:Int)+((3:Nat):Int)%26=100 from by decide]at HP
    go_upto_region 11 with(go_at_call 33;refine HP.o.mono ?_;rintro e w5 ⟨rfl,hs⟩;have HS5:=Hd hs;clear hs)
    obtain⟨v5,e1,e2,e3,hO5,hm5,hx5⟩:=HS5.o;obtain⟨r,hr,hrc⟩:∃r,((wrS s0 4).pg.hist++(wrS s0 4).pg.scr)[1]? =some r∧r.cont=true:=by
     have :=F5.o;cases h:((wrS s0 4).pg.hist++(wrS s0 4).pg.scr)[1]? with
     |none=>rw[h]at this;cases this
     |some r=>rw[h]at this;exact⟨r,rfl,by simpa using this⟩
    have HPG:=Hd (fH hO5);have HRW:=Hd (row_in hO5.page 1 r hr);unfold tT at HRW;rw[hrc]at HRW;rw[e1]at HPG;have HSt2:Hid (∀w',Below w5.heap.size w5 w'→Calls jG 13 #[.pointer (some ⟨v.S,0,none⟩)] w' (JH (wrS s0 4) w')):=Hd (fun w' hb=>by rw[←e1];exact fU (hO5.below hb));unfold JH at HSt2;clear hat;have hat:=fun w=>Xy (wrS s0 4) w;simp only[F4.o.1,F4.o.2]at hat;have HB5:Hid (Below w.heap.size w w5):=Hd (HB2.o.trans (hm5.below (B:=w.heap.size) (fun b hb=>(HO2.o.lt b hb).1) HB2.o.size));clear hO5 hm5 hx5 e1 e2 e3 hr hrc
    go_upto_region 12 with(first
     |(go_at_call 14;refine HPG.o.mono ?_;rintro e w6 ⟨rfl,rfl⟩)
     |(go_at_call 34;refine HRW.o.mono ?_;rintro e w7 ⟨gr,cap,rfl,-,hb⟩;have HB7:=Hd hb;clear hb))
    have hc8:(w7.alloc (.cells #[.slice (some ⟨gr,0,none⟩) r.cs.length cap,.bool true] 97)).heap[w7.heap.size]? =some (.cells #[.slice (some ⟨gr,0,none⟩) r.cs.length cap,.bool true] 97 (0,0)):=kZ rfl;have hb8:=jN HB7.o (jW (jU w7.heap.size w7) (.cells #[.slice (some ⟨gr,0,none⟩) r.cs.length cap,.bool true] 97));generalize World.alloc _ _=W8 at hc8 hb8 ⊢;have HC8:=Hd hc8;have HB8:=Hd hb8;clear hc8 hb8
    go_wp2_with(go_at_call 13;refine(HSt2.o _ HB8.o).mono ?_;rintro e w9 ⟨rfl,hb⟩;obtain⟨y1,-⟩:=at_ ((hb.block _ (kQ HC8.o)).trans HC8.o) 1 _ rfl;have HB9:=Hd hb;clear hb)
    go_ret
    exact⟨rfl,jN (jN HB5.o HB8.o) HB9.o⟩
end
section
variable {P:Program}
theorem yS{o:Oper}{a:Act}{w:World}(ty:TypeId)(x y:Operand)(ho:o.op=.store ty x y)(b off:Nat)(cells:Array Value)(hx:a.eval x=.pointer (some ⟨b,off,none⟩))(hy:a.eval y=.agg cells)
 (ht:w.there b off cells.size) (hi:(P.info? ty).map (·.size)=some cells.size) (h1:cells.all (·.oneCell')=true):(execOp a.eval o).run P w=.ok .skip (w.setCells b off cells.toList):=by
 unfold execOp;simp only[ho,hx,hy,Sem.run_bind,run_storeAt_mid w b off ty cells ht hi h1,Result.andThen_ok,Sem.run_pure]
end
section
variable {base:Nat}{w:World}{v:Sv}{s:Sc}{rows cols room:Nat}
set_option maxHeartbeats 1600000 in
theorem Jd(h:ScO base w v s):Calls jG 17 #[.pointer (some ⟨v.S,0,none⟩)] w (gQ base w v (cI s)):=by
 have HO:=Hd h;have HIN:Hid (∀w',Below w.heap.size w w'→Calls jG 76 #[.pointer (some ⟨v.S,0,none⟩)] w' fun e w2=>e=.returned (.int .i64 (inS s))∧Below w'.heap.size w' w2):=Hd (fun w' hb=>cG (h.below hb));obtain⟨c0,-⟩:=at_ h.blk 0 (.int .i64 s.pen.at_.fk) rfl;obtain⟨c1,-⟩:=at_ h.blk 1 (.int .i64 s.pen.at_.fn) rfl;obtain⟨c2,-⟩:=at_ h.blk 2 (.int .i64 s.pen.at_.bk) rfl;obtain⟨c3,-⟩:=at_ h.blk 3 (.int .i64 s.pen.at_.bn) rfl;obtain⟨c4,-⟩:=at_ h.blk 4 (.int .i64 s.pen.at_.fl) rfl;obtain⟨c5,-⟩:=at_ h.blk 5 (.int .i64 s.pen.ch.g0) rfl;obtain⟨c6,-⟩:=at_ h.blk 6 (.int .i64 s.pen.ch.g1) rfl;obtain⟨c7,-⟩:=at_ h.blk 7 (.int .i64 s.pen.ch.g2) rfl;obtain⟨c8,-⟩:=at_ h.blk 8 (.int .i64 s.pen.ch.g3) rfl;obtain⟨c9,-⟩:=at_ h.blk 9 (.int .i64 s.pen.ch.use) rfl;obtain⟨c10,-⟩:=at_ h.blk 10 (.int .i64 s.pen.ch.once) rfl;obtain⟨c11,-⟩:=at_ h.blk 11 (.bool s.pen.put) rfl;obtain⟨c12,-⟩:=at_ h.blk 12 (.bool s.pen.wrap) rfl;obtain⟨c13,-⟩:=at_ h.blk 13 (.bool s.pen.home) rfl;obtain⟨c16,-⟩:=at_ h.blk 16 (.int .i64 s.y) rfl;clear h
 go_enter Tryz.func17,Tryz.ntmps17
 go_upto_region 1 with fail
 refine Go.RL.wp_region_l 18 (fun w'=>w'.cell? ⟨v.S,0,none⟩=some (.int .i64 s.pen.at_.fk)∧w'.cell? ⟨v.S,1,none⟩=some (.int .i64 s.pen.at_.fn)∧w'.cell? ⟨v.S,2,none⟩=some (.int .i64 s.pen.at_.bk)∧w'.cell? ⟨v.S,3,none⟩=some (.int .i64 s.pen.at_.bn)∧w'.cell? ⟨v.S,4,none⟩=some (.int .i64 s.pen.at_.fl)∧w'.cell? ⟨v.S,5,none⟩=some (.int .i64 s.pen.ch.g0)∧w'.cell? ⟨v.S,6,none⟩=some (.int .i64 s.pen.ch.g1)∧w'.cell? ⟨v.S,7,none⟩=some (.int .i64 s.pen.ch.g2)∧w'.cell? ⟨v.S,8,none⟩=some (.int .i64 s.pen.ch.g3)∧w'.cell? ⟨v.S,9,none⟩=some (.int .i64 s.pen.ch.use)∧w'.cell? ⟨v.S,10,none⟩=some (.int .i64 s.pen.ch.once)∧w'.cell? ⟨v.S,11,none⟩=some (.bool s.pen.put)∧w'.cell? ⟨v.S,12,none⟩=some (.bool s.pen.wrap)∧w'.cell? ⟨v.S,13,none⟩=some (.bool s.pen.home)∧w'.cell? ⟨v.S,16,none⟩=some (.int .i64 s.y)) (fun w'=>Below w.heap.size w w') qQ qQ ⟨c0,c1,c2,c3,c4,c5,c6,c7,c8,c9,c10,c11,c12,c13,c16⟩ ((jU _ _).drew) ?_;refine Go.RL.AtL.go 0 ?_
 iterate 11 refine zK ?_
 refine Go.RL.AtK.back ?_;refine Go.RL.AtL.one 11 (o:=⟨_,_,_,_,_,_⟩) (fun v=>v=.int .i64 (inS s)) (fun _ w'=>Below w.heap.size w w') qV qQ rfl
  (Go.RL.StabL.call 76 #[.pointer (some ⟨v.S,0,none⟩)] _ _ qK ?_ (fun w' hI hS=>?_)) ?_
 · intro w'
   go_simp
 · refine(HIN.o w' hS).mono ?_;rintro e w3 ⟨rfl,hb⟩;obtain⟨h0,h1,h2,h3,h4,h5,h6,h7,h8,h9,h10,h11,h12,h13,h16⟩:=hI;exact⟨_,rfl,rfl,⟨jA hb h0,jA hb h1,jA hb h2,jA hb h3,jA hb h4,jA hb h5,jA hb h6,jA hb h7,jA hb h8,jA hb h9,jA hb h10,jA hb h11,jA hb h12,jA hb h13,jA hb h16⟩,jN hS hb⟩
 rintro v1 rfl;refine zP ?_;refine Go.RL.AtL.go 12 ?_
 iterate 3 refine zK ?_
 refine Go.RL.AtK.back ?_;refine Go.RL.AtL.one 15 (o:=⟨none,.store 106 (.tmp 18) (.tmp 16),_,_,_,_⟩) (fun _=>True) (fun _ w'=>ScO base w' v {s with sp:=s.pen,sy:=s.y,sx:=inS s}∧Mod (scX v) w w') qV qQ rfl (Go.RL.StabL.unit _ _ qK (fun w' hI hS=>?_)) ?_
 · have hO:=HO.o.below hS;have hp:=hO.puts 20 (keL s.pen s.y (inS s)) qVn (s':={s with sp:=s.pen,sy:=s.y,sx:=inS s}) rfl rfl rfl;refine⟨_,yS 106 (.tmp 18) (.tmp 16) rfl v.S 20 (keL s.pen s.y (inS s)).toArray rfl rfl (hO.there qVn) rY (all_oneCell_toArray (VY _ _ _)),trivial,?_,hp.1,(Mod.of_below hS).trans hp.2 (fun _ hb=>.inl hb)⟩;have hb:=hp.1.blk;exact⟨(at_ hb 0 _ rfl).1,(at_ hb 1 _ rfl).1,(at_ hb 2 _ rfl).1,(at_ hb 3 _ rfl).1,(at_ hb 4 _ rfl).1,(at_ hb 5 _ rfl).1,(at_ hb 6 _ rfl).1,(at_ hb 7 _ rfl).1,(at_ hb 8 _ rfl).1,(at_ hb 9 _ rfl).1,(at_ hb 10 _ rfl).1,(at_ hb 11 _ rfl).1,(at_ hb 12 _ rfl).1,(at_ hb 13 _ rfl).1,(at_ hb 16 _ rfl).1⟩
 rintro v15 -;simp only[Act.put];refine Go.RL.AtL.go 16 ?_
 iterate 2 refine zK ?_
 refine Go.RL.AtK.back ?_;refine Go.RL.AtL.done qQ (fun w' hI hS=>?_);have HS:=Hd hS;obtain⟨c36,f36⟩:=at_ hS.1.blk 36 (.bool s.has) rfl;clear hI hS c0 c1 c2 c3 c4 c5 c6 c7 c8 c9 c10 c11 c12 c13 c16
 go_wp2
 go_end0
 exact⟨rfl,uR.trans ⟨rfl,rfl,rfl,HS.o.2,fun _ hb=>.inl hb⟩ ⟨v,rfl,rfl,rfl,HS.o.1.put 36 _ rfl rfl rfl,ScO.mod_put 36 _,fun _ hb=>.inl hb⟩⟩
end
section
variable {base:Nat}{w:World}{v:Sv}{s:Sc}{rows cols room:Nat}
def aL(a:Atr):List Value:=[.int .i64 a.fk,.int .i64 a.fn,.int .i64 a.bk,.int .i64 a.bn,.int .i64 a.fl]
def cL(a:Ch):List Value:=[.int .i64 a.g0,.int .i64 a.g1,.int .i64 a.g2,.int .i64 a.g3,.int .i64 a.use,.int .i64 a.once]
theorem sG{b:Nat}{o:Obj}{X:List Nat}{w w':World}(h:w.heap[b]? =some o)(hM:Mod X w w')(hb:b∉X):w'.heap[b]? =some o:=by
 rw[hM.block b (kF.1 h).1 hb];exact h
theorem pD:(jG.info? 40).map (·.size)=some 5:=by kernel_rfl
theorem JS(a:Atr):∀u∈aL a,u.oneCell'=true:=fun u hu=>by
 simp only[aL,kW,List.not_mem_nil,or_false]at hu;rcases hu with rfl|rfl|rfl|rfl|rfl<;>rfl
theorem Zv:(jG.info? 43).map (·.size)=some 6:=by kernel_rfl
theorem one6(a:Ch):∀u∈cL a,u.oneCell'=true:=fun u hu=>by
 simp only[cL,kW,List.not_mem_nil,or_false]at hu;rcases hu with rfl|rfl|rfl|rfl|rfl|rfl<;>rfl
theorem ScO.range(h:ScO base w v s){o n:Nat}{cs:List Value}(he:((lX s v.q.P v.T).drop o).take n=cs):w.rangeAt v.S o cs:=fun j u hj=>by
 rw[←he,List.getElem?_take]at hj
 split at hj
 · rw[gV]at hj;exact(kC h.blk _ _ hj).1
 · cases hj
theorem qQw{b:Nat}{p:Pe}{y x:Int}(h:w.heap[b]? =some (.cells (keL p y x).toArray 106 (0,0))):w.heap[b]? =some (.cells (keL p y x).toArray 106 (0,0))∧w.cell? ⟨b,0,none⟩=some (.int .i64 p.at_.fk)∧w.cell? ⟨b,1,none⟩=some (.int .i64 p.at_.fn)∧w.cell? ⟨b,2,none⟩=some (.int .i64 p.at_.bk)∧w.cell? ⟨b,3,none⟩=some (.int .i64 p.at_.bn)∧w.cell? ⟨b,4,none⟩=some (.int .i64 p.at_.fl)∧w.cell? ⟨b,5,none⟩=some (.int .i64 p.ch.g0)∧w.cell? ⟨b,6,none⟩=some (.int .i64 p.ch.g1)∧w.cell? ⟨b,7,none⟩=some (.int .i64 p.ch.g2)∧w.cell? ⟨b,8,none⟩=some (.int .i64 p.ch.g3)∧w.cell? ⟨b,9,none⟩=some (.int .i64 p.ch.use)∧w.cell? ⟨b,10,none⟩=some (.int .i64 p.ch.once)∧w.cell? ⟨b,13,none⟩=some (.bool p.home):=
 ⟨h,(kC h 0 (.int .i64 p.at_.fk) rfl).1,(kC h 1 (.int .i64 p.at_.fn) rfl).1,(kC h 2 (.int .i64 p.at_.bk) rfl).1,(kC h 3 (.int .i64 p.at_.bn) rfl).1,(kC h 4 (.int .i64 p.at_.fl) rfl).1,(kC h 5 (.int .i64 p.ch.g0) rfl).1,(kC h 6 (.int .i64 p.ch.g1) rfl).1,(kC h 7 (.int .i64 p.ch.g2) rfl).1,(kC h 8 (.int .i64 p.ch.g3) rfl).1,(kC h 9 (.int .i64 p.ch.use) rfl).1,(kC h 10 (.int .i64 p.ch.once) rfl).1,(kC h 13 (.bool p.home) rfl).1⟩
set_option maxHeartbeats 3200000 in
theorem sS(h:ScO base w v s):Calls jG 18 #[.pointer (some ⟨v.S,0,none⟩)] w (gQ base w v (gD s)):=by
 have HF:=Hd (fun w=>rT w);unfold peL at HF;have HO:=Hd h;obtain⟨p,y,x,hk,hp⟩:∃p y x,gD s=fM {s with pen:=fV s.pen p} y x∧((s.has=true∧s.sp=p∧s.sy=y∧s.sx=x)∨(s.has=false∧vW=p∧0=y∧0=x)):=by
  unfold gD;cases hh:s.has with
  |true=>exact⟨_,_,_,by rw[if_pos rfl],.inl ⟨rfl,rfl,rfl,rfl⟩⟩
  |false=>exact⟨_,_,_,by rw[if_neg qZ],.inr ⟨rfl,rfl,rfl,rfl⟩⟩
 rw[hk];clear hk h;rcases hp with⟨hh,hp1,hp2,hp3⟩|⟨hh,hp1,hp2,hp3⟩
 all_goals
  have HPP:=Hd (kM hp1 (kM hp2 hp3));have HH:=Hd hh;clear hp1 hp2 hp3 hh
  go_enter Tryz.func18,Tryz.ntmps18
  go_upto_region 2 with(go_at_call 77;refine(HF.o _).mono ?_;rintro e w1 ⟨rfl,hb⟩;have HB1:=Hd hb;clear hb)
  generalize hW2:World.alloc _ _=W2;have hb2:Below w1.heap.size w1 W2:=by rw[←hW2];exact jW (jU _ _) _
  have hc2:W2.heap[w1.heap.size]? =some (.cells (keL vW 0 0).toArray 106 (0,0)):=by rw[←hW2];exact kZ rfl
  have HB2:=Hd (jN HB1.o hb2);have HBX:Hid (w1.heap.size∉scX v):=Hd (fun hx=>by have :=(HO.o.lt _ hx).2;have :=HB1.o.size;omega);have HOW:=Hd (HO.o.below HB2.o);have HC2:=Hd hc2;clear hW2 hb2 hc2;obtain⟨c36,-⟩:=at_ HOW.o.blk 36 (.bool s.has) rfl;rw[HH.o]at c36
  first
  |(have hz:s.has=true:=HH.o
    clear hz
    go_upto_region 3 with fail
    clear c36;refine wp_region_lit ?_;refine zG (.pointer (some ⟨v.S,0,none⟩)) ?_;refine zGs (.pointer (some ⟨v.S,0,none⟩)) ?_;refine zGs (.pointer (some ⟨v.S,20,none⟩)) ?_;refine uF qK 106 (.tmp 13) rfl (v.S) (20) rfl (keL s.sp s.sy s.sx) _ (HOW.o.range (n:=16) rfl) Tryz.underlying106 rfl rY ?_;refine zP ?_;refine wpList_store_mid rfl 106 (.tmp 2) (.tmp 14) rfl (w1.heap.size) (0) ((keL s.sp s.sy s.sx).toArray) rfl rfl ((show World.there _ w1.heap.size 0 16 from gH HC2.o)) rY (all_oneCell_toArray (VY _ _ _)) ?_;simp only[Act.put];change wpList _ _ _ _ _ (W2.setCells w1.heap.size 0 (keL s.sp s.sy s.sx));have hM:Mod [w1.heap.size] W2 (W2.setCells w1.heap.size 0 (keL s.sp s.sy s.sx)):=gM (.inl qV) _ 0 W2 (Mod.refl _ _);have HK:Hid ((W2.setCells w1.heap.size 0 (keL s.sp s.sy s.sx)).heap[w1.heap.size]? =some (.cells (keL p y x).toArray 106 (0,0))):=Hd (by rw[←HPP.o.1,←HPP.o.2.1,←HPP.o.2.2];exact uB _ 0 _ W2 HC2.o (by simp[keL]));have HO4:Hid (ScO base (W2.setCells w1.heap.size 0 (keL s.sp s.sy s.sx)) v s):=Hd (HOW.o.mod hM (fun b hb cs f he=>by rw[jR.1 hb]at he;exact uP HC2.o he qZ rfl) (fun b hb hx=>HBX.o qJw))
    have HM4:Hid (Mod (scX v) w (W2.setCells w1.heap.size 0 (keL s.sp s.sy s.sx))):=Hd ((Mod.of_below HB2.o:Mod (scX v) w W2).trans hM (fun g hg=>.inr (by rw[jR.1 hg];exact HB1.o.size)));clear hM;generalize W2.setCells w1.heap.size 0 (keL s.sp s.sy s.sx)=W4 at HK HO4 HM4 ⊢;clear HOW HC2 HB2)
  |(have hz:s.has=false:=HH.o
    clear hz;have HK:Hid (W2.heap[w1.heap.size]? =some (.cells (keL p y x).toArray 106 (0,0))):=Hd (by rw[←HPP.o.1,←HPP.o.2.1,←HPP.o.2.2];exact HC2.o);have HO4:Hid (ScO base W2 v s):=HOW;have HM4:Hid (Mod (scX v) w W2):=Hd (Mod.of_below HB2.o);clear HOW HC2 HB2
    revert c36 HK HO4 HM4
    revert W2
    intro W4 c36 HK HO4 HM4)
  go_upto_region 4 with fail
  refine Go.RL.wp_region_l 25 (fun w'=>w'.heap[w1.heap.size]? =some (.cells (keL p y x).toArray 106 (0,0))∧w'.cell? ⟨w1.heap.size,0,none⟩=some (.int .i64 p.at_.fk)∧w'.cell? ⟨w1.heap.size,1,none⟩=some (.int .i64 p.at_.fn)∧w'.cell? ⟨w1.heap.size,2,none⟩=some (.int .i64 p.at_.bk)∧w'.cell? ⟨w1.heap.size,3,none⟩=some (.int .i64 p.at_.bn)∧w'.cell? ⟨w1.heap.size,4,none⟩=some (.int .i64 p.at_.fl)∧w'.cell? ⟨w1.heap.size,5,none⟩=some (.int .i64 p.ch.g0)∧w'.cell? ⟨w1.heap.size,6,none⟩=some (.int .i64 p.ch.g1)∧w'.cell? ⟨w1.heap.size,7,none⟩=some (.int .i64 p.ch.g2)∧w'.cell? ⟨w1.heap.size,8,none⟩=some (.int .i64 p.ch.g3)∧w'.cell? ⟨w1.heap.size,9,none⟩=some (.int .i64 p.ch.use)∧w'.cell? ⟨w1.heap.size,10,none⟩=some (.int .i64 p.ch.once)∧w'.cell? ⟨w1.heap.size,13,none⟩=some (.bool p.home)) (fun w'=>ScO base w' v s∧Mod (scX v) w w') qQ qQ (qQw HK.o) ⟨HO4.o.below ((jU W4.heap.size W4).drew),HM4.o.trans (Mod.of_below (X:=[]) ((jU W4.heap.size W4).drew)) (fun _ hb=>by cases hb)⟩ ?_;refine Go.RL.AtL.go 0 ?_
  iterate 16 refine zK ?_
  refine Go.RL.AtK.back ?_;refine Go.RL.AtL.one 16 (o:=⟨none,.store 40 (.tmp 30) (.tmp 20),_,_,_,_⟩) (fun _=>True) (fun _ w'=>ScO base w' v {s with pen:={s.pen with at_:=p.at_}}∧Mod (scX v) w w') qV qQ rfl (Go.RL.StabL.unit _ _ qK (fun w' hI hS=>?_)) ?_
  · have hp:=hS.1.puts 0 (aL p.at_) qVx (s':={s with pen:={s.pen with at_:=p.at_}}) rfl rfl rfl;exact⟨_,yS 40 (.tmp 30) (.tmp 20) rfl v.S 0 (aL p.at_).toArray rfl rfl (hS.1.there qVx) pD (all_oneCell_toArray (JS p.at_)),trivial,qQw (sG hI.1 hp.2 HBX.o),hp.1,hS.2.trans hp.2 (fun _ hb=>.inl hb)⟩
  rintro v16 -;simp only[Act.put];refine Go.RL.AtL.go 17 ?_
  iterate 3 refine zK ?_
  refine Go.RL.AtK.back ?_;refine Go.RL.AtL.one 20 (o:=⟨none,.store 43 (.tmp 33) (.tmp 23),_,_,_,_⟩) (fun _=>True) (fun _ w'=>ScO base w' v {s with pen:={s.pen with at_:=p.at_,ch:=p.ch}}∧Mod (scX v) w w') qV qQ rfl (Go.RL.StabL.unit _ _ qK (fun w' hI hS=>?_)) ?_
  · have hp:=hS.1.puts 5 (cL p.ch) (by show 5+6≤38;omega) (s':={s with pen:={s.pen with at_:=p.at_,ch:=p.ch}}) rfl rfl rfl;exact⟨_,yS 43 (.tmp 33) (.tmp 23) rfl v.S 5 (cL p.ch).toArray rfl rfl (hS.1.there (by show 5+6≤38;omega)) Zv (all_oneCell_toArray (one6 p.ch)),trivial,qQw (sG hI.1 hp.2 HBX.o),hp.1,hS.2.trans hp.2 (fun _ hb=>.inl hb)⟩
  rintro v20 -;simp only[Act.put];refine Go.RL.AtL.go 21 ?_
  iterate 4 refine zK ?_
  refine Go.RL.AtK.back ?_;refine Go.RL.AtL.done qQ (fun w' hI hS=>?_);have HS:=Hd hS;have HKK:=Hd hI.1;obtain⟨c13,f13⟩:=at_ hS.1.blk 13 (.bool s.pen.home) rfl;clear hI hS
  go_upto_region 5 with fail
  have hq:=HS.o.1.put 13 (.bool p.home) (s':={s with pen:=fV s.pen p}) rfl rfl rfl;have hM:=HS.o.2.trans (ScO.mod_put (w:=w') (v:=v) 13 (.bool p.home)) (fun _ hb=>.inl hb);have hk:=sG HKK.o (ScO.mod_put (w:=w') (v:=v) 13 (.bool p.home)) HBX.o;generalize w'.setCell ⟨v.S,13,none⟩ (.bool p.home)=W6 at hq hM hk ⊢;obtain⟨c14,f14⟩:=kC hk 14 (.int .i64 y) rfl;obtain⟨c15,f15⟩:=kC hk 15 (.int .i64 x) rfl;have HP:=Hd (sQ hq y x);have HM6:=Hd hM;clear hq hM hk c13 f13
  go_wp2_with(go_at_call 78;(with_reducible refine HP.o.mono ?_);rintro e w3 ⟨rfl,hR⟩;have HR:=Hd hR;clear hR)
  go_end0
  exact⟨rfl,uR.trans ⟨rfl,rfl,rfl,HM6.o,fun _ hb=>.inl hb⟩ HR.o⟩
end
theorem CrO.gr{w:World}{base g cap:Nat}{l:List Cl}(h:CrO w base g cap l):pA kX 8 w (some ⟨g,0,none⟩) l:=fun _=>⟨g,0,rfl,fun i c hi j v hv=>by
 rw[kB];exact h.range hi j v hv⟩
def RPost(n:Nat)(o:List Cl)(w:World)(e:Ending)(w':World):Prop:=∃g cap,e=.returned (.slice (some ⟨g,0,none⟩) n cap)∧CrO w' w.heap.size g cap o∧Below w.heap.size w w'
theorem eX(A:Option Addr)(o:List Cl)(n ca:Nat)(w:World)(hl:pA kX 8 w A o)(hn:o.length=n)(h0:0<n)(hz:n≤10000):
 Calls jG 164 #[.slice A n ca] w (RPost n (uX o) w):=by
 subst hn;refine(WQ A o ca w hl h0 hz).mono ?_;rintro e w1 ⟨g,cap,he,hc,hb⟩;rw[kR]at he;exact⟨g,cap,he,hc,hb⟩
set_option maxHeartbeats 1600000 in
theorem nJ(b:Col)(w:World):Calls jG 206 #[.agg #[.int .i64 b.k,.int .i64 b.n]] w (JC (vD b) w):=by
 have HB0:=Hd (jW (jW (jU w.heap.size w) (.cells #[.int .i64 b.k,.int .i64 b.n] 38)) (.cells (kX (pM ⟨0,0,0,0,0⟩)).toArray 154));have HT0:=Hd (gH (cs:=(kX (pM ⟨0,0,0,0,0⟩)).toArray) (w:=(w.alloc (.cells #[.int .i64 b.k,.int .i64 b.n] 38)).alloc (.cells (kX (pM ⟨0,0,0,0,0⟩)).toArray 154)) (g:=w.heap.size+1) (kZ qV))
 go_enter Tryz.func206,Tryz.ntmps206
 go_wp2_with(refine wpList_store_mid (op:=⟨none,.store 154 (.tmp 2) (.tmp 5),_,_,_,_⟩) rfl 154 (.tmp 2) (.tmp 5) rfl (w.heap.size+1) 0 (kX (vD b)).toArray rfl rfl HT0.o uD (bU (vD b)) ?_)
 exact bodyPost_ret (QU rfl _ _ (w.heap.size+1) (vD b) rfl (World.rangeAt_setCells_same _ _ _ _ HT0.o)) rfl ⟨rfl,yW HB0.o qJ _ _⟩
set_option maxHeartbeats 3200000 in
theorem Xo(A:Option Addr)(l:List Cl)(ca:Nat)(w:World)(hl:pA kX 8 w A l)(h0:0<l.length)(hz:l.length≤10000):
 Calls jG 178 #[.slice A l.length ca] w (pK (cH l) w):=by
 have HM:=Hd (eX A l l.length ca w hl rfl h0 hz);obtain⟨n,hn⟩:∃n,l.length=n+1:=⟨l.length-1,by omega⟩;have hpos:(0:Int)<(l.length:Int):=by omega
 have hw:jP.wrap ((l.length:Int)-1)=(n:Int):=by rw[jH _ qJ];omega
 have hnl:(n:Int)<(l.length:Int):=by omega
 have HN:=Hd hn;clear hl hn
 go_enter Tryz.func178,Tryz.ntmps178
 go_wp2_with(first
  |(go_at_call 164;(with_reducible refine HM.o.mono ?_);rintro e w1 ⟨g,cap,rfl,hc,hb⟩;have HC:=Hd hc;have HB1:=Hd hb;have HTH:=Hd (hc.there (i:=n) (by rw[kR];have :=HN.o;omega));have HS:=Hd (hc.set (i:=n) (by rw[kR];have :=HN.o;omega) wH);have HBS:=Hd (yW hb hc.lt.1 (kX wH) (n*8));have HM2:=Hd (eX _ _ l.length cap _ HS.o.1.gr (by rw[uG,kR]) h0 hz);clear hc hb)
  |(go_at_call 164;(with_reducible refine HM2.o.mono ?_);rintro e w2 ⟨g',cap',rfl,hc,hb⟩;have HC2:=Hd hc;have HB2:=Hd hb;clear hc hb)
  |(refine wpList_store_mid (op:=⟨none,.store 154 (.tmp 14) (.tmp 13),_,_,_,_⟩) rfl 154 (.tmp 14) (.tmp 13) rfl g (n*8) (kX wH).toArray rfl rfl HTH.o uD (bU wH) ?_))
 go_ret
 refine⟨g',cap',by rw[show(cH l).length=l.length by unfold cH;rw[kR,uG,kR]];rfl,?_,jN HBS.o HB2.o⟩;have hO:=HC2.o;rw[show uX ((uX l).set n wH)=cH l by unfold cH;rw[show l.length-1=n by have :=HN.o;omega]]at hO;exact gJ hO HBS.o.size
def fB(o:List Cl)(x y:Int)(b:Col)(i:Nat):List Cl:=o.mapIdx (fun j c=>if j<i∧x≤j∧(j:Int)<y then vD b else c)
theorem Qi(o:List Cl)(x y:Int)(b:Col)(i:Nat):(fB o x y b i).length=o.length:=by unfold fB;simp
theorem Zd(o:List Cl)(x y:Int)(b:Col):fB o x y b 0=o:=by
 unfold fB;refine List.ext_getElem qV (fun j h1 h2=>?_);simp
theorem Wm(o:List Cl)(x y:Int)(b:Col)(i:Nat)(h:x≤i∧(i:Int)<y):(fB o x y b i).set i (vD b)=fB o x y b (i+1):=by
 unfold fB;refine List.ext_getElem qV (fun j h1 h2=>?_);rw[List.getElem_set];simp only[List.getElem_mapIdx]
 by_cases hj:i=j
 · subst hj;rw[if_pos rfl,if_pos ⟨by omega,h⟩]
 · rw[if_neg hj]
   by_cases h3:j<i∧x≤j∧(j:Int)<y
   · rw[if_pos h3,if_pos ⟨by omega,h3.2⟩]
   · rw[if_neg h3,if_neg (fun h4=>h3 ⟨by omega,h4.2⟩)]
theorem Qh(o:List Cl)(x y:Int)(b:Col)(i:Nat)(h:¬(x≤i∧(i:Int)<y)):fB o x y b i=fB o x y b (i+1):=by
 unfold fB;refine List.ext_getElem qV (fun j h1 h2=>?_);simp only[List.getElem_mapIdx]
 by_cases h3:j<i∧x≤j∧(j:Int)<y
 · rw[if_pos h3,if_pos ⟨by omega,h3.2⟩]
 · rw[if_neg h3,if_neg (fun h4=>h3 ⟨by
    have hne:j≠i:=by rintro rfl;exact h h4.2
    omega,h4.2⟩)]
theorem Ql(o:List Cl)(x y:Int)(b:Col):fB o x y b o.length=nB b x y o:=by
 unfold fB nB;refine List.ext_getElem qV (fun j h1 h2=>?_);have hj:j<o.length:=by simpa using h2
 simp[hj]
set_option maxHeartbeats 3200000 in
theorem Xm(A:Option Addr)(l:List Cl)(ca:Nat)(x y:Int)(b:Col)(w:World)(hl:pA kX 8 w A l)(h0:0<l.length)(hz:l.length≤10000):
 Calls jG 204 #[.slice A l.length ca,.int .i64 x,.int .i64 y,.agg #[.int .i64 b.k,.int .i64 b.n]] w (pK (pG l x y b) w):=by
 have hb0:=jW (jU w.heap.size w) (.cells #[.int .i64 b.k,.int .i64 b.n] 38);have HB0:=Hd hb0;have HK:Hid (bD (w.alloc (.cells #[.int .i64 b.k,.int .i64 b.n] 38)) w.heap.size 0 (.int .i64 b.k)∧bD (w.alloc (.cells #[.int .i64 b.k,.int .i64 b.n] 38)) w.heap.size 1 (.int .i64 b.n)):=Hd ⟨at_ (kZ rfl) 0 _ rfl,at_ (kZ rfl) 1 _ rfl⟩;have HM:=Hd (eX A l l.length ca _ (hl.below hb0) rfl h0 hz);have HBL:=Hd (fun w=>nJ b w);have HM2:=Hd (fun(g cap base:Nat) (o:List Cl) (w':World) (h:CrO w' base g cap o) (hn:o.length=l.length)=>eX (some ⟨g,0,none⟩) o l.length cap w' h.gr hn h0 hz);clear hl hb0
 go_enter Tryz.func204,Tryz.ntmps204
 go_wp2_with(go_at_call 164;refine HM.o.mono ?_;rintro e w1 ⟨g,cap,rfl,hc,hb⟩;have HC:=Hd hc;have HB1:=Hd (jN HB0.o hb);have HK1:=Hd (show bD w1 w.heap.size 0 (.int .i64 b.k)∧bD w1 w.heap.size 1 (.int .i64 b.n)from⟨bQ hb HK.o.1,bQ hb HK.o.2⟩);clear hc hb)
 have hgb:w.heap.size+1≤g:=by have :=HC.o.lt.1;simpa using this
 go_loopw [10] (fun s10 wr=>∃(i:Nat) (o:List Cl),s10=.int .i64 i∧i≤l.length∧o=fB (uX l) x y b i∧CrO wr (w.heap.size+1) g cap o∧Mod [g] w1 wr) (fun s10 _=>l.length-(intOf s10).toNat)
 case atStart=>exact⟨0,uX l,rfl,kT _,(Zd _ _ _ _).symm,by have :=HC.o;simpa using this,Mod.refl _ _⟩
 case round=>
  obtain⟨i,o,rfl,hi,ho,hO,hM⟩:=hrel;have HO:=Hd hO;have HMd:=Hd hM;have HE:=Hd ho;have HOL:Hid (o.length=l.length):=Hd (by rw[ho,Qi,kR]);have k0:=(hM.hold qW HK1.o.1).1;have k1:=(hM.hold qW HK1.o.2).1;have HBM:=Hd (HB1.o.trans (hM.below (fun x hx=>by rw[jR.1 hx];omega) HB1.o.size));clear hO hM ho
  by_cases hlt:i<l.length
  rotate_left
  · have hge:¬(i:Int)<(l.length:Int):=by omega
    have HM3:=Hd (HM2.o _ _ _ _ _ HO.o HOL.o)
    go_wp2_with(go_at_call 164;refine HM3.o.mono ?_;rintro e w2 ⟨g',cap',rfl,hc,hb⟩;have HC2:=Hd hc;have HB2:=Hd hb;clear hc hb)
    go_ret
    have hO2:=HC2.o;rw[show uX o=pG l x y b by
     unfold pG;rw[HE.o,show i=(uX l).length by rw[kR];omega,Ql]]at hO2
    exact⟨g',cap',by rw[show(pG l x y b).length=l.length by unfold pG;rw[kR,←Ql,Qi,kR]];rfl,gJ hO2 HBM.o.size,jN HBM.o HB2.o⟩
  · have hltI:(i:Int)<(l.length:Int):=by omega
    by_cases hin:x≤i∧(i:Int)<y
    · have hx1:=hin.1;have hx2:=hin.2;have HIN:=Hd hin;clear hin
      go_wp2_with(first
       |(go_at_call 206;refine(HBL.o _).mono ?_;rintro e w3 ⟨rfl,hb⟩;have HB3:=Hd hb;clear hb;have HTH:=Hd ((HO.o.below HB3.o).there (i:=i) (by rw[HOL.o];omega)))
       |(refine wpList_store_mid (op:=⟨none,.store 154 (.tmp 31) (.tmp 30),_,_,_,_⟩) rfl 154 (.tmp 31) (.tmp 30) rfl g (i*8) (kX (vD b)).toArray rfl rfl HTH.o uD (bU (vD b)) ?_))
      obtain⟨q1,q2⟩:=(HO.o.below HB3.o).set (i:=i) (by rw[HOL.o];omega) (vD b);rw[HE.o,Wm _ _ _ _ _ HIN.o]at q1;have Q1:=Hd q1;have Q2:=Hd q2;clear q1 q2
      go_roundw
      case rel=>exact⟨i+1,_,by go_num,by omega,rfl,Q1.o,(HMd.o.then_below HB3.o).trans Q2.o (fun k hk=>.inl hk)⟩
      case measure=>exact zm
    · have HOT:=Hd hin
      by_cases hx1:x≤i
      · have hx2:¬(i:Int)<y:=fun h=>hin ⟨hx1,h⟩;clear hin
        go_wp2
        go_roundw
        case rel=>exact⟨i+1,o,by go_num,by omega,by rw[HE.o];exact Qh _ _ _ _ _ HOT.o,HO.o,HMd.o⟩
        case measure=>exact zm
      · clear hin
        go_wp2
        go_roundw
        case rel=>exact⟨i+1,o,by go_num,by omega,by rw[HE.o];exact Qh _ _ _ _ _ HOT.o,HO.o,HMd.o⟩
        case measure=>exact zm
theorem mT{P:Program}{ops:Array Oper}{rest:List Oper}{o:Oper}{a:Act}{w:World}{Q:Exit→Act→World→Prop}(hg:o.guard=none)(f:FuncId)(args:Array Value)(hrun:(execOp a.eval o).run P w=.ok (.enter f args) w)
 {Post:Ending→World→Prop} (hc:Calls P f args w Post) (v:Value) (hv:∀e w',Post e w'→e=.returned v) (h:∀w',Post (.returned v) w'→wpList P ops Q rest (a.put o.dst v) w'):wpList P ops Q (o::rest) a w:=by
 refine wpList_plain hg fun K hK=>?_;unfold Oper.wp;rw[hrun,Oper.upon_enter];refine hc.mono fun e w'' hh=>?_;obtain rfl:=hv e w'' hh;exact hK _ _ (h _ hh)
set_option maxHeartbeats 1000000 in
theorem ZQ(n:Nat)(b:Col)(w:World)(hn0:0<n)(hn:n≤1000):
 Calls jG 236 #[.int .i64 n,.agg #[.int .i64 b.k,.int .i64 b.n]] w (pK (kJ n (vD b)) w):=by
 obtain⟨j0,hj,gz0,gz1,gz2⟩:=info_parts dY;obtain⟨X,hX⟩:∃X,vD b=X:=⟨_,rfl⟩;rw[hX];have HBL:=Hd (fun w=>nJ b w);rw[hX]at HBL;clear hX;obtain⟨xr,xm,xh,x1,x2,x3,x4,x5⟩:=X;have HBL:Hid (∀w:World,Calls jG 206 #[.agg #[.int .i64 b.k,.int .i64 b.n]] w (fun e w'=>e=.returned (.agg #[.int .i32 xr,.string xm,.int .i64 xh,.int .i64 x1,.int .i64 x2,.int .i64 x3,.int .i64 x4,.int .i64 x5])∧Below w.heap.size w w')):=HBL;have HB0:=Hd (jW (jU w.heap.size w) (.cells #[.int .i64 b.k,.int .i64 b.n] 38));have HK:Hid (bD (w.alloc (.cells #[.int .i64 b.k,.int .i64 b.n] 38)) w.heap.size 0 (.int .i64 b.k)∧bD (w.alloc (.cells #[.int .i64 b.k,.int .i64 b.n] 38)) w.heap.size 1 (.int .i64 b.n)):=Hd ⟨at_ (kZ rfl) 0 _ rfl,at_ (kZ rfl) 1 _ rfl⟩
 go_enter Tryz.func236,Tryz.ntmps236
 go_wp2_with fail
 go_loopw [5,6] (fun s5 s6 wr=>∃i:Nat,s6=.int .i64 i∧i≤n∧ClO (w.heap.size+1) wr s5 (kJ i ((⟨xr,xm,xh,x1,x2,x3,x4,x5⟩:Cl)))∧Below (w.heap.size+1) (w.alloc (.cells #[.int .i64 b.k,.int .i64 b.n] 38)) wr) (fun _ s6 _=>n-(intOf s6).toNat)
 case atStart=>exact⟨0,rfl,kT _,uE _ _ _ _,by simpa using jU (w.alloc (.cells #[.int .i64 b.k,.int .i64 b.n] 38)).heap.size _⟩
 case round=>
  obtain⟨i,rfl,hi,hO,hB⟩:=hrel;obtain⟨bx,rfl⟩:∃bx:Value×Unit,u5=bx.1:=⟨(u5,()),rfl⟩;have HO:=Hd hO;have HB:=Hd hB;have k0:=(bQ (W:=w.alloc (.cells #[.int .i64 b.k,.int .i64 b.n] 38)) (by simpa using hB) HK.o.1).1;have k1:=(bQ (W:=w.alloc (.cells #[.int .i64 b.k,.int .i64 b.n] 38)) (by simpa using hB) HK.o.2).1;clear hO hB
  by_cases hlt:i<n
  rotate_left
  · obtain rfl:i=n:=by omega
    go_wp2
    go_ret
    obtain⟨g,cap,hv,hc⟩:=ClO.form HO.o (by simpa using hn0);exact⟨g,cap,by rw[←hv];rfl,gJ hc qJ,jN HB0.o (by simpa using HB.o)⟩
  · have hltI:(i:Int)<(n:Int):=by omega
    have hk:(i:Int)<1000:=by omega
    have HI:=Hd hi
    go_upto_region 5 with fail
    refine wp_region_lit ?_;refine zG (bx.1) ?_;refine zGs (.agg #[.int .i64 b.k,.int .i64 b.n]) ?_;refine mT rfl 206 #[.agg #[.int .i64 b.k,.int .i64 b.n]] qY (HBL.o _) (.agg #[.int .i32 xr,.string xm,.int .i64 xh,.int .i64 x1,.int .i64 x2,.int .i64 x3,.int .i64 x4,.int .i64 x5]) (fun e w' h=>h.1) ?_;rintro w3 ⟨-,hb⟩;have HB3:=Hd hb;clear hb k0 k1;have HBX:=Hd (jN HB3.o (jW (jU w3.heap.size w3) (.cells #[.int .i32 xr,.string xm,.int .i64 xh,.int .i64 x1,.int .i64 x2,.int .i64 x3,.int .i64 x4,.int .i64 x5] 154)));have HO3:=Hd (ClO.below HO.o HBX.o);refine zP ?_;refine uM (.slice (some ⟨w3.heap.size,0,none⟩) 1 1) (w3.alloc (.cells #[.int .i32 xr,.string xm,.int .i64 xh,.int .i64 x1,.int .i64 x2,.int .i64 x3,.int .i64 x4,.int .i64 x5] 154)) qK qY ?_;refine zP ?_;refine kO (o:=⟨some 20,_,_,_,_,_⟩) rfl (.tmp 16) (.tmp 19) 95 rfl (w.heap.size+1) 154 j0 _ 8 72 uT hj gz0 gz1 gz2 rfl qZ bx.1 _ _ rfl HO3.o ⟨w3.heap.size,0,none⟩ 1 1 (kX (⟨xr,xm,xh,x1,x2,x3,x4,x5⟩:Cl)) rfl rfl (fun j u hj=>by rw[vZ,kB];exact(at_ (kZ rfl) j u jV).1) (gL _) (by simp only[maxLen,kS];omega) (by simp only[kS];omega) (by have :=HB.o.size;have :=HB3.o.size;simp at *;omega) ?_;intro v' w7 ho hg hv'
    have HO7:Hid (ClO (w.heap.size+1) w7 v' (kJ (i+1) (⟨xr,xm,xh,x1,x2,x3,x4,x5⟩:Cl))):=Hd (by unfold ClO;rw[List.replicate_succ',uC,jI];exact ho);have HB7:=Hd ((show Below (w.heap.size+1) (w.alloc (.cells #[.int .i64 b.k,.int .i64 b.n] 38)) _ from HB.o.trans (HBX.o.mono (by have :=HB.o.size;simpa using this))).grown hg (by have :=HB.o.size;have :=HB3.o.size;simp at *;omega) (fun b hb=>(kK.lt (show kK _ _ _ _ _ _ _ from HO3.o) b hb).1));refine zP ?_;clear ho hg hv'
    go_wp2
    go_roundw
    case rel=>exact⟨i+1,by go_num,by omega,HO7.o,HB7.o⟩
    case measure=>exact zm
def JE(o:List Cl)(x n:Int)(b:Col):List Cl:=
 if x<0∨(o.length:Int)≤x∨n<1 then o else(o.take x.toNat++kJ n.toNat (vD b)++o.drop x.toNat).take o.length
theorem Zu(o:List Cl)(x n:Int)(b:Col):(JE o x n b).length=o.length:=by
 unfold JE
 split
 · rfl
 · simp;omega
theorem qQy(l:List Cl)(x n:Int)(b:Col):uX (JE (uX l) x n b)=pU l x n b:=by
 unfold JE pU
 split
 · rw[if_pos (by assumption)];exact bT l
 · rw[if_neg (by assumption)]
def xL(o:List Cl)(x n:Int)(b:Col)(i:Nat):Option Cl:=
 if x<0∨(o.length:Int)≤x∨n<1∨(i:Int)<x then o[i]? else if(i:Int)-x<n then some (vD b)else o[((i:Int)-n).toNat]?
theorem insM_at(o:List Cl)(x n:Int)(b:Col)(i:Nat)(hi:i<o.length):(JE o x n b)[i]? =xL o x n b i:=by
 unfold xL JE
 by_cases h:x<0∨(o.length:Int)≤x∨n<1
 · rw[if_pos h,if_pos qJ]
 · rw[if_neg h,List.getElem?_take_of_lt hi]
   by_cases hx:(i:Int)<x
   · rw[if_pos qJ,vE qW,vE qW,List.getElem?_take_of_lt qJ]
   · rw[if_neg qJ]
     by_cases hn:(i:Int)-x<n
     · rw[if_pos hn,vE qW,vU qW,List.getElem?_replicate,if_pos qW]
     · rw[if_neg hn,vU qW,gV]
       congr 1
       simp;omega
def Yk(o:List Cl)(x n:Int)(b:Col):List Cl:=
 if x<0∨(o.length:Int)≤x∨n<1 then o else(o.take x.toNat++o.drop (x.toNat+n.toNat)++kJ n.toNat (vD b)).take o.length
theorem qJc(o:List Cl)(x n:Int)(b:Col):(Yk o x n b).length=o.length:=by
 unfold Yk
 split
 · rfl
 · simp;omega
theorem qJd(l:List Cl)(x n:Int)(b:Col):uX (Yk (uX l) x n b)=yC l x n b:=by
 unfold Yk yC
 split
 · rw[if_pos (by assumption)];exact bT l
 · rw[if_neg (by assumption)]
set_option maxHeartbeats 3200000 in
theorem Vs(A:Option Addr)(l:List Cl)(ca:Nat)(x n:Int)(b:Col)(w:World)(hl:pA kX 8 w A l)(h0:0<l.length)(hz:l.length≤10000):
 Calls jG 132 #[.slice A l.length ca,.int .i64 x,.int .i64 n,.agg #[.int .i64 b.k,.int .i64 b.n]] w (pK (pU l x n b) w):=by
 obtain⟨j0,hj,gz0,gz1,gz2⟩:=info_parts dY;have hb0:=jW (jU w.heap.size w) (.cells #[.int .i64 b.k,.int .i64 b.n] 38);have HB0:=Hd hb0;have HK:Hid (bD (w.alloc (.cells #[.int .i64 b.k,.int .i64 b.n] 38)) w.heap.size 0 (.int .i64 b.k)∧bD (w.alloc (.cells #[.int .i64 b.k,.int .i64 b.n] 38)) w.heap.size 1 (.int .i64 b.n)):=Hd ⟨at_ (kZ rfl) 0 _ rfl,at_ (kZ rfl) 1 _ rfl⟩;have HM:=Hd (eX A l l.length ca _ (hl.below hb0) rfl h0 hz);have HBL:=Hd (fun w=>nJ b w);have HM2:=Hd (fun(g cap base:Nat) (o:List Cl) (w':World) (h:CrO w' base g cap o) (hn:o.length=l.length)=>eX (some ⟨g,0,none⟩) o l.length cap w' h.gr hn h0 hz);clear hl hb0
 go_enter Tryz.func132,Tryz.ntmps132
 go_wp2_with(go_at_call 164;refine HM.o.mono ?_;rintro e w1 ⟨g,cap,rfl,hc,hb⟩;have HC:=Hd hc;have HB1:=Hd (jN HB0.o hb);have HK1:=Hd (show bD w1 w.heap.size 0 (.int .i64 b.k)∧bD w1 w.heap.size 1 (.int .i64 b.n)from⟨bQ hb HK.o.1,bQ hb HK.o.2⟩);clear hc hb)
 go_loopw [10,11] (fun s10 s11 wr=>∃(i:Nat) (P:List Cl),s11=.int .i64 i∧i≤l.length∧P.length=i∧P=(JE (uX l) x n b).take i∧ClO w1.heap.size wr s10 P∧Below w1.heap.size w1 wr) (fun _ s11 _=>l.length-(intOf s11).toNat)
 case atStart=>exact⟨0,[],rfl,kT _,rfl,rfl,uE _ _ _ _,jU _ _⟩
 case round=>
  obtain⟨i,P,rfl,hi,hP,hT,hO,hB⟩:=hrel;obtain⟨bx,rfl⟩:∃bx:Value×Unit,u10=bx.1:=⟨(u10,()),rfl⟩;have HO:=Hd hO;have HB:=Hd hB;have HP:=Hd hP;have HT:=Hd hT;have k0:=(bQ hB HK1.o.1).1;have k1:=(bQ hB HK1.o.2).1;clear hO hB hP hT
  by_cases hlt:i<l.length
  rotate_left
  · have hge:¬(i:Int)<(l.length:Int):=by omega
    have HPE:Hid (P=JE (uX l) x n b):=Hd (by rw[HT.o,vT (by rw[Zu,kR];omega)]);obtain⟨g2,cap2,hv,hc2⟩:=ClO.form HO.o (by rw[HP.o];omega);rw[show P.length=l.length by rw[HP.o];omega]at hv;have HM3:=Hd (HM2.o _ _ _ _ _ hc2 (by rw[HP.o];omega));rw[hv];clear hc2
    go_wp2_with(go_at_call 164;refine HM3.o.mono ?_;rintro e w2 ⟨g',cap',rfl,hc,hb⟩;have HC2:=Hd hc;have HB2:=Hd hb;clear hc hb)
    go_ret
    have hO2:=HC2.o;rw[HPE.o,qQy]at hO2;have hbb:=HB1.o.trans (HB.o.mono HB1.o.size);exact⟨g',cap',by rw[show(pU l x n b).length=l.length by rw[←qQy,kR,Zu,kR]];rfl,gJ hO2 hbb.size,jN hbb HB2.o⟩
  · have hltI:(i:Int)<(l.length:Int):=by omega
    have HAT:=Hd (insM_at (uX l) x n b i (by rw[kR];exact hlt));have HNX:Hid (∀c,(JE (uX l) x n b)[i]? =some c→P++[c]=(JE (uX l) x n b).take (i+1)):=Hd (fun c hc=>by rw[HT.o,List.take_add_one,hc];rfl);have HG:=Hd (fun(k:Nat) (c:Cl) (h:(uX l)[k]? =some c)=>pS (HC.o.range h) HB.o)
    by_cases e1:x<0
    · obtain⟨c,hc⟩:∃c,(uX l)[i]? =some c:=⟨(uX l)[i]'qT,jD _⟩;obtain⟨xr,xm,xh,x1,x2,x3,x4,x5⟩:=c;have HRG:=Hd (HG.o i _ hc);have HNC:=Hd (HNX.o _ qJ1);clear hc
      go_upto_region 8 with fail
      refine wp_region_lit ?_;refine zG (bx.1) ?_;refine zG (.slice (some ⟨g,0,none⟩) l.length cap) ?_;refine zG (.int .i64 (i:Int)) ?_;refine zGs (.pointer (some ⟨g,i*8,none⟩)) ?_;refine uF qK 154 (.tmp 50) rfl (g) (i*8) rfl (kX (⟨xr,xm,xh,x1,x2,x3,x4,x5⟩:Cl)) _ (HRG.o) uH rfl uD ?_;refine zP ?_;simp only[kX];have HBX:=Hd (jW (jU wr.heap.size wr) (.cells #[.int .i32 xr,.string xm,.int .i64 xh,.int .i64 x1,.int .i64 x2,.int .i64 x3,.int .i64 x4,.int .i64 x5] 154));have HO3:=Hd (ClO.below HO.o HBX.o);refine uM (.slice (some ⟨wr.heap.size,0,none⟩) 1 1) (wr.alloc (.cells #[.int .i32 xr,.string xm,.int .i64 xh,.int .i64 x1,.int .i64 x2,.int .i64 x3,.int .i64 x4,.int .i64 x5] 154)) qK qY ?_;refine zP ?_;refine kO rfl (.tmp 47) (.tmp 52) 95 rfl w1.heap.size 154 j0 _ 8 72 uT hj gz0 gz1 gz2 rfl qZ bx.1 _ _ rfl HO3.o ⟨wr.heap.size,0,none⟩ 1 1 (kX (⟨xr,xm,xh,x1,x2,x3,x4,x5⟩:Cl)) rfl rfl (fun j u hj=>by rw[vZ,kB];exact(at_ (kZ rfl) j u jV).1) (gL _) qM qR qC ?_;intro v' w7 ho hg hv';have HO7:Hid (ClO w1.heap.size w7 v' (P++[(⟨xr,xm,xh,x1,x2,x3,x4,x5⟩:Cl)])):=Hd qP
      have HB7:=Hd ((show Below w1.heap.size w1 _ from HB.o.trans (HBX.o.mono HB.o.size)).grown hg qC (fun b hb=>(kK.lt (show kK _ _ _ _ _ _ _ from HO3.o) b hb).1));refine zP ?_;clear ho hg hv'
      go_wp2
      go_roundw
      case rel=>exact⟨i+1,P++[(⟨xr,xm,xh,x1,x2,x3,x4,x5⟩:Cl)],by go_num,by omega,by rw[jI,HP.o];rfl,HNC.o,HO7.o,HB7.o⟩
      case measure=>exact zm
    by_cases e2:(l.length:Int)≤x
    · obtain⟨c,hc⟩:∃c,(uX l)[i]? =some c:=⟨(uX l)[i]'qT,jD _⟩;obtain⟨xr,xm,xh,x1,x2,x3,x4,x5⟩:=c;have HRG:=Hd (HG.o i _ hc);have HNC:=Hd (HNX.o _ qJ1);clear hc
      go_upto_region 8 with fail
      refine wp_region_lit ?_;refine zG (bx.1) ?_;refine zG (.slice (some ⟨g,0,none⟩) l.length cap) ?_;refine zG (.int .i64 (i:Int)) ?_;refine zGs (.pointer (some ⟨g,i*8,none⟩)) ?_;refine uF qK 154 (.tmp 50) rfl (g) (i*8) rfl (kX (⟨xr,xm,xh,x1,x2,x3,x4,x5⟩:Cl)) _ (HRG.o) uH rfl uD ?_;refine zP ?_;simp only[kX];have HBX:=Hd (jW (jU wr.heap.size wr) (.cells #[.int .i32 xr,.string xm,.int .i64 xh,.int .i64 x1,.int .i64 x2,.int .i64 x3,.int .i64 x4,.int .i64 x5] 154));have HO3:=Hd (ClO.below HO.o HBX.o);refine uM (.slice (some ⟨wr.heap.size,0,none⟩) 1 1) (wr.alloc (.cells #[.int .i32 xr,.string xm,.int .i64 xh,.int .i64 x1,.int .i64 x2,.int .i64 x3,.int .i64 x4,.int .i64 x5] 154)) qK qY ?_;refine zP ?_;refine kO rfl (.tmp 47) (.tmp 52) 95 rfl w1.heap.size 154 j0 _ 8 72 uT hj gz0 gz1 gz2 rfl qZ bx.1 _ _ rfl HO3.o ⟨wr.heap.size,0,none⟩ 1 1 (kX (⟨xr,xm,xh,x1,x2,x3,x4,x5⟩:Cl)) rfl rfl (fun j u hj=>by rw[vZ,kB];exact(at_ (kZ rfl) j u jV).1) (gL _) qM qR qC ?_;intro v' w7 ho hg hv';have HO7:Hid (ClO w1.heap.size w7 v' (P++[(⟨xr,xm,xh,x1,x2,x3,x4,x5⟩:Cl)])):=Hd qP
      have HB7:=Hd ((show Below w1.heap.size w1 _ from HB.o.trans (HBX.o.mono HB.o.size)).grown hg qC (fun b hb=>(kK.lt (show kK _ _ _ _ _ _ _ from HO3.o) b hb).1));refine zP ?_;clear ho hg hv'
      go_wp2
      go_roundw
      case rel=>exact⟨i+1,P++[(⟨xr,xm,xh,x1,x2,x3,x4,x5⟩:Cl)],by go_num,by omega,by rw[jI,HP.o];rfl,HNC.o,HO7.o,HB7.o⟩
      case measure=>exact zm
    by_cases e3:n<1
    · obtain⟨c,hc⟩:∃c,(uX l)[i]? =some c:=⟨(uX l)[i]'qT,jD _⟩;obtain⟨xr,xm,xh,x1,x2,x3,x4,x5⟩:=c;have HRG:=Hd (HG.o i _ hc);have HNC:=Hd (HNX.o _ qJ1);clear hc
      go_upto_region 8 with fail
      refine wp_region_lit ?_;refine zG (bx.1) ?_;refine zG (.slice (some ⟨g,0,none⟩) l.length cap) ?_;refine zG (.int .i64 (i:Int)) ?_;refine zGs (.pointer (some ⟨g,i*8,none⟩)) ?_;refine uF qK 154 (.tmp 50) rfl (g) (i*8) rfl (kX (⟨xr,xm,xh,x1,x2,x3,x4,x5⟩:Cl)) _ (HRG.o) uH rfl uD ?_;refine zP ?_;simp only[kX];have HBX:=Hd (jW (jU wr.heap.size wr) (.cells #[.int .i32 xr,.string xm,.int .i64 xh,.int .i64 x1,.int .i64 x2,.int .i64 x3,.int .i64 x4,.int .i64 x5] 154));have HO3:=Hd (ClO.below HO.o HBX.o);refine uM (.slice (some ⟨wr.heap.size,0,none⟩) 1 1) (wr.alloc (.cells #[.int .i32 xr,.string xm,.int .i64 xh,.int .i64 x1,.int .i64 x2,.int .i64 x3,.int .i64 x4,.int .i64 x5] 154)) qK qY ?_;refine zP ?_;refine kO rfl (.tmp 47) (.tmp 52) 95 rfl w1.heap.size 154 j0 _ 8 72 uT hj gz0 gz1 gz2 rfl qZ bx.1 _ _ rfl HO3.o ⟨wr.heap.size,0,none⟩ 1 1 (kX (⟨xr,xm,xh,x1,x2,x3,x4,x5⟩:Cl)) rfl rfl (fun j u hj=>by rw[vZ,kB];exact(at_ (kZ rfl) j u jV).1) (gL _) qM qR qC ?_;intro v' w7 ho hg hv';have HO7:Hid (ClO w1.heap.size w7 v' (P++[(⟨xr,xm,xh,x1,x2,x3,x4,x5⟩:Cl)])):=Hd qP
      have HB7:=Hd ((show Below w1.heap.size w1 _ from HB.o.trans (HBX.o.mono HB.o.size)).grown hg qC (fun b hb=>(kK.lt (show kK _ _ _ _ _ _ _ from HO3.o) b hb).1));refine zP ?_;clear ho hg hv'
      go_wp2
      go_roundw
      case rel=>exact⟨i+1,P++[(⟨xr,xm,xh,x1,x2,x3,x4,x5⟩:Cl)],by go_num,by omega,by rw[jI,HP.o];rfl,HNC.o,HO7.o,HB7.o⟩
      case measure=>exact zm
    by_cases e4:(i:Int)<x
    · obtain⟨c,hc⟩:∃c,(uX l)[i]? =some c:=⟨(uX l)[i]'qT,jD _⟩;obtain⟨xr,xm,xh,x1,x2,x3,x4,x5⟩:=c;have HRG:=Hd (HG.o i _ hc);have HNC:=Hd (HNX.o _ qJ1);clear hc
      go_upto_region 8 with fail
      refine wp_region_lit ?_;refine zG (bx.1) ?_;refine zG (.slice (some ⟨g,0,none⟩) l.length cap) ?_;refine zG (.int .i64 (i:Int)) ?_;refine zGs (.pointer (some ⟨g,i*8,none⟩)) ?_;refine uF qK 154 (.tmp 50) rfl (g) (i*8) rfl (kX (⟨xr,xm,xh,x1,x2,x3,x4,x5⟩:Cl)) _ (HRG.o) uH rfl uD ?_;refine zP ?_;simp only[kX];have HBX:=Hd (jW (jU wr.heap.size wr) (.cells #[.int .i32 xr,.string xm,.int .i64 xh,.int .i64 x1,.int .i64 x2,.int .i64 x3,.int .i64 x4,.int .i64 x5] 154));have HO3:=Hd (ClO.below HO.o HBX.o);refine uM (.slice (some ⟨wr.heap.size,0,none⟩) 1 1) (wr.alloc (.cells #[.int .i32 xr,.string xm,.int .i64 xh,.int .i64 x1,.int .i64 x2,.int .i64 x3,.int .i64 x4,.int .i64 x5] 154)) qK qY ?_;refine zP ?_;refine kO rfl (.tmp 47) (.tmp 52) 95 rfl w1.heap.size 154 j0 _ 8 72 uT hj gz0 gz1 gz2 rfl qZ bx.1 _ _ rfl HO3.o ⟨wr.heap.size,0,none⟩ 1 1 (kX (⟨xr,xm,xh,x1,x2,x3,x4,x5⟩:Cl)) rfl rfl (fun j u hj=>by rw[vZ,kB];exact(at_ (kZ rfl) j u jV).1) (gL _) qM qR qC ?_;intro v' w7 ho hg hv';have HO7:Hid (ClO w1.heap.size w7 v' (P++[(⟨xr,xm,xh,x1,x2,x3,x4,x5⟩:Cl)])):=Hd qP
      have HB7:=Hd ((show Below w1.heap.size w1 _ from HB.o.trans (HBX.o.mono HB.o.size)).grown hg qC (fun b hb=>(kK.lt (show kK _ _ _ _ _ _ _ from HO3.o) b hb).1));refine zP ?_;clear ho hg hv'
      go_wp2
      go_roundw
      case rel=>exact⟨i+1,P++[(⟨xr,xm,xh,x1,x2,x3,x4,x5⟩:Cl)],by go_num,by omega,by rw[jI,HP.o];rfl,HNC.o,HO7.o,HB7.o⟩
      case measure=>exact zm
    have hwx:jP.wrap ((i:Int)-x)=(i:Int)-x:=jH _ qJ
    by_cases e5:(i:Int)-x<n
    · have HNC0:=Hd (HNX.o (vD b) (by rw[HAT.o];unfold xL;rw[if_neg qT,if_pos qJ]));obtain⟨X,hX⟩:∃X,vD b=X:=⟨_,rfl⟩;rw[hX]at HBL HNC0;clear hX;obtain⟨xr,xm,xh,x1,x2,x3,x4,x5⟩:=X;have HNC:=HNC0
      go_upto_region 10 with fail
      refine wp_region_lit ?_;refine zG (bx.1) ?_;refine zGs (.agg #[.int .i64 b.k,.int .i64 b.n]) ?_;refine mT rfl 206 #[.agg #[.int .i64 b.k,.int .i64 b.n]] qY (HBL.o _) (.agg #[.int .i32 xr,.string xm,.int .i64 xh,.int .i64 x1,.int .i64 x2,.int .i64 x3,.int .i64 x4,.int .i64 x5]) (fun e w' h=>h.1) ?_;rintro w3 ⟨-,hb⟩;have HO2:=Hd (ClO.below HO.o hb);have HB3:=Hd (HB.o.trans (hb.mono HB.o.size));clear hb k0 k1;refine zP ?_;have HBX:=Hd (jW (jU w3.heap.size w3) (.cells #[.int .i32 xr,.string xm,.int .i64 xh,.int .i64 x1,.int .i64 x2,.int .i64 x3,.int .i64 x4,.int .i64 x5] 154));have HO3:=Hd (ClO.below HO2.o HBX.o);refine uM (.slice (some ⟨w3.heap.size,0,none⟩) 1 1) (w3.alloc (.cells #[.int .i32 xr,.string xm,.int .i64 xh,.int .i64 x1,.int .i64 x2,.int .i64 x3,.int .i64 x4,.int .i64 x5] 154)) qK qY ?_;refine zP ?_;refine kO rfl (.tmp 60) (.tmp 63) 95 rfl w1.heap.size 154 j0 _ 8 72 uT hj gz0 gz1 gz2 rfl qZ bx.1 _ _ rfl HO3.o ⟨w3.heap.size,0,none⟩ 1 1 (kX (⟨xr,xm,xh,x1,x2,x3,x4,x5⟩:Cl)) rfl rfl (fun j u hj=>by rw[vZ,kB];exact(at_ (kZ rfl) j u jV).1) (gL _) qM qR qKn ?_;intro v' w7 ho hg hv';have HO7:Hid (ClO w1.heap.size w7 v' (P++[(⟨xr,xm,xh,x1,x2,x3,x4,x5⟩:Cl)])):=Hd qP
      have HB7:=Hd ((show Below w1.heap.size w1 _ from HB3.o.trans (HBX.o.mono HB3.o.size)).grown hg qKn (fun b hb=>(kK.lt (show kK _ _ _ _ _ _ _ from HO3.o) b hb).1));refine zP ?_;clear ho hg hv'
      go_wp2
      go_roundw
      case rel=>exact⟨i+1,P++[(⟨xr,xm,xh,x1,x2,x3,x4,x5⟩:Cl)],by go_num,by omega,by rw[jI,HP.o];rfl,HNC.o,HO7.o,HB7.o⟩
      case measure=>exact zm
    · skip
      obtain⟨k,hk⟩:∃k:Nat,(i:Int)-n=(k:Int):=⟨((i:Int)-n).toNat,by omega⟩;have hwk:jP.wrap (k:Int)=(k:Int):=jH _ qJ;have hkl:k<l.length:=by omega
      have hklI:(k:Int)<(l.length:Int):=by omega
      obtain⟨c,hc⟩:∃c,(uX l)[k]? =some c:=⟨(uX l)[k]'qT,jD _⟩;obtain⟨xr,xm,xh,x1,x2,x3,x4,x5⟩:=c;have HRG:=Hd (HG.o k _ hc);have HNC:=Hd (HNX.o _ (by rw[HAT.o];unfold xL;rw[if_neg qT,if_neg qJ,hk];exact hc));clear hc
      go_upto_region 6 with fail
      refine wp_region_lit ?_;refine zG (bx.1) ?_;refine zG (.slice (some ⟨g,0,none⟩) l.length cap) ?_;refine zG (.int .i64 (i:Int)) ?_;refine zG (.int .i64 n) ?_;refine zGs (.int .i64 (k:Int)) ?_;refine zGs (.pointer (some ⟨g,k*8,none⟩)) ?_;refine uF qK 154 (.tmp 25) rfl (g) (k*8) rfl (kX (⟨xr,xm,xh,x1,x2,x3,x4,x5⟩:Cl)) _ (HRG.o) uH rfl uD ?_;refine zP ?_;simp only[kX];have HBX:=Hd (jW (jU wr.heap.size wr) (.cells #[.int .i32 xr,.string xm,.int .i64 xh,.int .i64 x1,.int .i64 x2,.int .i64 x3,.int .i64 x4,.int .i64 x5] 154));have HO3:=Hd (ClO.below HO.o HBX.o);refine uM (.slice (some ⟨wr.heap.size,0,none⟩) 1 1) (wr.alloc (.cells #[.int .i32 xr,.string xm,.int .i64 xh,.int .i64 x1,.int .i64 x2,.int .i64 x3,.int .i64 x4,.int .i64 x5] 154)) qK qY ?_;refine zP ?_;refine kO rfl (.tmp 20) (.tmp 27) 95 rfl w1.heap.size 154 j0 _ 8 72 uT hj gz0 gz1 gz2 rfl qZ bx.1 _ _ rfl HO3.o ⟨wr.heap.size,0,none⟩ 1 1 (kX (⟨xr,xm,xh,x1,x2,x3,x4,x5⟩:Cl)) rfl rfl (fun j u hj=>by rw[vZ,kB];exact(at_ (kZ rfl) j u jV).1) (gL _) qM qR qC ?_;intro v' w7 ho hg hv';have HO7:Hid (ClO w1.heap.size w7 v' (P++[(⟨xr,xm,xh,x1,x2,x3,x4,x5⟩:Cl)])):=Hd qP
      have HB7:=Hd ((show Below w1.heap.size w1 _ from HB.o.trans (HBX.o.mono HB.o.size)).grown hg qC (fun b hb=>(kK.lt (show kK _ _ _ _ _ _ _ from HO3.o) b hb).1));refine zP ?_;clear ho hg hv'
      go_wp2
      go_roundw
      case rel=>exact⟨i+1,P++[(⟨xr,xm,xh,x1,x2,x3,x4,x5⟩:Cl)],by go_num,by omega,by rw[jI,HP.o];rfl,HNC.o,HO7.o,HB7.o⟩
      case measure=>exact zm
def lE(o:List Cl)(x n:Int)(i:Nat):List Cl:=
 if x<0∨(o.length:Int)≤x∨n<1 then o.take i else o.take (min i x.toNat)++(o.take i).drop (x.toNat+n.toNat)
theorem Ws(o:List Cl)(x n:Int):lE o x n 0=[]:=by unfold lE;split<;>simp
theorem tB{o:List Cl}{x n:Int}{i:Nat}{c:Cl}(hc:o[i]? =some c)(h:x<0∨(o.length:Int)≤x∨n<1∨(i:Int)<x∨n≤(i:Int)-x):lE o x n (i+1)=lE o x n i++[c]:=by
 have hi:=(jE.1 hc).1;unfold lE
 split
 · rw[List.take_add_one,hc];rfl
 · by_cases hx:(i:Int)<x
   · rw[vR qW,vR qW,List.append_nil,List.append_nil,show min (i+1) x.toNat=i+1 by omega,show min i x.toNat=i by omega,List.take_add_one,hc];rfl
   · rw[show min (i+1) x.toNat=x.toNat by omega,show min i x.toNat=x.toNat by omega,List.take_add_one,hc,List.drop_append_of_le_length qW,uK];rfl
theorem qJa{o:List Cl}{x n:Int}{i:Nat}(h:¬(x<0∨(o.length:Int)≤x∨n<1∨(i:Int)<x∨n≤(i:Int)-x)):lE o x n (i+1)=lE o x n i:=by
 unfold lE;rw[if_neg qJ,if_neg qJ,show min (i+1) x.toNat=min i x.toNat by omega,vR qW,vR qW]
theorem delP_le(o:List Cl)(x n:Int)(i:Nat):(lE o x n i).length≤i:=by
 unfold lE
 split
 · simp;omega
 · simp;omega
theorem qJb{o:List Cl}{x n:Int}{j:Nat}{b:Col}(h:(lE o x n o.length).length+j=o.length):lE o x n o.length++kJ j (vD b)=Yk o x n b:=by
 unfold lE Yk at *
 split at h
 · next hh=>
   rw[if_pos hh,if_pos hh];have :j=0:=by simp at h;omega
   subst this;simp
 · next hh=>
   rw[if_neg hh,if_neg hh,List.take_length,show min o.length x.toNat=x.toNat by omega];rw[List.take_length,show min o.length x.toNat=x.toNat by omega]at h;have hl:=h;simp only[jI,vH,List.length_drop]at hl;have hjn:j≤n.toNat:=by omega
   clear hl;generalize o.take x.toNat++o.drop (x.toNat+n.toNat)=Q at *;rw[List.take_append,vT qJ,List.take_replicate,show min (o.length-Q.length) n.toNat=j by omega]
section
variable {P:Program}
theorem tJ{fn:Func}{p u:Tmp}{ty:TypeId}(h:fn.results=#[.cell p ty,.tmp u])(tmps:Array Value)(w:World):
 (results fn tmps).run P w=((asAddr (tmps.getD p undef)).run P w).andThen fun a w1=>((loadVar ty a).run P w1).andThen fun v w2=>.ok (.tuple #[v,tmps.getD u undef]) w2:=by
 simp only[results,h];simp[Sem.run_bind,Result.andThen]
theorem yT{fn:Func}{u p:Tmp}{ty:TypeId}{d:TypeDesc}(hr:fn.results=#[.cell p ty,.tmp u])(tmps:Array Value)(w:World)(b:Nat)(cs:List Value)(hp:tmps.getD p undef=.pointer (some ⟨b,0,none⟩))(h:w.rangeAt b 0 cs)
 (hu:P.underlying ty=some d) (hd:d.isRow=true) (hi:(P.info? ty).map (·.size)=some cs.length):(results fn tmps).run P w=.ok (.tuple #[.agg cs.toArray,tmps.getD u undef]) w:=by
 rw[tJ hr,hp];have :=run_loadVar_mid (P:=P) w b 0 ty cs _ h hu hd hi;simp only[asAddr,Sem.run_pure,Result.andThen_ok,this]
end
theorem tL(v lo hi:Int)(w:World)(h1:0≤lo)(h2:lo≤1000)(h3:0≤hi)(h4:hi≤1000)(hv:0≤v)(hv2:v≤65535):Calls jG 254 #[.int .i64 v,.int .i64 lo,.int .i64 hi] w (VC v lo hi w):=by
 have w1:jP.wrap (lo+8)=lo+8:=jH _ qJ;have w2:jP.wrap (hi+8)=hi+8:=jH _ qJ;have w3:jP.wrap (v-lo)=v-lo:=jH _ qJ;have w4:jP.wrap (v-hi)=v-hi:=jH _ qJ;have w5:jP.wrap (v-hi+8)=v-hi+8:=jH _ qJ;have w6:jP.wrap (lo+9)=lo+9:=jH _ qJ;unfold VC eL
 by_cases a1:lo≤v∧v<lo+8
 · rw[if_pos a1];obtain⟨b1,b2⟩:=a1
   go_enter Tryz.func254,Tryz.ntmps254
   go_wp2
   exact bodyPost_ret (yT rfl _ _ w.heap.size [.int .i64 1,.int .i64 (v-lo)] rfl (kA (kZ rfl)) kE rfl uO) rfl ⟨rfl,jW (jU _ _) _⟩
 rw[if_neg a1];have a1':(lo≤v∧¬v<lo+8)∨¬lo≤v:=by omega
 clear a1
 by_cases a2:hi≤v∧v<hi+8
 · rw[if_pos a2];obtain⟨b1,b2⟩:=a2;rcases a1' with⟨c1,c2⟩|c1
   all_goals
    go_enter Tryz.func254,Tryz.ntmps254
    go_wp2
    exact bodyPost_ret (yT rfl _ _ w.heap.size [.int .i64 1,.int .i64 (v-hi+8)] rfl (kA (kZ rfl)) kE rfl uO) rfl ⟨rfl,jW (jU _ _) _⟩
 · rw[if_neg a2];have a2':(hi≤v∧¬v<hi+8)∨¬hi≤v:=by omega
   clear a2;rcases a1' with⟨c1,c2⟩|c1<;>rcases a2' with⟨d1,d2⟩|d1
   all_goals
    go_enter Tryz.func254,Tryz.ntmps254
    go_wp2
    exact bodyPost_ret (yT rfl _ _ w.heap.size [.int .i64 0,.int .i64 0] rfl (kA (kZ rfl)) kE rfl uO) rfl ⟨rfl,jW (jU _ _) _⟩
def f21(f v:Int):Int:=if v=21 then bits .or .i64 (bits .andNot .i64 f 8) 256 else f
def Qb(f v:Int):Int:=bits .andNot .i64 (bits .or .i64 (f21 f v) (Jb v)) (rH v)
def Yx(a:Atr)(v:Int):Atr:=
 ⟨if(eL v 30 90).2 then(eL v 30 90).1.k else a.fk,if(eL v 30 90).2 then(eL v 30 90).1.n else a.fn,if(eL v 40 100).2 then(eL v 40 100).1.k else a.bk,if(eL v 40 100).2 then(eL v 40 100).1.n else a.bn,Qb a.fl v⟩
def fO(a:Atr)(w:World)(e:Ending)(w':World):Prop:=e=.returned (.agg (aL a).toArray)∧Below w.heap.size w w'
theorem uV{w:World}{b b2 i:Nat}{v:Value}{o:Obj}(h:w.heap[b]? =some o)(hn:b≠b2):(w.setCell ⟨b2,i,none⟩ v).heap[b]? =some o:=(gS hn).trans h
set_option maxHeartbeats 6400000 in
theorem Zx(a:Atr)(v:Int)(w:World)(hv0:v≠0)(hv:0≤v)(hv2:v≤65535):Calls jG 184 #[.agg (aL a).toArray,.int .i64 v] w (fO (Yx a v) w):=by
 have HS:=Hd (fun w=>Q7 v w);have HC:=Hd (fun w=>XQ v w);have HP1:=Hd (fun w=>tL v 30 90 w qZ qZ qZ qZ hv hv2);have HP2:=Hd (fun w=>tL v 40 100 w qZ qZ qZ qZ hv hv2);unfold VC at HP1 HP2;obtain⟨fk,fn,bk,bn,fl⟩:=a;unfold Yx Qb;simp only[];obtain⟨p1,hp1⟩:∃p,eL v 30 90=p:=⟨_,rfl⟩;obtain⟨p2,hp2⟩:∃p,eL v 40 100=p:=⟨_,rfl⟩;rw[hp1]at HP1 ⊢;rw[hp2]at HP2 ⊢;clear hp1 hp2;obtain⟨⟨k1,n1⟩,o1⟩:=p1;obtain⟨⟨k2,n2⟩,o2⟩:=p2;simp only[]at HP1 HP2 ⊢;obtain⟨sv,hsv⟩:∃sv,Jb v=sv:=⟨_,rfl⟩;obtain⟨cv,hcv⟩:∃sv,rH v=sv:=⟨_,rfl⟩;rw[hsv]at HS ⊢;rw[hcv]at HC ⊢;clear hsv hcv;have hv0q:(v==0)=false:=zb hv0;unfold f21 aL;simp only[];obtain⟨g1,hg1⟩:∃g,(if o1=true then k1 else fk)=g:=⟨_,rfl⟩;obtain⟨g2,hg2⟩:∃g,(if o1=true then n1 else fn)=g:=⟨_,rfl⟩;obtain⟨g3,hg3⟩:∃g,(if o2=true then k2 else bk)=g:=⟨_,rfl⟩;obtain⟨g4,hg4⟩:∃g,(if o2=true then n2 else bn)=g:=⟨_,rfl⟩;rw[hg1,hg2,hg3,hg4];have HG1:=Hd (kM hg1 hg2);have HG2:=Hd (kM hg3 hg4);clear hg1 hg2 hg3 hg4
 by_cases h21:v=21
 · rw[if_pos h21];have hq:(v==21)=true:=by rw[h21];rfl
   obtain⟨f1,hf1⟩:∃f1,bits .or .i64 (bits .andNot .i64 fl 8) 256=f1:=⟨_,rfl⟩;rw[hf1];obtain⟨FB,hFB⟩:∃FB,bits .andNot .i64 (bits .or .i64 f1 sv) cv=FB:=⟨_,rfl⟩;rw[hFB];have HFB:=Hd hFB;clear h21 hv0 hv hv2 hFB
   go_enter Tryz.func184,Tryz.ntmps184
   go_upto_region 4 with fail
   generalize hW:World.alloc _ _=W2;have hx:W2.heap[w.heap.size]? =some (.cells (aL ⟨fk,fn,bk,bn,fl⟩).toArray 40 (0,0)):=by rw[←hW];exact uI (kZ rfl)
   have hy:W2.heap[w.heap.size+1]? =some (.cells (aL zY).toArray 40 (0,0)):=by rw[←hW];exact kZ qV
   have hb:Below w.heap.size w W2:=by rw[←hW];exact jW (jW (jU _ _) _) _
   clear hW;obtain⟨c4,f4⟩:=at_ hx 4 (.int .i64 fl) rfl
   go_upto_region 5 with fail
   have hx5:(W2.setCell ⟨w.heap.size,4,none⟩ (.int .i64 f1)).heap[w.heap.size]? =some (.cells (aL ⟨fk,fn,bk,bn,f1⟩).toArray 40 (0,0)):=kY hx 4 _ rfl;have hy5:=uV (i:=4) (v:=.int .i64 f1) hy (show w.heap.size+1≠w.heap.size by omega);have hb5:=kH hb (jS w.heap.size) (o:=4) (.int .i64 f1);clear hx hy hb c4 f4 hf1 hq hv0q;generalize W2.setCell ⟨w.heap.size,4,none⟩ (.int .i64 f1)=W5 at hx5 hy5 hb5 ⊢;have HX5:=Hd hx5;have HY5:=Hd hy5;have HB5:=Hd hb5;obtain⟨c4,f4⟩:=at_ hx5 4 (.int .i64 f1) rfl;clear hx5 hy5 hb5;refine zU1 9 c4 ?_
   repeat first|refine zS ?_|refine zD 252 #[.int .i64 v] (.int .i64 sv) (fun w' hS=>(HS.o w').mono fun e w2 ⟨he,hw⟩=>⟨he,hw▸hS⟩) ?_|refine zD 253 #[.int .i64 v] (.int .i64 cv) (fun w' hS=>(HC.o w').mono fun e w2 ⟨he,hw⟩=>⟨he,hw▸hS⟩) ?_|refine zV ?_
   refine kU (fun w' hS=>?_);have hx6:=(hS.1.block _ (kQ HX5.o)).trans HX5.o;have hy6:=(hS.1.block _ (kQ HY5.o)).trans HY5.o;have hb6:=jN HB5.o hS.1;clear hS c4 f4;obtain⟨c4,f4⟩:=at_ hx6 4 (.int .i64 f1) rfl;have hFB:=HFB.o
   go_upto_region 6 with fail
   have hx7:(w'.setCell ⟨w.heap.size,4,none⟩ (.int .i64 FB)).heap[w.heap.size]? =some (.cells (aL ⟨fk,fn,bk,bn,FB⟩).toArray 40 (0,0)):=kY hx6 4 _ rfl;have hy7:=uV (i:=4) (v:=.int .i64 FB) hy6 (show w.heap.size+1≠w.heap.size by omega);have hb7:=kH hb6 (jS w.heap.size) (o:=4) (.int .i64 FB);clear hx6 hy6 hb6 c4 f4 hFB;generalize w'.setCell ⟨w.heap.size,4,none⟩ (.int .i64 FB)=W7 at hx7 hy7 hb7 ⊢;have HX:=Hd hx7;have HY:=Hd hy7;have HB:=Hd hb7;clear hx7 hy7 hb7 HX5 HY5 HB5
   go_upto_region 7 with(go_at_call 254;(with_reducible refine(HP1.o _).mono ?_);rintro e w8 ⟨rfl,hb8⟩;have HB8:=Hd hb8;clear hb8)
   generalize hW8:World.alloc _ _=W8;have hb8:Below w8.heap.size w8 W8:=by rw[←hW8];exact jW (jU _ _) _
   have hc8:W8.heap[w8.heap.size]? =some (.cells #[.int .i64 k1,.int .i64 n1] 38 (0,0)):=by rw[←hW8];exact kZ rfl
   have hb9:=jN HB8.o hb8;have hx9:=(hb9.block _ (kQ HX.o)).trans HX.o;have hy9:=(hb9.block _ (kQ HY.o)).trans HY.o;have hB9:=jN HB.o hb9;clear hW8 hb8 hb9 HB8 HX HY HB;obtain⟨d0,-⟩:=at_ hc8 0 (.int .i64 k1) rfl;obtain⟨d1,-⟩:=at_ hc8 1 (.int .i64 n1) rfl;obtain⟨x0,x0f⟩:=at_ hx9 0 (.int .i64 fk) rfl;obtain⟨x1,x1f⟩:=at_ hx9 1 (.int .i64 fn) rfl;have HX9:=Hd hx9;have HY9:=Hd hy9;have HB9:=Hd hB9;clear hc8 hx9 hy9 hB9;cases o1
   case' false=>
    go_upto_region 9 with fail
    clear d0 d1 x0 x0f x1 x1f;have HX:Hid (W8.heap[w.heap.size]? =some (.cells (aL ⟨g1,g2,bk,bn,FB⟩).toArray 40 (0,0))):=Hd (by rw[←HG1.o.1,←HG1.o.2];exact HX9.o);have HY:=HY9;have HB:=HB9
    rename World=>W9
   case' true=>
    go_upto_region 9 with fail
    have HX:Hid (((W8.setCell ⟨w.heap.size,0,none⟩ (.int .i64 k1)).setCell ⟨w.heap.size,1,none⟩ (.int .i64 n1)).heap[w.heap.size]? =some (.cells (aL ⟨g1,g2,bk,bn,FB⟩).toArray 40 (0,0))):=Hd qK0;have HY:Hid (((W8.setCell ⟨w.heap.size,0,none⟩ (.int .i64 k1)).setCell ⟨w.heap.size,1,none⟩ (.int .i64 n1)).heap[w.heap.size+1]? =some (.cells (aL zY).toArray 40 (0,0))):=Hd (uV (uV HY9.o qJ) qJ);have HB:=Hd (kH (kH HB9.o (jS w.heap.size) (o:=0) (.int .i64 k1)) (jS w.heap.size) (o:=1) (.int .i64 n1));clear d0 d1 x0 x0f x1 x1f;generalize (W8.setCell ⟨w.heap.size,0,none⟩ (.int .i64 k1)).setCell ⟨w.heap.size,1,none⟩ (.int .i64 n1)=W9 at HX HY HB ⊢
   all_goals
    clear HX9 HY9 HB9 HP1
    go_upto_region 10 with(go_at_call 254;(with_reducible refine(HP2.o _).mono ?_);rintro e w10 ⟨rfl,hb10⟩;have HB10:=Hd hb10;clear hb10)
    generalize hW10:World.alloc _ _=W10;have hb11:Below w10.heap.size w10 W10:=by rw[←hW10];exact jW (jU _ _) _
    have hc11:W10.heap[w10.heap.size]? =some (.cells #[.int .i64 k2,.int .i64 n2] 38 (0,0)):=by rw[←hW10];exact kZ rfl
    have hb12:=jN HB10.o hb11;have hx12:=(hb12.block _ (kQ HX.o)).trans HX.o;have hy12:=(hb12.block _ (kQ HY.o)).trans HY.o;have hB12:=jN HB.o hb12;clear hW10 hb11 hb12 HB10 HX HY HB;obtain⟨d0,-⟩:=at_ hc11 0 (.int .i64 k2) rfl;obtain⟨d1,-⟩:=at_ hc11 1 (.int .i64 n2) rfl;obtain⟨x2,x2f⟩:=at_ hx12 2 (.int .i64 bk) rfl;obtain⟨x3,x3f⟩:=at_ hx12 3 (.int .i64 bn) rfl;have HX12:=Hd hx12;have HY12:=Hd hy12;have HB12:=Hd hB12;clear hc11 hx12 hy12 hB12;cases o2
    case' false=>
     go_upto_region 12 with fail
     clear d0 d1 x2 x2f x3 x3f;have HX:Hid (W10.heap[w.heap.size]? =some (.cells (aL ⟨g1,g2,g3,g4,FB⟩).toArray 40 (0,0))):=Hd (by rw[←HG2.o.1,←HG2.o.2];exact HX12.o);have HY:=HY12;have HB:=HB12
     rename World=>W11
    case' true=>
     go_upto_region 12 with fail
     have HX:Hid (((W10.setCell ⟨w.heap.size,2,none⟩ (.int .i64 k2)).setCell ⟨w.heap.size,3,none⟩ (.int .i64 n2)).heap[w.heap.size]? =some (.cells (aL ⟨g1,g2,g3,g4,FB⟩).toArray 40 (0,0))):=Hd qKy;have HY:Hid (((W10.setCell ⟨w.heap.size,2,none⟩ (.int .i64 k2)).setCell ⟨w.heap.size,3,none⟩ (.int .i64 n2)).heap[w.heap.size+1]? =some (.cells (aL zY).toArray 40 (0,0))):=Hd (uV (uV HY12.o qJ) qJ);have HB:=Hd (kH (kH HB12.o (jS w.heap.size) (o:=2) (.int .i64 k2)) (jS w.heap.size) (o:=3) (.int .i64 n2));clear d0 d1 x2 x2f x3 x3f;generalize (W10.setCell ⟨w.heap.size,2,none⟩ (.int .i64 k2)).setCell ⟨w.heap.size,3,none⟩ (.int .i64 n2)=W11 at HX HY HB ⊢
    all_goals
     clear HX12 HY12 HB12 HP2;refine wp_region_lit ?_;refine uF qK 40 (.tmp 2) rfl (w.heap.size) (0) rfl (aL ⟨g1,g2,g3,g4,FB⟩) _ (kA HX.o) vN rfl pD ?_;refine zP ?_;refine wpList_store_mid rfl 40 (.tmp 4) (.tmp 44) rfl (w.heap.size+1) (0) ((aL ⟨g1,g2,g3,g4,FB⟩).toArray) rfl rfl ((show World.there _ (w.heap.size+1) 0 5 from gH HY.o)) pD (all_oneCell_toArray (JS _)) ?_;simp only[Act.put]
     go_wp2
     have hw:=uB (aL ⟨g1,g2,g3,g4,FB⟩) 0 _ _ HY.o qZb;exact qZ5
 · rw[if_neg h21];have hq:(v==21)=false:=zb h21;obtain⟨FB,hFB⟩:∃FB,bits .andNot .i64 (bits .or .i64 fl sv) cv=FB:=⟨_,rfl⟩;rw[hFB];have HFB:=Hd hFB;clear h21 hv0 hv hv2 hFB
   go_enter Tryz.func184,Tryz.ntmps184
   go_upto_region 5 with fail
   generalize hW:World.alloc _ _=W5;have hx5:W5.heap[w.heap.size]? =some (.cells (aL ⟨fk,fn,bk,bn,fl⟩).toArray 40 (0,0)):=by rw[←hW];exact uI (kZ rfl)
   have hy5:W5.heap[w.heap.size+1]? =some (.cells (aL zY).toArray 40 (0,0)):=by rw[←hW];exact kZ qV
   have hb5:Below w.heap.size w W5:=by rw[←hW];exact jW (jW (jU _ _) _) _
   clear hW hq hv0q;have HX5:=Hd hx5;have HY5:=Hd hy5;have HB5:=Hd hb5;obtain⟨c4,f4⟩:=at_ hx5 4 (.int .i64 fl) rfl;clear hx5 hy5 hb5;refine zU1 9 c4 ?_
   repeat first|refine zS ?_|refine zD 252 #[.int .i64 v] (.int .i64 sv) (fun w' hS=>(HS.o w').mono fun e w2 ⟨he,hw⟩=>⟨he,hw▸hS⟩) ?_|refine zD 253 #[.int .i64 v] (.int .i64 cv) (fun w' hS=>(HC.o w').mono fun e w2 ⟨he,hw⟩=>⟨he,hw▸hS⟩) ?_|refine zV ?_
   refine kU (fun w' hS=>?_);have hx6:=(hS.1.block _ (kQ HX5.o)).trans HX5.o;have hy6:=(hS.1.block _ (kQ HY5.o)).trans HY5.o;have hb6:=jN HB5.o hS.1;clear hS c4 f4;obtain⟨c4,f4⟩:=at_ hx6 4 (.int .i64 fl) rfl;have hFB:=HFB.o
   go_upto_region 6 with fail
   have hx7:(w'.setCell ⟨w.heap.size,4,none⟩ (.int .i64 FB)).heap[w.heap.size]? =some (.cells (aL ⟨fk,fn,bk,bn,FB⟩).toArray 40 (0,0)):=kY hx6 4 _ rfl;have hy7:=uV (i:=4) (v:=.int .i64 FB) hy6 (show w.heap.size+1≠w.heap.size by omega);have hb7:=kH hb6 (jS w.heap.size) (o:=4) (.int .i64 FB);clear hx6 hy6 hb6 c4 f4 hFB;generalize w'.setCell ⟨w.heap.size,4,none⟩ (.int .i64 FB)=W7 at hx7 hy7 hb7 ⊢;have HX:=Hd hx7;have HY:=Hd hy7;have HB:=Hd hb7;clear hx7 hy7 hb7 HX5 HY5 HB5
   go_upto_region 7 with(go_at_call 254;(with_reducible refine(HP1.o _).mono ?_);rintro e w8 ⟨rfl,hb8⟩;have HB8:=Hd hb8;clear hb8)
   generalize hW8:World.alloc _ _=W8;have hb8:Below w8.heap.size w8 W8:=by rw[←hW8];exact jW (jU _ _) _
   have hc8:W8.heap[w8.heap.size]? =some (.cells #[.int .i64 k1,.int .i64 n1] 38 (0,0)):=by rw[←hW8];exact kZ rfl
   have hb9:=jN HB8.o hb8;have hx9:=(hb9.block _ (kQ HX.o)).trans HX.o;have hy9:=(hb9.block _ (kQ HY.o)).trans HY.o;have hB9:=jN HB.o hb9;clear hW8 hb8 hb9 HB8 HX HY HB;obtain⟨d0,-⟩:=at_ hc8 0 (.int .i64 k1) rfl;obtain⟨d1,-⟩:=at_ hc8 1 (.int .i64 n1) rfl;obtain⟨x0,x0f⟩:=at_ hx9 0 (.int .i64 fk) rfl;obtain⟨x1,x1f⟩:=at_ hx9 1 (.int .i64 fn) rfl;have HX9:=Hd hx9;have HY9:=Hd hy9;have HB9:=Hd hB9;clear hc8 hx9 hy9 hB9;cases o1
   case' false=>
    go_upto_region 9 with fail
    clear d0 d1 x0 x0f x1 x1f;have HX:Hid (W8.heap[w.heap.size]? =some (.cells (aL ⟨g1,g2,bk,bn,FB⟩).toArray 40 (0,0))):=Hd (by rw[←HG1.o.1,←HG1.o.2];exact HX9.o);have HY:=HY9;have HB:=HB9
    rename World=>W9
   case' true=>
    go_upto_region 9 with fail
    have HX:Hid (((W8.setCell ⟨w.heap.size,0,none⟩ (.int .i64 k1)).setCell ⟨w.heap.size,1,none⟩ (.int .i64 n1)).heap[w.heap.size]? =some (.cells (aL ⟨g1,g2,bk,bn,FB⟩).toArray 40 (0,0))):=Hd qK0;have HY:Hid (((W8.setCell ⟨w.heap.size,0,none⟩ (.int .i64 k1)).setCell ⟨w.heap.size,1,none⟩ (.int .i64 n1)).heap[w.heap.size+1]? =some (.cells (aL zY).toArray 40 (0,0))):=Hd (uV (uV HY9.o qJ) qJ);have HB:=Hd (kH (kH HB9.o (jS w.heap.size) (o:=0) (.int .i64 k1)) (jS w.heap.size) (o:=1) (.int .i64 n1));clear d0 d1 x0 x0f x1 x1f;generalize (W8.setCell ⟨w.heap.size,0,none⟩ (.int .i64 k1)).setCell ⟨w.heap.size,1,none⟩ (.int .i64 n1)=W9 at HX HY HB ⊢
   all_goals
    clear HX9 HY9 HB9 HP1
    go_upto_region 10 with(go_at_call 254;(with_reducible refine(HP2.o _).mono ?_);rintro e w10 ⟨rfl,hb10⟩;have HB10:=Hd hb10;clear hb10)
    generalize hW10:World.alloc _ _=W10;have hb11:Below w10.heap.size w10 W10:=by rw[←hW10];exact jW (jU _ _) _
    have hc11:W10.heap[w10.heap.size]? =some (.cells #[.int .i64 k2,.int .i64 n2] 38 (0,0)):=by rw[←hW10];exact kZ rfl
    have hb12:=jN HB10.o hb11;have hx12:=(hb12.block _ (kQ HX.o)).trans HX.o;have hy12:=(hb12.block _ (kQ HY.o)).trans HY.o;have hB12:=jN HB.o hb12;clear hW10 hb11 hb12 HB10 HX HY HB;obtain⟨d0,-⟩:=at_ hc11 0 (.int .i64 k2) rfl;obtain⟨d1,-⟩:=at_ hc11 1 (.int .i64 n2) rfl;obtain⟨x2,x2f⟩:=at_ hx12 2 (.int .i64 bk) rfl;obtain⟨x3,x3f⟩:=at_ hx12 3 (.int .i64 bn) rfl;have HX12:=Hd hx12;have HY12:=Hd hy12;have HB12:=Hd hB12;clear hc11 hx12 hy12 hB12;cases o2
    case' false=>
     go_upto_region 12 with fail
     clear d0 d1 x2 x2f x3 x3f;have HX:Hid (W10.heap[w.heap.size]? =some (.cells (aL ⟨g1,g2,g3,g4,FB⟩).toArray 40 (0,0))):=Hd (by rw[←HG2.o.1,←HG2.o.2];exact HX12.o);have HY:=HY12;have HB:=HB12
     rename World=>W11
    case' true=>
     go_upto_region 12 with fail
     have HX:Hid (((W10.setCell ⟨w.heap.size,2,none⟩ (.int .i64 k2)).setCell ⟨w.heap.size,3,none⟩ (.int .i64 n2)).heap[w.heap.size]? =some (.cells (aL ⟨g1,g2,g3,g4,FB⟩).toArray 40 (0,0))):=Hd qKy;have HY:Hid (((W10.setCell ⟨w.heap.size,2,none⟩ (.int .i64 k2)).setCell ⟨w.heap.size,3,none⟩ (.int .i64 n2)).heap[w.heap.size+1]? =some (.cells (aL zY).toArray 40 (0,0))):=Hd (uV (uV HY12.o qJ) qJ);have HB:=Hd (kH (kH HB12.o (jS w.heap.size) (o:=2) (.int .i64 k2)) (jS w.heap.size) (o:=3) (.int .i64 n2));clear d0 d1 x2 x2f x3 x3f;generalize (W10.setCell ⟨w.heap.size,2,none⟩ (.int .i64 k2)).setCell ⟨w.heap.size,3,none⟩ (.int .i64 n2)=W11 at HX HY HB ⊢
    all_goals
     clear HX12 HY12 HB12 HP2;refine wp_region_lit ?_;refine uF qK 40 (.tmp 2) rfl (w.heap.size) (0) rfl (aL ⟨g1,g2,g3,g4,FB⟩) _ (kA HX.o) vN rfl pD ?_;refine zP ?_;refine wpList_store_mid rfl 40 (.tmp 4) (.tmp 44) rfl (w.heap.size+1) (0) ((aL ⟨g1,g2,g3,g4,FB⟩).toArray) rfl rfl ((show World.there _ (w.heap.size+1) 0 5 from gH HY.o)) pD (all_oneCell_toArray (JS _)) ?_;simp only[Act.put]
     go_wp2
     have hw:=uB (aL ⟨g1,g2,g3,g4,FB⟩) 0 _ _ HY.o qZb;exact qZ5
@[go_sem]
theorem run_equalIn_four(d:Nat)(w:World)(a1 a2 a3 a4 e1 e2 e3 e4:Int):(Op.equalIn (d+1+1) 41 (.agg #[.int .i64 a1,.int .i64 a2,.int .i64 a3,.int .i64 a4]) (.agg #[.int .i64 e1,.int .i64 e2,.int .i64 e3,.int .i64 e4])).run jG w=.ok (a1==e1&&a2==e2&&a3==e3&&a4==e4) w:=by
 have u3:=Tryz.underlying3;have a3':∀w,(isAgg 3).run jG w=.ok false w:=Tryz.isAgg3;have z3:=Tryz.sizeOf3;rw[Op.equalIn];simp only[Sem.run_bind,run_underlying Tryz.underlying41,Result.andThen_ok];simp only[Std.Legacy.Range.forIn_eq_forIn_range',Std.Legacy.Range.size,Nat.sub_zero,Nat.add_sub_cancel,Nat.div_one,List.range'_succ,List.range'_zero,List.forIn_cons,List.forIn_nil]
 go_simp
 by_cases h1:a1=e1<;>by_cases h2:a2=e2<;>by_cases h3:a3=e3<;>by_cases h4:a4=e4<;>simp[h1,h2,h3,h4]
def peEq(p q:Pe):Bool:=decide (p.at_.fk=q.at_.fk∧p.at_.fn=q.at_.fn∧p.at_.bk=q.at_.bk∧p.at_.bn=q.at_.bn∧p.at_.fl=q.at_.fl∧p.ch.g0=q.ch.g0∧p.ch.g1=q.ch.g1∧p.ch.g2=q.ch.g2∧p.ch.g3=q.ch.g3∧p.ch.use=q.ch.use∧p.ch.once=q.ch.once∧p.put=q.put∧p.wrap=q.wrap∧p.home=q.home)
theorem WN{p q:Pe}(h:peEq p q=true):p=q:=by
 obtain⟨⟨a1,a2,a3,a4,a5⟩,⟨b1,b2,b3,b4,b5,b6⟩,c1,c2,c3⟩:=p;obtain⟨⟨d1,d2,d3,d4,d5⟩,⟨e1,e2,e3,e4,e5,e6⟩,f1,f2,f3⟩:=q;obtain⟨h1,h2,h3,h4,h5,h6,h7,h8,h9,h10,h11,h12,h13,h14⟩:=of_decide_eq_true h;simp only at h1 h2 h3 h4 h5 h6 h7 h8 h9 h10 h11 h12 h13 h14;subst h1 h2 h3 h4 h5 h6 h7 h8 h9 h10 h11 h12 h13 h14;rfl
theorem VH(ρ:Operand→Value)(dst:Option Tmp)(ty:TypeId)(pos:String)(af:Array Edge)(gd:Option (Nat×Bool))(x y:Operand)(p q:Pe)
 (hx:ρ x=.agg (peL p).toArray) (hy:ρ y=.agg (peL q).toArray) (w:World):
 (execOp ρ ⟨dst,.binOp .neq 104 x y 104,ty,pos,af,gd⟩).run jG w=.ok (.value (.bool (!peEq p q))) w:=by
 obtain⟨⟨a1,a2,a3,a4,a5⟩,⟨b1,b2,b3,b4,b5,b6⟩,c1,c2,c3⟩:=p;obtain⟨⟨d1,d2,d3,d4,d5⟩,⟨e1,e2,e3,e4,e5,e6⟩,f1,f2,f3⟩:=q;simp only[peL]at hx hy;obtain⟨R,hR⟩:∃R,peEq ⟨⟨a1,a2,a3,a4,a5⟩,⟨b1,b2,b3,b4,b5,b6⟩,c1,c2,c3⟩ ⟨⟨d1,d2,d3,d4,d5⟩,⟨e1,e2,e3,e4,e5,e6⟩,f1,f2,f3⟩=R:=⟨_,rfl⟩;rw[hR]
 go_simp
 by_cases h:a1=d1
 rotate_left
 · have hf:R=false:=by rw[←hR];exact decide_eq_false (fun hc=>h hc.1)
   rw[if_neg h,hf];rfl
 obtain rfl:=h;rw[if_pos rfl]
 by_cases h:a2=d2
 rotate_left
 · have hf:R=false:=by rw[←hR];exact decide_eq_false (fun hc=>h hc.2.1)
   rw[if_neg h,hf];rfl
 obtain rfl:=h;rw[if_pos rfl]
 by_cases h:a3=d3
 rotate_left
 · have hf:R=false:=by rw[←hR];exact decide_eq_false (fun hc=>h hc.2.2.1)
   rw[if_neg h,hf];rfl
 obtain rfl:=h;rw[if_pos rfl]
 by_cases h:a4=d4
 rotate_left
 · have hf:R=false:=by rw[←hR];exact decide_eq_false (fun hc=>h hc.2.2.2.1)
   rw[if_neg h,hf];rfl
 obtain rfl:=h;rw[if_pos rfl]
 by_cases h:a5=d5
 rotate_left
 · have hf:R=false:=by rw[←hR];exact decide_eq_false (fun hc=>h hc.2.2.2.2.1)
   rw[if_neg h,hf];rfl
 obtain rfl:=h;rw[if_pos rfl]
 by_cases h:b1=e1∧b2=e2∧b3=e3∧b4=e4
 rotate_left
 · have hf:R=false:=by rw[←hR];exact decide_eq_false (fun hc=>h ⟨hc.2.2.2.2.2.1,hc.2.2.2.2.2.2.1,hc.2.2.2.2.2.2.2.1,hc.2.2.2.2.2.2.2.2.1⟩)
   rw[if_pos (fun g1 g2 g3 g4=>h ⟨g1,g2,g3,g4⟩),hf];rfl
 obtain⟨rfl,rfl,rfl,rfl⟩:=h;rw[if_neg (fun g=>g rfl rfl rfl rfl)]
 by_cases h:b5=e5
 rotate_left
 · have hf:R=false:=by rw[←hR];exact decide_eq_false (fun hc=>h hc.2.2.2.2.2.2.2.2.2.1)
   rw[if_neg h,hf];rfl
 obtain rfl:=h;rw[if_pos rfl]
 by_cases h:b6=e6
 rotate_left
 · have hf:R=false:=by rw[←hR];exact decide_eq_false (fun hc=>h hc.2.2.2.2.2.2.2.2.2.2.1)
   rw[if_neg h,hf];rfl
 obtain rfl:=h;rw[if_pos rfl]
 by_cases h:c1=f1
 rotate_left
 · have hf:R=false:=by rw[←hR];exact decide_eq_false (fun hc=>h hc.2.2.2.2.2.2.2.2.2.2.2.1)
   rw[if_neg h,hf];rfl
 obtain rfl:=h;rw[if_pos rfl]
 by_cases h:c2=f2
 rotate_left
 · have hf:R=false:=by rw[←hR];exact decide_eq_false (fun hc=>h hc.2.2.2.2.2.2.2.2.2.2.2.2.1)
   rw[if_neg h,hf];rfl
 obtain rfl:=h;rw[if_pos rfl]
 by_cases h:c3=f3
 rotate_left
 · have hf:R=false:=by rw[←hR];exact decide_eq_false (fun hc=>h hc.2.2.2.2.2.2.2.2.2.2.2.2.2)
   rw[if_neg h,hf];rfl
 obtain rfl:=h;rw[if_pos rfl];have hf:R=true:=by rw[←hR];exact decide_eq_true ⟨rfl,rfl,rfl,rfl,rfl,rfl,rfl,rfl,rfl,rfl,rfl,rfl,rfl,rfl⟩
 rw[hf];rfl
section
variable {base base2:Nat}{w:World}{v u:Sv}{s o:Sc}
theorem ScO.pen(h:ScO base w v s):w.cell? ⟨v.S,0,none⟩=some (.int .i64 s.pen.at_.fk)∧w.cell? ⟨v.S,1,none⟩=some (.int .i64 s.pen.at_.fn)∧w.cell? ⟨v.S,2,none⟩=some (.int .i64 s.pen.at_.bk)∧w.cell? ⟨v.S,3,none⟩=some (.int .i64 s.pen.at_.bn)∧w.cell? ⟨v.S,4,none⟩=some (.int .i64 s.pen.at_.fl)∧w.cell? ⟨v.S,5,none⟩=some (.int .i64 s.pen.ch.g0)∧w.cell? ⟨v.S,6,none⟩=some (.int .i64 s.pen.ch.g1)∧w.cell? ⟨v.S,7,none⟩=some (.int .i64 s.pen.ch.g2)∧w.cell? ⟨v.S,8,none⟩=some (.int .i64 s.pen.ch.g3)∧w.cell? ⟨v.S,9,none⟩=some (.int .i64 s.pen.ch.use)∧w.cell? ⟨v.S,10,none⟩=some (.int .i64 s.pen.ch.once)∧w.cell? ⟨v.S,11,none⟩=some (.bool s.pen.put)∧w.cell? ⟨v.S,12,none⟩=some (.bool s.pen.wrap)∧w.cell? ⟨v.S,13,none⟩=some (.bool s.pen.home):=
 ⟨(at_ h.blk 0 (.int .i64 s.pen.at_.fk) rfl).1,(at_ h.blk 1 (.int .i64 s.pen.at_.fn) rfl).1,(at_ h.blk 2 (.int .i64 s.pen.at_.bk) rfl).1,(at_ h.blk 3 (.int .i64 s.pen.at_.bn) rfl).1,(at_ h.blk 4 (.int .i64 s.pen.at_.fl) rfl).1,(at_ h.blk 5 (.int .i64 s.pen.ch.g0) rfl).1,(at_ h.blk 6 (.int .i64 s.pen.ch.g1) rfl).1,(at_ h.blk 7 (.int .i64 s.pen.ch.g2) rfl).1,(at_ h.blk 8 (.int .i64 s.pen.ch.g3) rfl).1,(at_ h.blk 9 (.int .i64 s.pen.ch.use) rfl).1,(at_ h.blk 10 (.int .i64 s.pen.ch.once) rfl).1,(at_ h.blk 11 (.bool s.pen.put) rfl).1,(at_ h.blk 12 (.bool s.pen.wrap) rfl).1,(at_ h.blk 13 (.bool s.pen.home) rfl).1⟩
theorem ScO.apart{b:Nat}{cs:Array Value}(k:ScO base w u o)(hb:w.heap[b]? =some (.cells cs 108 (0,0)))(hd:b≠u.S):b∉scX u:=fun hx=>by
 rcases kW.1 hx with h|hx
 · exact hd h
 rcases kL.1 hx with hx|hx
 · obtain⟨cur,ty,h1,h2⟩:=k.tabs.types _ hx;rw[hb,Option.some.injEq,Obj.cells.injEq]at h1;obtain⟨-,rfl,-⟩:=h1;rcases h2 with h2|h2<;>exact absurd h2 qZ
 · exact k.page.not hb qZ hx
set_option maxHeartbeats 3200000 in
theorem Vb(h:ScO base w v s)(k:ScO base2 w u o)(hd:v.S≠u.S):Calls jG 22 #[.pointer (some ⟨v.S,0,none⟩),.pointer (some ⟨u.S,0,none⟩)] w (gQ base w v (tM s o)):=by
 have HO:=Hd h;have HK:=Hd k;have HD:=Hd hd;obtain⟨p0,p1,p2,p3,p4,p5,p6,p7,p8,p9,p10,p11,p12,p13⟩:=h.pen;obtain⟨q0,q1,q2,q3,q4,q5,q6,q7,q8,q9,q10,q11,q12,q13⟩:=k.pen;clear h k hd
 go_enter Tryz.func22,Tryz.ntmps22
 go_upto_region 1 with fail
 refine Go.RL.wp_region_l 8 (fun w'=>w'.cell? ⟨v.S,0,none⟩=some (.int .i64 s.pen.at_.fk)∧w'.cell? ⟨v.S,1,none⟩=some (.int .i64 s.pen.at_.fn)∧w'.cell? ⟨v.S,2,none⟩=some (.int .i64 s.pen.at_.bk)∧w'.cell? ⟨v.S,3,none⟩=some (.int .i64 s.pen.at_.bn)∧w'.cell? ⟨v.S,4,none⟩=some (.int .i64 s.pen.at_.fl)∧w'.cell? ⟨v.S,5,none⟩=some (.int .i64 s.pen.ch.g0)∧w'.cell? ⟨v.S,6,none⟩=some (.int .i64 s.pen.ch.g1)∧w'.cell? ⟨v.S,7,none⟩=some (.int .i64 s.pen.ch.g2)∧w'.cell? ⟨v.S,8,none⟩=some (.int .i64 s.pen.ch.g3)∧w'.cell? ⟨v.S,9,none⟩=some (.int .i64 s.pen.ch.use)∧w'.cell? ⟨v.S,10,none⟩=some (.int .i64 s.pen.ch.once)∧w'.cell? ⟨v.S,11,none⟩=some (.bool s.pen.put)∧w'.cell? ⟨v.S,12,none⟩=some (.bool s.pen.wrap)∧w'.cell? ⟨v.S,13,none⟩=some (.bool s.pen.home)∧w'.cell? ⟨u.S,0,none⟩=some (.int .i64 o.pen.at_.fk)∧w'.cell? ⟨u.S,1,none⟩=some (.int .i64 o.pen.at_.fn)∧w'.cell? ⟨u.S,2,none⟩=some (.int .i64 o.pen.at_.bk)∧w'.cell? ⟨u.S,3,none⟩=some (.int .i64 o.pen.at_.bn)∧w'.cell? ⟨u.S,4,none⟩=some (.int .i64 o.pen.at_.fl)∧w'.cell? ⟨u.S,5,none⟩=some (.int .i64 o.pen.ch.g0)∧w'.cell? ⟨u.S,6,none⟩=some (.int .i64 o.pen.ch.g1)∧w'.cell? ⟨u.S,7,none⟩=some (.int .i64 o.pen.ch.g2)∧w'.cell? ⟨u.S,8,none⟩=some (.int .i64 o.pen.ch.g3)∧w'.cell? ⟨u.S,9,none⟩=some (.int .i64 o.pen.ch.use)∧w'.cell? ⟨u.S,10,none⟩=some (.int .i64 o.pen.ch.once)∧w'.cell? ⟨u.S,11,none⟩=some (.bool o.pen.put)∧w'.cell? ⟨u.S,12,none⟩=some (.bool o.pen.wrap)∧w'.cell? ⟨u.S,13,none⟩=some (.bool o.pen.home)) (fun w'=>Below w.heap.size w w') qQ qQ ⟨p0,p1,p2,p3,p4,p5,p6,p7,p8,p9,p10,p11,p12,p13,q0,q1,q2,q3,q4,q5,q6,q7,q8,q9,q10,q11,q12,q13⟩ ((jU _ _).drew) ?_
 clear p0 p1 p2 p3 p4 p5 p6 p7 p8 p9 p10 p11 p12 p13 q0 q1 q2 q3 q4 q5 q6 q7 q8 q9 q10 q11 q12 q13;refine Go.RL.AtL.go 0 ?_
 iterate 8 refine zK ?_
 refine Go.RL.AtK.back ?_;refine Go.RL.AtL.done qQ (fun w' hI hS=>?_);have HS:=Hd hS;clear hI hS;simp only[jB,jF];refine aP (.bool (!peEq s.pen o.pen)) rfl (VH _ _ _ _ _ _ _ _ s.pen o.pen rfl rfl w') ?_;obtain⟨b,hb⟩:∃b,peEq s.pen o.pen=b:=⟨_,rfl⟩;have HPQ:Hid (b=true→s.pen=o.pen):=Hd (fun h=>WN (hb.trans h));rw[hb];clear hb;refine zP ?_;have HOW:=Hd (HO.o.below HS.o);have HKW:=Hd (HK.o.below HS.o);have HR0:Hid (uR base w v s w'):=Hd (HO.o.res_below HS.o);cases b
 case' false=>
  go_upto_region 2 with fail
  refine wp_region_lit ?_;refine zG (.pointer (some ⟨v.S,0,none⟩)) ?_;refine zG (.pointer (some ⟨u.S,0,none⟩)) ?_;refine zGs (.pointer (some ⟨u.S,0,none⟩)) ?_;refine zGs (.pointer (some ⟨u.S,0,none⟩)) ?_;refine uF qK 104 (.tmp 22) rfl (u.S) (0) rfl (peL o.pen) _ (HKW.o.range (n:=14) rfl) Tryz.underlying104 rfl oW ?_;refine zP ?_;refine zGs (.pointer (some ⟨v.S,0,none⟩)) ?_;refine zGs (.pointer (some ⟨v.S,0,none⟩)) ?_;refine wpList_store_mid rfl 104 (.tmp 25) (.tmp 23) rfl (v.S) (0) ((peL o.pen).toArray) rfl rfl (HOW.o.there qVt) oW (all_oneCell_toArray (iY _)) ?_;simp only[Act.put];have hp:=HOW.o.puts 0 (peL o.pen) qVt (s':={s with pen:=o.pen}) rfl rfl rfl;change wpList _ _ _ _ _ (w'.setCells v.S 0 (peL o.pen));have hm:Mod [v.S] w' (w'.setCells v.S 0 (peL o.pen)):=gM (.inl qV) (peL o.pen) 0 w' (Mod.refl _ _);have HRES:Hid (uR base w v {s with pen:=o.pen} (w'.setCells v.S 0 (peL o.pen))):=Hd (uR.pre HS.o ⟨v,rfl,rfl,rfl,hp.1,hp.2,fun _ hb=>.inl hb⟩);have HK2:Hid (ScO base2 (w'.setCells v.S 0 (peL o.pen)) u o):=Hd (HKW.o.mod hm (fun b hb cs f he=>by rw[jR.1 hb]at he;exact uP HOW.o.blk he qZ rfl) (fun b hb hx=>HKW.o.apart HOW.o.blk HD.o qJw));clear hp hm
  generalize w'.setCells v.S 0 (peL o.pen)=W3 at HRES HK2 ⊢;clear HOW HKW HR0 HPQ HS
  go_upto_region 3 with fail
 case' true=>
  have HRES:Hid (uR base w v {s with pen:=o.pen} w'):=Hd (by have h:=HPQ.o rfl;rw[←h];exact HR0.o);have HK2:=HKW;obtain⟨W3,rfl⟩:∃W3,W3=w':=⟨_,rfl⟩;clear HOW HKW HR0 HPQ HS
  go_upto_region 3 with fail
 all_goals
  obtain⟨c16,-⟩:=at_ HK2.o.blk 16 (.int .i64 o.y) rfl;have HIN:Hid (∀w',Below W3.heap.size W3 w'→Calls jG 76 #[.pointer (some ⟨u.S,0,none⟩)] w' fun e w2=>e=.returned (.int .i64 (inS o))∧Below w'.heap.size w' w2):=Hd (fun w' hb=>cG (HK2.o.below hb));have HPL:Hid (∀w',Below W3.heap.size W3 w'→Calls jG 78 #[.pointer (some ⟨v.S,0,none⟩),.int .i64 o.y,.int .i64 (inS o)] w' (gQ base w v (tM s o))):=Hd (fun w' hb=>by
   obtain⟨v1,e1,e2,e3,hO1,hm1,hx1⟩:=HRES.o.post hb;rw[←e1];exact(sQ hO1 o.y (inS o)).mono fun e w2 ⟨he,hr⟩=>⟨he,uR.trans ⟨e1,e2,e3,hm1,hx1⟩ hr⟩)
  refine zU1 7 c16 ?_
  repeat first|refine zS ?_|refine zC0 (zC1 HIN.o) ?_|refine zV ?_
  refine kU (fun w' hS=>?_);have HP:=Hd (HPL.o _ hS.1);clear hS c16
  go_wp2_with(go_at_call 78;(with_reducible refine HP.o.mono ?_);rintro e w9 ⟨rfl,hr⟩;have HRR:=Hd hr;clear hr)
  go_end0
  exact⟨rfl,HRR.o⟩
end
def Qc:List Int:=[1,2,3,5,6,7,8,9,21,22,23,24,25,27,28,29,53,55]
theorem Wi:∀f:Fin 1024,∀v∈Qc,Qb (f.val:Int) v=pO (f.val:Int) v []:=by decide +kernel
theorem YL:∀f:Fin 1024,bits .andNot .i64 (bits .or .i64 (f.val:Int) 0) 0=(f.val:Int):=by decide +kernel
theorem YR:∀f:Fin 1024,bits .or .i64 (bits .andNot .i64 (f.val:Int) 264) 0=zI (zI f.val 256 false) 8 false∧bits .or .i64 (bits .andNot .i64 (f.val:Int) 264) 8=zI (zI f.val 256 false) 8 true∧bits .or .i64 (bits .andNot .i64 (f.val:Int) 264) 256=zI (zI f.val 256 true) 8 false:=by decide +kernel
theorem K6:∀f:Fin 1024,∀k∈([1,2,4,8,16,32,64,128,256,512]:List Int),∀b:Bool,0≤zI (f.val:Int) k b∧zI (f.val:Int) k b<1024:=by decide +kernel
theorem zZ.with{f:Int}(h:zZ f)(k:Int)(hk:k∈([1,2,4,8,16,32,64,128,256,512]:List Int))(b:Bool):zZ (zI f k b):=by
 obtain⟨h0,h1⟩:=h;have :=K6 ⟨f.toNat,by omega⟩ k hk b;rw[show(((⟨f.toNat,by omega⟩:Fin 1024).val:Nat):Int)=f from by show((f.toNat:Nat):Int)=f;omega]at this;exact this
theorem qQ5{f:Int}(h:zZ f)(v:Int)(hv:v≠4)(g:List Int):Qb f v=pO f v g:=by
 obtain⟨h0,h1⟩:=h;have e:(((⟨f.toNat,by omega⟩:Fin 1024).val:Nat):Int)=f:=by show((f.toNat:Nat):Int)=f;omega
 have hg:pO f v g=pO f v []:=by unfold pO;simp only[if_neg hv]
 rw[hg]
 by_cases hm:v∈Qc
 · have :=Wi ⟨f.toNat,by omega⟩ v hm;rw[e]at this;exact this
 · simp only[Qc,kW,List.not_mem_nil,or_false,not_or]at hm;obtain⟨a1,a2,a3,a5,a6,a7,a8,a9,a21,a22,a23,a24,a25,a27,a28,a29,a53,a55⟩:=hm;have s0:Jb v=0:=by unfold Jb;simp[*]
   have c0:rH v=0:=by unfold rH;simp[*]
   have f0:pO f v []=f:=by unfold pO;simp[*]
   have b0:f21 f v=f:=by unfold f21;simp[*]
   unfold Qb;rw[s0,c0,f0,b0];have :=YL ⟨f.toNat,by omega⟩;rw[e]at this;exact this
theorem flags4{f:Int}(h:zZ f)(g:List Int):bits .or .i64 (bits .andNot .i64 f 264) (Qq g)=pO f 4 g:=by
 obtain⟨h0,h1⟩:=h;have e:(((⟨f.toNat,by omega⟩:Fin 1024).val:Nat):Int)=f:=by show((f.toNat:Nat):Int)=f;omega
 have :=YR ⟨f.toNat,by omega⟩;rw[e]at this;obtain⟨t0,t8,t256⟩:=this;unfold pO Qq;simp only[Int.reduceEq,if_false,if_true]
 by_cases h1:1<g.length
 · by_cases h2:g.getD 1 0=0
   · rw[if_pos ⟨h1,h2⟩];simp only[h1,h2,decide_true,Bool.true_and,show decide ((0:Int)=2)=false from rfl,show decide ((0:Int)=0)=true from rfl,Bool.not_false,Bool.not_true,Bool.and_false];exact t0
   · rw[if_neg qJ]
     by_cases h3:g.getD 1 0=2
     · rw[if_pos ⟨h1,h3⟩];simp only[h1,h3,decide_true,Bool.true_and,Bool.not_true,Bool.false_and];exact t256
     · rw[if_neg qJ];simp only[h1,h2,h3,decide_true,decide_false,Bool.and_false,Bool.not_false,Bool.and_true];exact t8
 · rw[if_neg qJ,if_neg qJ];simp only[h1,decide_false,Bool.false_and,Bool.not_false,Bool.and_true];exact t8
theorem qQg(c:Col)(v:Int)(h:0≤v):(if(eL v 30 90).2 then(eL v 30 90).1 else c)=iV c v:=by
 by_cases h1:30≤v∧v<30+8
 · have e:eL v 30 90=(⟨1,v-30⟩,true):=by unfold eL;rw[if_pos h1]
   rw[e];show(⟨1,v-30⟩:Col)=_;unfold iV;rw[if_neg qJ,if_pos qJ]
 by_cases h2:90≤v∧v<90+8
 · have e:eL v 30 90=(⟨1,v-90+8⟩,true):=by unfold eL;rw[if_neg h1,if_pos h2]
   rw[e];show(⟨1,v-90+8⟩:Col)=_;unfold iV;rw[if_neg qJ,if_neg qJ,if_pos qJ,show v-90+8=v-82 by omega]
 · have e:eL v 30 90=(⟨0,0⟩,v==30+9):=by unfold eL;rw[if_neg h1,if_neg h2]
   rw[e];unfold iV
   by_cases h3:v=30+9
   · rw[if_pos (show v=39 by omega),h3];rfl
   · rw[if_neg (show ¬v=39 by omega),if_neg (show ¬(30≤v∧v≤37) by omega),if_neg (show ¬(90≤v∧v≤97) by omega)];rw[show(v==30+9)=false from zb h3];rfl
theorem qQh(c:Col)(v:Int)(h:0≤v):(if(eL v 40 100).2 then(eL v 40 100).1 else c)=iX c v:=by
 by_cases h1:40≤v∧v<40+8
 · have e:eL v 40 100=(⟨1,v-40⟩,true):=by unfold eL;rw[if_pos h1]
   rw[e];show(⟨1,v-40⟩:Col)=_;unfold iX;rw[if_neg qJ,if_pos qJ]
 by_cases h2:100≤v∧v<100+8
 · have e:eL v 40 100=(⟨1,v-100+8⟩,true):=by unfold eL;rw[if_neg h1,if_pos h2]
   rw[e];show(⟨1,v-100+8⟩:Col)=_;unfold iX;rw[if_neg qJ,if_neg qJ,if_pos qJ,show v-100+8=v-92 by omega]
 · have e:eL v 40 100=(⟨0,0⟩,v==40+9):=by unfold eL;rw[if_neg h1,if_neg h2]
   rw[e];unfold iX
   by_cases h3:v=40+9
   · rw[if_pos (show v=49 by omega),h3];rfl
   · rw[if_neg (show ¬v=49 by omega),if_neg (show ¬(40≤v∧v≤47) by omega),if_neg (show ¬(100≤v∧v≤107) by omega)];rw[show(v==40+9)=false from zb h3];rfl
theorem simpB_A{a:Atr}(h:zZ a.fl)(v:Int)(hv:0≤v)(h0:v≠0)(h4:v≠4)(g:List Int):Yx a v=nP a v g:=by
 unfold Yx nP;rw[if_neg h0,qQ5 h v h4 g,←qQg ⟨a.fk,a.fn⟩ v hv,←qQh ⟨a.bk,a.bn⟩ v hv]
 congr 1
 all_goals(split<;>rfl)
def qQt:Value→Nat
 | .slice _ n _=>n
 |_=>0
theorem ClO.any{base:Nat}{w:World}{v:Value}{l:List Cl}(h:ClO base w v l):∃a cap,v=.slice a l.length cap:=by
 obtain⟨-,⟨rfl,h0⟩|⟨g,cap,cur,rfl,-⟩⟩:=h
 · exact⟨none,0,by rw[h0]⟩
 · exact⟨_,_,rfl⟩
set_option maxHeartbeats 3200000 in
theorem Va(A:Option Addr)(l:List Cl)(ca:Nat)(x n:Int)(b:Col)(w:World)(hl:pA kX 8 w A l)(h0:0<l.length)(hz:l.length≤10000):
 Calls jG 134 #[.slice A l.length ca,.int .i64 x,.int .i64 n,.agg #[.int .i64 b.k,.int .i64 b.n]] w (pK (yC l x n b) w):=by
 obtain⟨j0,hj,gz0,gz1,gz2⟩:=info_parts dY;have hb0:=jW (jU w.heap.size w) (.cells #[.int .i64 b.k,.int .i64 b.n] 38);have HB0:=Hd hb0;have HK:Hid (bD (w.alloc (.cells #[.int .i64 b.k,.int .i64 b.n] 38)) w.heap.size 0 (.int .i64 b.k)∧bD (w.alloc (.cells #[.int .i64 b.k,.int .i64 b.n] 38)) w.heap.size 1 (.int .i64 b.n)):=Hd ⟨at_ (kZ rfl) 0 _ rfl,at_ (kZ rfl) 1 _ rfl⟩;have HM:=Hd (eX A l l.length ca _ (hl.below hb0) rfl h0 hz);have HBL:=Hd (fun w=>nJ b w);have HM2:=Hd (fun(g cap base:Nat) (o:List Cl) (w':World) (h:CrO w' base g cap o) (hn:o.length=l.length)=>eX (some ⟨g,0,none⟩) o l.length cap w' h.gr hn h0 hz);clear hl hb0
 go_enter Tryz.func134,Tryz.ntmps134
 go_wp2_with(go_at_call 164;refine HM.o.mono ?_;rintro e w1 ⟨g,cap,rfl,hc,hb⟩;have HC:=Hd hc;have HB1:=Hd (jN HB0.o hb);have HK1:=Hd (show bD w1 w.heap.size 0 (.int .i64 b.k)∧bD w1 w.heap.size 1 (.int .i64 b.n)from⟨bQ hb HK.o.1,bQ hb HK.o.2⟩);clear hc hb)
 go_loopw [10,11] (fun s10 s11 wr=>∃(i:Nat) (P:List Cl),s11=.int .i64 i∧i≤l.length∧P=lE (uX l) x n i∧ClO w1.heap.size wr s10 P∧Below w1.heap.size w1 wr) (fun _ s11 _=>l.length-(intOf s11).toNat)
 case atStart=>exact⟨0,[],rfl,kT _,(Ws _ _ _).symm,uE _ _ _ _,jU _ _⟩
 case round=>
  obtain⟨i,P,rfl,hi,hT,hO,hB⟩:=hrel;obtain⟨bx,rfl⟩:∃bx:Value×Unit,u10=bx.1:=⟨(u10,()),rfl⟩;have HO:=Hd hO;have HB:=Hd hB;have HP:=Hd (show P.length≤i by rw[hT];exact delP_le _ _ _ _);have HT:=Hd hT;have k0:=(bQ hB HK1.o.1).1;have k1:=(bQ hB HK1.o.2).1;clear hO hB hT
  by_cases hlt:i<l.length
  rotate_left
  · have hge:¬(i:Int)<(l.length:Int):=by omega
    obtain rfl:i=l.length:=by omega
    go_wp2_with fail
    go_loopw [10] (fun s10 wr=>∃(j:Nat) (P:List Cl),P=lE (uX l) x n l.length++kJ j (vD b)∧P.length≤l.length∧ClO w1.heap.size wr s10 P∧Below w1.heap.size w1 wr) (fun s10 _=>l.length-qQt s10)
    case atStart=>exact⟨0,P,by rw[HT.o];simp,HP.o,HO.o,HB.o⟩
    case round=>
     clear HT HP HO HB k0 k1;obtain⟨j,P2,hT2,hle,hO2,hB2⟩:=hrel;obtain⟨a,cp,hv⟩:=hO2.any;obtain⟨p,hp⟩:∃p,P2.length=p:=⟨_,rfl⟩;rw[hp]at hv hle;subst hv;have HO:=Hd hO2;have HB:=Hd hB2;have HP2:=Hd hp;have HT2:=Hd hT2;have k0:=(bQ hB2 HK1.o.1).1;have k1:=(bQ hB2 HK1.o.2).1;clear hO2 hB2 hp hT2
     by_cases hlt:p<l.length
     rotate_left
     · have hgep:¬(p:Int)<(l.length:Int):=by omega
       obtain rfl:p=l.length:=by omega
       have HPE:Hid (P2=Yk (uX l) x n b):=Hd (by
        have h1:=HT2.o;have h2:=HP2.o;have h3:=kR l;rw[←h3]at h1;rw[h1]at h2;rw[jI,kS]at h2;rw[h1];exact qJb qJ)
       obtain⟨g2,cap2,hv,hc2⟩:=ClO.form HO.o (by rw[HP2.o];omega);rw[HP2.o]at hv;have HM3:=Hd (HM2.o _ _ _ _ _ hc2 HP2.o);rw[hv];clear hc2
       go_wp2_with(go_at_call 164;refine HM3.o.mono ?_;rintro e w2 ⟨g',cap',rfl,hc,hb⟩;have HC2:=Hd hc;have HB2:=Hd hb;clear hc hb)
       go_ret
       have hO2:=HC2.o;rw[HPE.o,qJd]at hO2;have hbb:=HB1.o.trans (HB.o.mono HB1.o.size);exact⟨g',cap',by rw[show(yC l x n b).length=l.length by rw[←qJd,kR,qJc,kR]];rfl,gJ hO2 hbb.size,jN hbb HB2.o⟩
     · have hltP:(p:Int)<(l.length:Int):=by omega
       obtain⟨X,hX⟩:∃X,vD b=X:=⟨_,rfl⟩;have HNC:Hid (P2++[X]=lE (uX l) x n l.length++kJ (j+1) (vD b)):=Hd (by rw[HT2.o,hX,List.replicate_succ',uK]);rw[hX]at HBL;obtain⟨xr,xm,xh,x1,x2,x3,x4,x5⟩:=X;clear hX
       go_upto_region 9 with fail
       refine wp_region_lit ?_;refine zG (.slice a p cp) ?_;refine zGs (.agg #[.int .i64 b.k,.int .i64 b.n]) ?_;refine mT rfl 206 #[.agg #[.int .i64 b.k,.int .i64 b.n]] qY (HBL.o _) (.agg #[.int .i32 xr,.string xm,.int .i64 xh,.int .i64 x1,.int .i64 x2,.int .i64 x3,.int .i64 x4,.int .i64 x5]) (fun e w' h=>h.1) ?_;rintro w3 ⟨-,hb⟩;have HO2:=Hd (ClO.below HO.o hb);have HB3:=Hd (HB.o.trans (hb.mono HB.o.size));clear hb k0 k1;refine zP ?_;have HBX:=Hd (jW (jU w3.heap.size w3) (.cells #[.int .i32 xr,.string xm,.int .i64 xh,.int .i64 x1,.int .i64 x2,.int .i64 x3,.int .i64 x4,.int .i64 x5] 154));have HO3:=Hd (ClO.below HO2.o HBX.o);refine uM (.slice (some ⟨w3.heap.size,0,none⟩) 1 1) (w3.alloc (.cells #[.int .i32 xr,.string xm,.int .i64 xh,.int .i64 x1,.int .i64 x2,.int .i64 x3,.int .i64 x4,.int .i64 x5] 154)) qK qY ?_;refine zP ?_;refine kO rfl (.tmp 56) (.tmp 59) 95 rfl w1.heap.size 154 j0 _ 8 72 uT hj gz0 gz1 gz2 rfl qZ (.slice a p cp) _ _ rfl HO3.o ⟨w3.heap.size,0,none⟩ 1 1 (kX (⟨xr,xm,xh,x1,x2,x3,x4,x5⟩:Cl)) rfl rfl (fun j u hj=>by rw[vZ,kB];exact(at_ (kZ rfl) j u jV).1) (gL _) (by simp only[maxLen];have :=HP2.o;omega) (by have :=HP2.o;omega) qKn ?_;intro v' w7 ho hg hv'
       have HO7:Hid (ClO w1.heap.size w7 v' (P2++[(⟨xr,xm,xh,x1,x2,x3,x4,x5⟩:Cl)])):=Hd qP;have HB7:=Hd ((show Below w1.heap.size w1 _ from HB3.o.trans (HBX.o.mono HB3.o.size)).grown hg qKn (fun b hb=>(kK.lt (show kK _ _ _ _ _ _ _ from HO3.o) b hb).1));refine zP ?_;clear hg hv';have HLN:Hid (qQt v'=p+1):=Hd (by
        obtain⟨a',c',e'⟩:=HO7.o.any;rw[e'];show(P2++[_]).length=_;rw[jI,HP2.o];rfl)
       clear ho
       go_wp2
       go_roundw
       case rel=>exact⟨j+1,P2++[(⟨xr,xm,xh,x1,x2,x3,x4,x5⟩:Cl)],HNC.o,by rw[jI,HP2.o];exact hlt,HO7.o,HB7.o⟩
       case measure=>have :=HLN.o;simp[qQt]at *;omega
  · have hltI:(i:Int)<(l.length:Int):=by omega
    have HG:=Hd (fun(k:Nat) (c:Cl) (h:(uX l)[k]? =some c)=>pS (HC.o.range h) HB.o)
    by_cases e1:x<0
    · obtain⟨c,hc⟩:∃c,(uX l)[i]? =some c:=⟨(uX l)[i]'qT,jD _⟩;obtain⟨xr,xm,xh,x1,x2,x3,x4,x5⟩:=c;have HRG:=Hd (HG.o i _ hc);have HNC:Hid (P++[(⟨xr,xm,xh,x1,x2,x3,x4,x5⟩:Cl)]=lE (uX l) x n (i+1)):=Hd qJ2;clear hc
      go_upto_region 7 with fail
      refine wp_region_lit ?_;refine zG (bx.1) ?_;refine zG (.slice (some ⟨g,0,none⟩) l.length cap) ?_;refine zG (.int .i64 (i:Int)) ?_;refine zGs (.pointer (some ⟨g,i*8,none⟩)) ?_;refine uF qK 154 (.tmp 47) rfl (g) (i*8) rfl (kX (⟨xr,xm,xh,x1,x2,x3,x4,x5⟩:Cl)) _ (HRG.o) uH rfl uD ?_;refine zP ?_;simp only[kX];have HBX:=Hd (jW (jU wr.heap.size wr) (.cells #[.int .i32 xr,.string xm,.int .i64 xh,.int .i64 x1,.int .i64 x2,.int .i64 x3,.int .i64 x4,.int .i64 x5] 154));have HO3:=Hd (ClO.below HO.o HBX.o);refine uM (.slice (some ⟨wr.heap.size,0,none⟩) 1 1) (wr.alloc (.cells #[.int .i32 xr,.string xm,.int .i64 xh,.int .i64 x1,.int .i64 x2,.int .i64 x3,.int .i64 x4,.int .i64 x5] 154)) qK qY ?_;refine zP ?_;refine kO rfl (.tmp 44) (.tmp 49) 95 rfl w1.heap.size 154 j0 _ 8 72 uT hj gz0 gz1 gz2 rfl qZ bx.1 _ _ rfl HO3.o ⟨wr.heap.size,0,none⟩ 1 1 (kX (⟨xr,xm,xh,x1,x2,x3,x4,x5⟩:Cl)) rfl rfl (fun j u hj=>by rw[vZ,kB];exact(at_ (kZ rfl) j u jV).1) (gL _) qM qR qC ?_;intro v' w7 ho hg hv';have HO7:Hid (ClO w1.heap.size w7 v' (P++[(⟨xr,xm,xh,x1,x2,x3,x4,x5⟩:Cl)])):=Hd qP
      have HB7:=Hd ((show Below w1.heap.size w1 _ from HB.o.trans (HBX.o.mono HB.o.size)).grown hg qC (fun b hb=>(kK.lt (show kK _ _ _ _ _ _ _ from HO3.o) b hb).1));refine zP ?_;clear ho hg hv'
      go_wp2
      go_roundw
      case rel=>exact⟨i+1,P++[(⟨xr,xm,xh,x1,x2,x3,x4,x5⟩:Cl)],by go_num,by omega,HNC.o,HO7.o,HB7.o⟩
      case measure=>exact zm
    by_cases e2:(l.length:Int)≤x
    · obtain⟨c,hc⟩:∃c,(uX l)[i]? =some c:=⟨(uX l)[i]'qT,jD _⟩;obtain⟨xr,xm,xh,x1,x2,x3,x4,x5⟩:=c;have HRG:=Hd (HG.o i _ hc);have HNC:Hid (P++[(⟨xr,xm,xh,x1,x2,x3,x4,x5⟩:Cl)]=lE (uX l) x n (i+1)):=Hd qJ2;clear hc
      go_upto_region 7 with fail
      refine wp_region_lit ?_;refine zG (bx.1) ?_;refine zG (.slice (some ⟨g,0,none⟩) l.length cap) ?_;refine zG (.int .i64 (i:Int)) ?_;refine zGs (.pointer (some ⟨g,i*8,none⟩)) ?_;refine uF qK 154 (.tmp 47) rfl (g) (i*8) rfl (kX (⟨xr,xm,xh,x1,x2,x3,x4,x5⟩:Cl)) _ (HRG.o) uH rfl uD ?_;refine zP ?_;simp only[kX];have HBX:=Hd (jW (jU wr.heap.size wr) (.cells #[.int .i32 xr,.string xm,.int .i64 xh,.int .i64 x1,.int .i64 x2,.int .i64 x3,.int .i64 x4,.int .i64 x5] 154));have HO3:=Hd (ClO.below HO.o HBX.o);refine uM (.slice (some ⟨wr.heap.size,0,none⟩) 1 1) (wr.alloc (.cells #[.int .i32 xr,.string xm,.int .i64 xh,.int .i64 x1,.int .i64 x2,.int .i64 x3,.int .i64 x4,.int .i64 x5] 154)) qK qY ?_;refine zP ?_;refine kO rfl (.tmp 44) (.tmp 49) 95 rfl w1.heap.size 154 j0 _ 8 72 uT hj gz0 gz1 gz2 rfl qZ bx.1 _ _ rfl HO3.o ⟨wr.heap.size,0,none⟩ 1 1 (kX (⟨xr,xm,xh,x1,x2,x3,x4,x5⟩:Cl)) rfl rfl (fun j u hj=>by rw[vZ,kB];exact(at_ (kZ rfl) j u jV).1) (gL _) qM qR qC ?_;intro v' w7 ho hg hv';have HO7:Hid (ClO w1.heap.size w7 v' (P++[(⟨xr,xm,xh,x1,x2,x3,x4,x5⟩:Cl)])):=Hd qP
      have HB7:=Hd ((show Below w1.heap.size w1 _ from HB.o.trans (HBX.o.mono HB.o.size)).grown hg qC (fun b hb=>(kK.lt (show kK _ _ _ _ _ _ _ from HO3.o) b hb).1));refine zP ?_;clear ho hg hv'
      go_wp2
      go_roundw
      case rel=>exact⟨i+1,P++[(⟨xr,xm,xh,x1,x2,x3,x4,x5⟩:Cl)],by go_num,by omega,HNC.o,HO7.o,HB7.o⟩
      case measure=>exact zm
    by_cases e3:n<1
    · obtain⟨c,hc⟩:∃c,(uX l)[i]? =some c:=⟨(uX l)[i]'qT,jD _⟩;obtain⟨xr,xm,xh,x1,x2,x3,x4,x5⟩:=c;have HRG:=Hd (HG.o i _ hc);have HNC:Hid (P++[(⟨xr,xm,xh,x1,x2,x3,x4,x5⟩:Cl)]=lE (uX l) x n (i+1)):=Hd qJ2;clear hc
      go_upto_region 7 with fail
      refine wp_region_lit ?_;refine zG (bx.1) ?_;refine zG (.slice (some ⟨g,0,none⟩) l.length cap) ?_;refine zG (.int .i64 (i:Int)) ?_;refine zGs (.pointer (some ⟨g,i*8,none⟩)) ?_;refine uF qK 154 (.tmp 47) rfl (g) (i*8) rfl (kX (⟨xr,xm,xh,x1,x2,x3,x4,x5⟩:Cl)) _ (HRG.o) uH rfl uD ?_;refine zP ?_;simp only[kX];have HBX:=Hd (jW (jU wr.heap.size wr) (.cells #[.int .i32 xr,.string xm,.int .i64 xh,.int .i64 x1,.int .i64 x2,.int .i64 x3,.int .i64 x4,.int .i64 x5] 154));have HO3:=Hd (ClO.below HO.o HBX.o);refine uM (.slice (some ⟨wr.heap.size,0,none⟩) 1 1) (wr.alloc (.cells #[.int .i32 xr,.string xm,.int .i64 xh,.int .i64 x1,.int .i64 x2,.int .i64 x3,.int .i64 x4,.int .i64 x5] 154)) qK qY ?_;refine zP ?_;refine kO rfl (.tmp 44) (.tmp 49) 95 rfl w1.heap.size 154 j0 _ 8 72 uT hj gz0 gz1 gz2 rfl qZ bx.1 _ _ rfl HO3.o ⟨wr.heap.size,0,none⟩ 1 1 (kX (⟨xr,xm,xh,x1,x2,x3,x4,x5⟩:Cl)) rfl rfl (fun j u hj=>by rw[vZ,kB];exact(at_ (kZ rfl) j u jV).1) (gL _) qM qR qC ?_;intro v' w7 ho hg hv';have HO7:Hid (ClO w1.heap.size w7 v' (P++[(⟨xr,xm,xh,x1,x2,x3,x4,x5⟩:Cl)])):=Hd qP
      have HB7:=Hd ((show Below w1.heap.size w1 _ from HB.o.trans (HBX.o.mono HB.o.size)).grown hg qC (fun b hb=>(kK.lt (show kK _ _ _ _ _ _ _ from HO3.o) b hb).1));refine zP ?_;clear ho hg hv'
      go_wp2
      go_roundw
      case rel=>exact⟨i+1,P++[(⟨xr,xm,xh,x1,x2,x3,x4,x5⟩:Cl)],by go_num,by omega,HNC.o,HO7.o,HB7.o⟩
      case measure=>exact zm
    by_cases e4:(i:Int)<x
    · obtain⟨c,hc⟩:∃c,(uX l)[i]? =some c:=⟨(uX l)[i]'qT,jD _⟩;obtain⟨xr,xm,xh,x1,x2,x3,x4,x5⟩:=c;have HRG:=Hd (HG.o i _ hc);have HNC:Hid (P++[(⟨xr,xm,xh,x1,x2,x3,x4,x5⟩:Cl)]=lE (uX l) x n (i+1)):=Hd qJ2;clear hc
      go_upto_region 7 with fail
      refine wp_region_lit ?_;refine zG (bx.1) ?_;refine zG (.slice (some ⟨g,0,none⟩) l.length cap) ?_;refine zG (.int .i64 (i:Int)) ?_;refine zGs (.pointer (some ⟨g,i*8,none⟩)) ?_;refine uF qK 154 (.tmp 47) rfl (g) (i*8) rfl (kX (⟨xr,xm,xh,x1,x2,x3,x4,x5⟩:Cl)) _ (HRG.o) uH rfl uD ?_;refine zP ?_;simp only[kX];have HBX:=Hd (jW (jU wr.heap.size wr) (.cells #[.int .i32 xr,.string xm,.int .i64 xh,.int .i64 x1,.int .i64 x2,.int .i64 x3,.int .i64 x4,.int .i64 x5] 154));have HO3:=Hd (ClO.below HO.o HBX.o);refine uM (.slice (some ⟨wr.heap.size,0,none⟩) 1 1) (wr.alloc (.cells #[.int .i32 xr,.string xm,.int .i64 xh,.int .i64 x1,.int .i64 x2,.int .i64 x3,.int .i64 x4,.int .i64 x5] 154)) qK qY ?_;refine zP ?_;refine kO rfl (.tmp 44) (.tmp 49) 95 rfl w1.heap.size 154 j0 _ 8 72 uT hj gz0 gz1 gz2 rfl qZ bx.1 _ _ rfl HO3.o ⟨wr.heap.size,0,none⟩ 1 1 (kX (⟨xr,xm,xh,x1,x2,x3,x4,x5⟩:Cl)) rfl rfl (fun j u hj=>by rw[vZ,kB];exact(at_ (kZ rfl) j u jV).1) (gL _) qM qR qC ?_;intro v' w7 ho hg hv';have HO7:Hid (ClO w1.heap.size w7 v' (P++[(⟨xr,xm,xh,x1,x2,x3,x4,x5⟩:Cl)])):=Hd qP
      have HB7:=Hd ((show Below w1.heap.size w1 _ from HB.o.trans (HBX.o.mono HB.o.size)).grown hg qC (fun b hb=>(kK.lt (show kK _ _ _ _ _ _ _ from HO3.o) b hb).1));refine zP ?_;clear ho hg hv'
      go_wp2
      go_roundw
      case rel=>exact⟨i+1,P++[(⟨xr,xm,xh,x1,x2,x3,x4,x5⟩:Cl)],by go_num,by omega,HNC.o,HO7.o,HB7.o⟩
      case measure=>exact zm
    have hwx:jP.wrap ((i:Int)-x)=(i:Int)-x:=jH _ qJ
    by_cases e5:n≤(i:Int)-x
    · obtain⟨c,hc⟩:∃c,(uX l)[i]? =some c:=⟨(uX l)[i]'qT,jD _⟩;obtain⟨xr,xm,xh,x1,x2,x3,x4,x5⟩:=c;have HRG:=Hd (HG.o i _ hc);have HNC:Hid (P++[(⟨xr,xm,xh,x1,x2,x3,x4,x5⟩:Cl)]=lE (uX l) x n (i+1)):=Hd qJ2;clear hc
      go_upto_region 7 with fail
      refine wp_region_lit ?_;refine zG (bx.1) ?_;refine zG (.slice (some ⟨g,0,none⟩) l.length cap) ?_;refine zG (.int .i64 (i:Int)) ?_;refine zGs (.pointer (some ⟨g,i*8,none⟩)) ?_;refine uF qK 154 (.tmp 47) rfl (g) (i*8) rfl (kX (⟨xr,xm,xh,x1,x2,x3,x4,x5⟩:Cl)) _ (HRG.o) uH rfl uD ?_;refine zP ?_;simp only[kX];have HBX:=Hd (jW (jU wr.heap.size wr) (.cells #[.int .i32 xr,.string xm,.int .i64 xh,.int .i64 x1,.int .i64 x2,.int .i64 x3,.int .i64 x4,.int .i64 x5] 154));have HO3:=Hd (ClO.below HO.o HBX.o);refine uM (.slice (some ⟨wr.heap.size,0,none⟩) 1 1) (wr.alloc (.cells #[.int .i32 xr,.string xm,.int .i64 xh,.int .i64 x1,.int .i64 x2,.int .i64 x3,.int .i64 x4,.int .i64 x5] 154)) qK qY ?_;refine zP ?_;refine kO rfl (.tmp 44) (.tmp 49) 95 rfl w1.heap.size 154 j0 _ 8 72 uT hj gz0 gz1 gz2 rfl qZ bx.1 _ _ rfl HO3.o ⟨wr.heap.size,0,none⟩ 1 1 (kX (⟨xr,xm,xh,x1,x2,x3,x4,x5⟩:Cl)) rfl rfl (fun j u hj=>by rw[vZ,kB];exact(at_ (kZ rfl) j u jV).1) (gL _) qM qR qC ?_;intro v' w7 ho hg hv';have HO7:Hid (ClO w1.heap.size w7 v' (P++[(⟨xr,xm,xh,x1,x2,x3,x4,x5⟩:Cl)])):=Hd qP
      have HB7:=Hd ((show Below w1.heap.size w1 _ from HB.o.trans (HBX.o.mono HB.o.size)).grown hg qC (fun b hb=>(kK.lt (show kK _ _ _ _ _ _ _ from HO3.o) b hb).1));refine zP ?_;clear ho hg hv'
      go_wp2
      go_roundw
      case rel=>exact⟨i+1,P++[(⟨xr,xm,xh,x1,x2,x3,x4,x5⟩:Cl)],by go_num,by omega,HNC.o,HO7.o,HB7.o⟩
      case measure=>exact zm
    · go_wp2
      go_roundw
      case rel=>exact⟨i+1,P,by go_num,by omega,by rw[HT.o];exact(qJa qT).symm,HO.o,HB.o⟩
      case measure=>exact zm
set_option maxHeartbeats 3200000 in
theorem Y4(A:Option Addr)(l:List Cl)(ca:Nat)(x r:Int)(a:Atr)(w:World)(hl:pA kX 8 w A l)(h0:0<l.length)(hz:l.length≤10000):
 Calls jG 179 #[.slice A l.length ca,.int .i64 x,.int .i32 r,.agg #[.int .i64 a.fk,.int .i64 a.fn,.int .i64 a.bk,.int .i64 a.bn,.int .i64 a.fl]] w (pK (dS l x r a) w):=by
 obtain⟨fk,fn,bk,bn,fl⟩:=a;have hb0:=jW (jU w.heap.size w) (.cells #[.int .i64 fk,.int .i64 fn,.int .i64 bk,.int .i64 bn,.int .i64 fl] 40);have HB0:=Hd hb0;have HA0:=Hd (kA (cs:=UD ⟨fk,fn,bk,bn,fl⟩) (w:=w.alloc (.cells #[.int .i64 fk,.int .i64 fn,.int .i64 bk,.int .i64 bn,.int .i64 fl] 40)) (g:=w.heap.size) (t:=40) (kZ rfl));have HM:=Hd (eX A l l.length ca _ (hl.below hb0) rfl h0 hz);have HW:=Hd (fun w=>tZ r w);have HM2:=Hd (fun(g cap base:Nat) (o:List Cl) (w':World) (h:CrO w' base g cap o) (hn:o.length=l.length)=>eX (some ⟨g,0,none⟩) o l.length cap w' h.gr hn h0 hz);have HV:=Hd (show aZ (uX l) x r ⟨fk,fn,bk,bn,fl⟩=if pR r=1∧0≤x∧x<(uX l).length then(uX l).set x.toNat (yO r kD 0 ⟨fk,fn,bk,bn,fl⟩)else if pR r=2∧0≤x∧x+1<(uX l).length then((uX l).set x.toNat (yO r kD 1 ⟨fk,fn,bk,bn,fl⟩)).set (x.toNat+1) (yO r kD 2 ⟨fk,fn,bk,bn,fl⟩)else uX l from rfl);rw[kR]at HV;have HPL:=Hd (Xs l x r ⟨fk,fn,bk,bn,fl⟩);have HPN:=Hd (lQ l x r ⟨fk,fn,bk,bn,fl⟩);generalize aZ (uX l) x r ⟨fk,fn,bk,bn,fl⟩=RES at HV HPL;generalize dS l x r ⟨fk,fn,bk,bn,fl⟩=GO at HPL HPN ⊢;have HZ:=Hd hz;have H0:=Hd h0;have HWR:=Hd (tI r);generalize pR r=wd at HW HV HWR
 have hwl:jP.wrap ((l.length:Int)-1)=(l.length:Int)-1:=jH _ qJ;have HML:=Hd (kR l);clear hl hb0
 by_cases h1:wd=1∧0≤x∧x<l.length
 · obtain⟨hw1,hx0,hxl⟩:=h1;subst hw1;obtain⟨k,hk⟩:∃k:Nat,x=(k:Int):=⟨x.toNat,by omega⟩;subst hk;clear HWR hwl
   go_enter Tryz.func179,Tryz.ntmps179
   go_upto_region 4 with(first
    |(go_at_call 164;(with_reducible refine HM.o.mono ?_);rintro e w1 ⟨g,cap,rfl,hc,hb⟩;have HC:=Hd hc;have HB1:=Hd (jN HB0.o hb);have HA1:=Hd (pS HA0.o hb);clear hc hb)
    |(go_at_call 176;refine(HW.o _).mono ?_;rintro e w2 ⟨rfl,hb⟩;have HB2:=Hd (jN HB1.o hb);have HC2:=Hd (HC.o.below hb);have HA2:=Hd (pS HA1.o hb);clear hb)
    |fail)
   have HTH:=Hd (HC2.o.there (i:=k) qVs);have HS:=Hd (HC2.o.set (i:=k) qVs (yO r kD 0 ⟨fk,fn,bk,bn,fl⟩));refine wp_region_lit ?_;refine zG (.slice (some ⟨g,0,none⟩) l.length cap) ?_;refine zG (.int .i64 (k:Int)) ?_;refine zG (.int .i32 r) ?_;refine uF qK 40 (.tmp 7) rfl (w.heap.size) (0) rfl ([.int .i64 fk,.int .i64 fn,.int .i64 bk,.int .i64 bn,.int .i64 fl]) _ (HA2.o) vN rfl bL ?_;refine zP ?_;refine jM (.agg (kX (yO r kD 0 ⟨fk,fn,bk,bn,fl⟩)).toArray) qK qJ9 ?_;refine zP ?_;refine zGs (.pointer (some ⟨g,k*8,none⟩)) ?_;refine wpList_store_mid rfl 154 (.tmp 33) (.tmp 32) rfl (g) (k*8) ((kX (yO r kD 0 ⟨fk,fn,bk,bn,fl⟩)).toArray) rfl rfl (HTH.o) uD (bU _) ?_;have hO:=HS.o.1;have HB3:=Hd (HB2.o.trans (HS.o.2.below (fun x hx=>by rw[jR.1 hx];have :=HC2.o.lt.1;simp at this;omega) HB2.o.size));rw[show(uX l).set k (yO r kD 0 ⟨fk,fn,bk,bn,fl⟩)=RES from by rw[HV.o,if_pos qK7,uJ]]at hO;have HRL:Hid (RES.length=l.length):=Hd (by rw[HV.o,if_pos qK7,uG,HML.o]);have HM3:=Hd (HM2.o _ _ _ _ _ hO HRL.o);clear hO
   go_wp2_with(go_at_call 164;refine HM3.o.mono ?_;rintro e w4 ⟨g',cap',rfl,hc,hb⟩;have HC4:=Hd hc;have HB4:=Hd hb;clear hc hb)
   go_ret
   have hO2:=HC4.o;rw[HPL.o]at hO2;exact⟨g',cap',by rw[HPN.o];rfl,gJ hO2 HB3.o.size,jN HB3.o HB4.o⟩
 by_cases h2:wd=2∧0≤x∧x+1<l.length
 · obtain⟨hw2,hx0,hxl⟩:=h2;subst hw2;obtain⟨k,hk⟩:∃k:Nat,x=(k:Int):=⟨x.toNat,by omega⟩;subst hk;obtain⟨j,hj⟩:∃j:Nat,j=k+1:=⟨_,rfl⟩;have hkk:(k:Int)+1=(j:Int):=by omega
   have hwj:jP.wrap (j:Int)=(j:Int):=jH _ qJ;have hxl1:(k:Int)<(l.length:Int)-1:=by omega
   have hkl:k<l.length:=by omega
   have hkl2:(k:Int)<(l.length:Int):=by omega
   have hjl:j<l.length:=by omega
   have hjl2:(j:Int)<(l.length:Int):=by omega
   have HJ:=Hd hj;clear HWR hj
   go_enter Tryz.func179,Tryz.ntmps179
   go_upto_region 6 with(first
    |(go_at_call 164;(with_reducible refine HM.o.mono ?_);rintro e w1 ⟨g,cap,rfl,hc,hb⟩;have HC:=Hd hc;have HB1:=Hd (jN HB0.o hb);have HA1:=Hd (pS HA0.o hb);clear hc hb)
    |(go_at_call 176;refine(HW.o _).mono ?_;rintro e w2 ⟨rfl,hb⟩;have HB2:=Hd (jN HB1.o hb);have HC2:=Hd (HC.o.below hb);have HA2:=Hd (pS HA1.o hb);clear hb)
    |fail)
   have HTH:=Hd (HC2.o.there (i:=k) qVs);have HS:=Hd (HC2.o.set (i:=k) qVs (yO r kD 1 ⟨fk,fn,bk,bn,fl⟩));refine wp_region_lit ?_;refine zG (.slice (some ⟨g,0,none⟩) l.length cap) ?_;refine zG (.int .i64 (k:Int)) ?_;refine zG (.int .i32 r) ?_;refine uF qK 40 (.tmp 7) rfl (w.heap.size) (0) rfl ([.int .i64 fk,.int .i64 fn,.int .i64 bk,.int .i64 bn,.int .i64 fl]) _ (HA2.o) vN rfl bL ?_;refine zP ?_;refine jM (.agg (kX (yO r kD 1 ⟨fk,fn,bk,bn,fl⟩)).toArray) qK qJ9 ?_;refine zP ?_;refine zGs (.pointer (some ⟨g,k*8,none⟩)) ?_;refine wpList_store_mid rfl 154 (.tmp 53) (.tmp 52) rfl (g) (k*8) ((kX (yO r kD 1 ⟨fk,fn,bk,bn,fl⟩)).toArray) rfl rfl (HTH.o) uD (bU _) ?_;simp only[Act.put];change wpList _ _ _ _ _ (w2.setCells g (k*8) (kX (yO r kD 1 ⟨fk,fn,bk,bn,fl⟩)));have HLT:Hid (w.heap.size<g∧g<w2.heap.size):=Hd (by have :=HC2.o.lt;simp at this;omega);have HA3:Hid ((w2.setCells g (k*8) (kX (yO r kD 1 ⟨fk,fn,bk,bn,fl⟩))).rangeAt w.heap.size 0 (UD ⟨fk,fn,bk,bn,fl⟩)):=Hd (fun j v hv=>HS.o.2.cell (by have :=HLT.o;simp;omega) (HA2.o j v hv));have HB3:=Hd (HB2.o.trans (HS.o.2.below (fun x hx=>by rw[jR.1 hx];have :=HLT.o;omega) HB2.o.size))
   generalize w2.setCells g (k*8) (kX (yO r kD 1 ⟨fk,fn,bk,bn,fl⟩))=W3 at HS HA3 HB3 ⊢
   go_upto_region 7 with fail
   have HTH3:=Hd (HS.o.1.there (i:=j) (by rw[uG,HML.o];omega));have HS3:=Hd (HS.o.1.set (i:=j) (by rw[uG,HML.o];omega) (yO r kD 2 ⟨fk,fn,bk,bn,fl⟩));refine wp_region_lit ?_;refine zG (.slice (some ⟨g,0,none⟩) l.length cap) ?_;refine zG (.int .i64 (k:Int)) ?_;refine zGs (.int .i64 (j:Int)) ?_;refine zG (.int .i32 r) ?_;refine uF qK 40 (.tmp 7) rfl (w.heap.size) (0) rfl ([.int .i64 fk,.int .i64 fn,.int .i64 bk,.int .i64 bn,.int .i64 fl]) _ (HA3.o) vN rfl bL ?_;refine zP ?_;refine jM (.agg (kX (yO r kD 2 ⟨fk,fn,bk,bn,fl⟩)).toArray) qK qJ9 ?_;refine zP ?_;refine zGs (.pointer (some ⟨g,j*8,none⟩)) ?_;refine wpList_store_mid rfl 154 (.tmp 60) (.tmp 59) rfl (g) (j*8) ((kX (yO r kD 2 ⟨fk,fn,bk,bn,fl⟩)).toArray) rfl rfl (HTH3.o) uD (bU _) ?_;have HE:Hid (((uX l).set k (yO r kD 1 ⟨fk,fn,bk,bn,fl⟩)).set j (yO r kD 2 ⟨fk,fn,bk,bn,fl⟩)=RES):=Hd (by rw[HV.o,if_neg qV,if_pos (by first|exact⟨rfl,hx0,by omega⟩|exact⟨trivial,hx0,by omega⟩),uJ,HJ.o]);have HRL:Hid (RES.length=l.length):=Hd (by rw[←HE.o,uG,uG,HML.o]);have hO:=HS3.o.1;have HB4:=Hd (HB3.o.trans (HS3.o.2.below (fun x hx=>by rw[jR.1 hx];have :=HLT.o;omega) HB3.o.size));rw[HE.o]at hO;have HM3:=Hd (HM2.o _ _ _ _ _ hO HRL.o);clear hO
   go_wp2_with(go_at_call 164;refine HM3.o.mono ?_;rintro e w4 ⟨g',cap',rfl,hc,hb⟩;have HC4:=Hd hc;have HB5:=Hd hb;clear hc hb)
   go_ret
   have hO2:=HC4.o;rw[HPL.o]at hO2;exact⟨g',cap',by rw[HPN.o];rfl,gJ hO2 HB4.o.size,jN HB4.o HB5.o⟩
 have HRES:Hid (RES=uX l):=Hd (by rw[HV.o,if_neg h1,if_neg h2]);have hfin:∀(g cap:Nat) (w2:World),CrO w2 (w.alloc (.cells #[.int .i64 fk,.int .i64 fn,.int .i64 bk,.int .i64 bn,.int .i64 fl] 40)).heap.size g cap (uX l)→Calls jG 164 #[.slice (some ⟨g,0,none⟩) l.length cap] w2 (RPost l.length GO w2):=fun g cap w2 h=>by
  have :=HM2.o g cap _ _ w2 h HML.o
  rwa[←HRES.o,HPL.o]at this
 have HF:=Hd hfin;have HN:=Hd (kM h1 h2);clear h1 h2 hfin HV HM2 HRES HPL;have hx:x<0∨(0≤x∧x<(l.length:Int)-1)∨(0≤x∧¬x<(l.length:Int)-1∧x<l.length)∨(0≤x∧¬x<(l.length:Int)-1∧¬x<l.length):=by omega
 rcases HWR.o with hw|hw|hw|hw<;>subst hw<;>rcases hx with hx|⟨hx1,hx2⟩|⟨hx1,hx2,hx3⟩|⟨hx1,hx2,hx3⟩<;>
  first
  |(exfalso;have :=HN.o;omega)
  |(clear HWR
    go_enter Tryz.func179,Tryz.ntmps179
    go_wp2_with(first
     |(go_at_call 164;(with_reducible refine HM.o.mono ?_);rintro e w1 ⟨g,cap,rfl,hc,hb⟩;have HC:=Hd hc;have HB1:=Hd (jN HB0.o hb);clear hc hb)
     |(go_at_call 176;refine(HW.o _).mono ?_;rintro e w2 ⟨rfl,hb⟩;have HB2:=Hd (jN HB1.o hb);have HM3:=Hd (HF.o g cap _ (HC.o.below hb));clear hb)
     |(go_at_call 164;refine HM3.o.mono ?_;rintro e w4 ⟨g',cap',rfl,hc,hb⟩;have HC4:=Hd hc;have HB5:=Hd hb;clear hc hb))
    go_ret
    exact⟨g',cap',by rw[HPN.o];rfl,gJ HC4.o HB2.o.size,jN HB2.o HB5.o⟩)
end Go.Proofs.YtjcpdcncfjkejaaGreatDoor
