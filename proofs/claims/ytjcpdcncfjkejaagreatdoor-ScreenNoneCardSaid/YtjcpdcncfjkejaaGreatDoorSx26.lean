/- Joined by a tool of this claim out of smaller texts. Conditions: as stated. -/
import Derived.Test.YtjcpdcncfjkejaaGreatDoorSx10
import Derived.Test.YtjcpdcncfjkejaaGreatDoorSx19
import Derived.Test.YtjcpdcncfjkejaaGreatDoorSx24
set_option linter.unusedVariables false
set_option linter.unusedSimpArgs false
set_option maxRecDepth 100000
open Go.Lib renaming hid → Hd
open Go.Proofs.Tryz renaming prog → jG
open Go.RowKit.Below renaming refl → jU
open Nat renaming le_refl → jS
open List renaming mem_cons → kW
open And renaming intro → kM
namespace Go.Proofs.YtjcpdcncfjkejaaGreatDoor
open Go.RowKit
theorem Vq(rows cols lines:Int)(w:World)(h:cX rows cols=false∨lines<0∨100000<lines):
 Calls jG 24 #[.int .i64 rows,.int .i64 cols,.int .i64 lines] w fun e w'=>e=.returned (.tuple #[.pointer none,.int .i64 1])∧Below w.heap.size w w':=by
 have HP:=Hd (qQd rows cols lines w h)
 go_enter Tryz.func24,Tryz.ntmps24
 go_wp2_with(go_at_call 88;refine HP.o.mono ?_;rintro e w1 ⟨rfl,hb⟩;have HB1:=Hd hb;clear hb)
 go_ret2
 exact⟨rfl,HB1.o⟩
def dR:List Value:=[.int .i64 0,.int .i64 0,.int .i64 0,.int .i64 0,.int .i64 0,.int .i64 0,.int .i64 0,.int .i64 0,.int .i64 0,.int .i64 0,.int .i64 0,.int .i64 0,.int .i64 0,.bool false,.bool false,.bool false,.int .i64 0,.int .i64 0,.bool false]
def zeroS:Sc:=⟨qQn 1 2 0,[],bH,0,0,0,0,bH,0,0,false,0⟩
theorem zero_at(w:World):(Instr.field 47 (.agg dR.toArray) 0).run jG w=.ok (.agg #[.int .i64 0,.int .i64 0]) w:=Xy zeroS w
theorem XH:∀v∈dR,v.oneCell'=true:=fun v hv=>by
 simp only[dR,kW,List.not_mem_nil,or_false]at hv;rcases hv with rfl|rfl|rfl|rfl|rfl|rfl|rfl|rfl|rfl|rfl|rfl|rfl|rfl|rfl|rfl|rfl|rfl|rfl|rfl<;>rfl
theorem QE(w:World):Calls jG 13 #[.pointer none] w fun e w'=>e=.returned (.agg dR.toArray)∧Below w.heap.size w w':=by
 go_enter Tryz.func13,Tryz.ntmps13
 go_upto_region 2 with fail
 generalize hW:World.alloc _ _=W;have hb2:Below w.heap.size w W:=by rw[←hW];exact jW (jU _ _) _
 have hc2:W.heap[w.heap.size]? =some (.cells dR.toArray 47 (0,0)):=by rw[←hW];exact kZ rfl
 have HB2:=Hd hb2;have HC2:=Hd hc2;clear hW hb2 hc2;refine wp_region_lit ?_;refine jM (.agg dR.toArray) qK qJ9 ?_;refine zP ?_;refine wpList_store_mid rfl 47 (.tmp 2) (.tmp 5) rfl (w.heap.size) (0) (dR.toArray) rfl rfl ((show World.there _ w.heap.size 0 19 from gH HC2.o)) nZ (all_oneCell_toArray XH) ?_;simp only[Act.put]
 go_wp2
 have hw:=uB dR 0 _ _ HC2.o (by simp[dR]);exact bodyPost_ret (bV rfl _ _ w.heap.size dR rfl (kA hw) Tryz.underlying47 rfl nZ) rfl ⟨rfl,gX HB2.o (jS _) _ _⟩
theorem aH(A:Option Addr)(n c:Nat)(w:World):Calls jG 27 #[.pointer none,.int .i64 2,.int .i64 2,.slice A n c] w fun e w'=>e=.returned (.tuple #[.slice none 0 0,.int .i64 1])∧Below w.heap.size w w':=by
 have HS:=Hd QE;unfold dR at HS;have HP:=Hd KJ;have HR:=Hd (fun v w=>ZN 2 2 0 0 v w);have hfd:=zero_at;unfold dR at hfd
 go_enter Tryz.func27,Tryz.ntmps27
 go_wp2_with(first
  |(go_at_call 14;refine(HP.o _).mono ?_;rintro e w1 ⟨rfl,rfl⟩)
  |(go_at_call 13;refine(HS.o _).mono ?_;rintro e w2 ⟨rfl,hb⟩;have HB2:=Hd hb;clear hb)
  |(go_at_call 93;refine(HR.o _ _).mono ?_;rintro e w3 ⟨rfl,hb⟩;have HB3:=Hd hb;clear hb))
 go_ret2
 exact⟨rfl,jW (jN HB2.o HB3.o) _⟩
theorem UN(w:World):Calls jG 29 #[.pointer none,.int .i64 2,.int .i64 2] w fun e w'=>e=.returned (.int .i64 1)∧w=w':=by
 have HP:=Hd KJ;have HR:=Hd (fun w=>WR 2 2 w)
 go_enter Tryz.func29,Tryz.ntmps29
 go_wp2_with(first
  |(go_at_call 14;refine(HP.o _).mono ?_;rintro e w1 ⟨rfl,rfl⟩)
  |(go_at_call 96;refine(HR.o _).mono ?_;rintro e w3 ⟨rfl,rfl⟩))
 go_ret
 exact⟨rfl,rfl⟩
theorem oO(k a b:Int)(w:World)(hk:0≤k):Calls jG 26 #[.pointer none,.int .i64 k,.int .i64 a,.int .i64 b] w (yN w):=by
 have HN:=Hd (QG 1 2 0 w qZ qZ qZ qZ qZ);have HG:=Hd (rZ 1 2 0 qZ);have HI:Hid (DmI 1 2 0 (lA 1 2 0 (bN [] 2))):=Hd (HG.o.dmi qZ qZ qZ qZ (by simp[lA]));have HC:=Hd (fun w=>JJ w);unfold chV at HC;have HS:=Hd (fun w=>nSet #[.bool false,.bool false,.bool false] w);have HX:=Hd (fun w=>nChars #[.int .i64 pF.g0,.int .i64 pF.g1,.int .i64 pF.g2,.int .i64 pF.g3,.int .i64 pF.use,.int .i64 pF.once] w)
 by_cases h23:k<23
 · have HK:=Hd (kM hk h23);clear hk
   go_enter Tryz.func26,Tryz.ntmps26
   go_upto_region 2 with(go_at_call 35;refine HN.o.mono ?_;rintro e w1 ⟨m,rfl,hd,hb⟩;have HD:=Hd hd;have HB1:=Hd hb;clear hd hb)
   have HDO:Hid (∀w',Below w1.heap.size w1 w'→Calls jG 12 #[.pointer none,.pointer (some ⟨m.M,0,none⟩),.agg (bY ⟨k,a,b,97,none,[],0⟩).toArray] w' (qJn w.heap.size w1 m)):=Hd (fun w' hb=>
    Wo (uN.post (HD.o.res) hb) HI.o HG.o.f1 (by simp[lA]) k a b HK.o.1 HK.o.2)
   go_wp2_with(go_at_call 12;refine(HDO.o _ (jU _ _)).mono ?_;rintro e w2 ⟨rfl,d',hr⟩;have HR:=Hd hr;clear hr)
   go_end0
   obtain⟨m',-,-,-,hm,-⟩:=HR.o;exact⟨rfl,HB1.o.trans (hm.below (fun g hg=>(HD.o.lt g hg).1) HB1.o.size)⟩
 · have hk2:¬k<23:=h23
   go_enter Tryz.func26,Tryz.ntmps26
   go_wp2_with(first
    |(go_at_call 35;refine HN.o.mono ?_;rintro e w1 ⟨m,rfl,-,hb⟩;have HB1:=Hd hb;clear hb)
    |(go_at_call 90;refine(HS.o _).mono ?_;rintro e w2 ⟨rfl,hb⟩;have HB2:=Hd (jN HB1.o hb);clear hb)
    |(go_at_call 92;refine(HC.o _).mono ?_;rintro e w3 ⟨rfl,hb⟩;have HB3:=Hd (jN HB2.o hb);clear hb)
    |(go_at_call 91;refine(HX.o _).mono ?_;rintro e w4 ⟨rfl,hb⟩;have HB4:=Hd (jN HB3.o hb);clear hb))
   go_end0
   exact⟨rfl,HB4.o⟩
end Go.Proofs.YtjcpdcncfjkejaaGreatDoor
