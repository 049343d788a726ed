/- Joined by a tool of this claim out of smaller texts. Conditions: as stated. -/
import Derived.Test.YtaefcahblmopfaaGreatDoorDp03
import Derived.OwnWalk
set_option linter.unusedVariables false
set_option linter.unusedSimpArgs false
set_option maxRecDepth 100000
open Go.Lib renaming hid → Hd
namespace Go.Proofs.YtaefcahblmopfaaGreatDoor
open Go.RowKit
theorem mend1_any (v:Value) (w:World):Calls Tryz.prog 105 #[v] w fun e w' => e = .returned (.tuple #[])∧w = w':=by
 go_enter Tryz.func105,Tryz.ntmps105
 go_wp2
 go_end0
 exact ⟨rfl,rfl⟩
theorem call_mend1 (args:Array Value) (w:World):(callFunc 105 args).run Tryz.prog w = .ok (.enter 105 args) w:=by kernel_rfl
theorem cMend_any (A:Option Addr) (l:List Cl) (ca:Nat) (w:World) (hl:GrAt encCl 8 w A l) (h0:0 < l.length) (hz:l.length ≤ 10000) :
 Calls Tryz.prog 56 #[.slice A l.length ca] w (WithPost (mendL l) w):=by
 have HW:=Hd (cwith_any A l ca 105 #[] id w hl h0 hz (mendL_len l) call_mend1 (fun g cap w' hc _ => (mend1_any _ w').mono fun e w'' ⟨he,hw⟩ => ⟨he,hw ▸ hc,hw ▸ Mod.refl _ _⟩))
 rw [show mendL (id (mendL l)) = mendL l from mendL_idem l] at HW
 clear hl
 go_enter Tryz.func56,Tryz.ntmps56
 go_wp2_with (go_at_call 104;refine HW.out.mono ?_;rintro e w1 ⟨g,cap,rfl,hc,hb⟩;have HC:=Hd hc;clear hc)
 go_ret
 exact ⟨g,cap,rfl,HC.out,hb⟩
theorem made_flat (z:Cl) (n:Nat):(madeCells (encCl z).toArray (n * 8)).toList = flat encCl (List.replicate n z):=by
 refine List.ext_getElem? fun m => ?_
 by_cases hm:m < n * 8
 · have h1:(List.replicate n z)[m / 8]? = some z:=by rw [List.getElem?_replicate];rw [if_pos (by omega)]
   have h2:=flat_at2 encCl_len (List.replicate n z) (m / 8) z (m % 8) h1 (Nat.mod_lt _ (by decide))
   rw [show m / 8 * 8 + m % 8 = m by omega] at h2
   rw [h2]
   have hj:m % 8 < (encCl z).length:=by rw [encCl_len];exact Nat.mod_lt _ (by decide)
   unfold madeCells
   simp only [Array.toList_map,Array.toList_range,List.getElem?_map,List.getElem?_range hm,Option.map_some]
   rw [List.getElem?_eq_getElem hj]
   congr 1
   have hs:(encCl z).toArray.size = 8:=by rw [List.size_toArray,encCl_len]
   rw [hs,getElem!_pos _ _ (by rw [hs];exact Nat.mod_lt _ (by decide))]
   simp
 · rw [List.getElem?_eq_none (by simp [size_madeCells];omega),List.getElem?_eq_none (by rw [flat_len encCl_len,List.length_replicate];omega)]
theorem replicate_set {n i:Nat} {c d:Cl} (h:i < n):(List.replicate i c ++ List.replicate (n - i) d).set i c = List.replicate (i + 1) c ++ List.replicate (n - (i + 1)) d:=by
 rw [List.set_append_right _ _ (by simp),List.length_replicate,Nat.sub_self,show n - i = (n - (i + 1)) + 1 by omega,List.replicate_succ,List.set_cons_zero,List.replicate_succ',List.append_assoc];rfl
def zeroC:Cl:=emptyA ⟨0,0,0,0,0⟩
set_option maxHeartbeats 3200000 in
theorem cBlanks_any (n:Nat) (b:Col) (w:World) (hn0:0 < n) (hn:n ≤ 1000) :
 Calls Tryz.prog 267 #[.int .i64 n,.agg #[.int .i64 b.k,.int .i64 b.n]] w (WithPost (List.replicate n (blankC b)) w):=by
 obtain ⟨j0,hj,gz0,gz1,gz2⟩:=info_parts info_cellz
 have hmin:min (n:Int) 1000 = (n:Int):=by omega
 have hmax:max 0 (n:Int) = (n:Int):=by omega
 have hpos:(0:Int) < (n:Int):=by omega
 have hnle:¬ (n:Int) ≤ 0:=by omega
 have hn1k:¬ (1000:Int) < (n:Int):=by omega
 have HBL:=Hd (fun w => cblank_any b w)
 have HB0:=Hd (below_allocs (Below.refl w.heap.size w) (.cells #[.int .i64 b.k,.int .i64 b.n] 61))
 have HK:Hid (HoldAt (w.alloc (.cells #[.int .i64 b.k,.int .i64 b.n] 61)) w.heap.size 0 (.int .i64 b.k)∧HoldAt (w.alloc (.cells #[.int .i64 b.k,.int .i64 b.n] 61)) w.heap.size 1 (.int .i64 b.n)):=Hd ⟨at_ (hp_new rfl) 0 _ rfl,at_ (hp_new rfl) 1 _ rfl⟩
 go_enter Tryz.func267,Tryz.ntmps267
 go_wp2_with (refine wpList_make_full _ rfl (.tmp 9) (.tmp 9) _ rfl w.heap.size 65 j0 _ 8 Tryz.underlying50 hj gz0 gz1 .i64 .i64 _ _ n rfl rfl ?_ ?_ ?_ ?_ ?_ ?_)
 all_goals first
  | rfl
  | omega
  | (simp only [maxLen];omega)
  | (rw [gz2];omega)
  | (simp;done)
  | skip
 intro w1 hown hg
 have HO:=Hd hown
 have HG:=Hd hg
 clear hown hg
 go_wp2_with fail
 have hC:CrO w1 w.heap.size (w.heap.size + 1) n (List.replicate n zeroC):=by
  have h:=HO.out
  have e:=made_flat zeroC n
  unfold CrO
  rw [List.length_replicate,← e]
  exact h
 have HC:=Hd hC
 have HB1:=Hd (show Below w.heap.size w w1 from HB0.out.grown HG.out (by simp) (fun k hk => by cases hk))
 have HK1:=Hd (show HoldAt w1 w.heap.size 0 (.int .i64 b.k)∧HoldAt w1 w.heap.size 1 (.int .i64 b.n) from ⟨⟨HG.out.cell HK.out.1.1 (fun e => by cases e),keep_none_f HG.out HK.out.1.1 HK.out.1.2⟩,⟨HG.out.cell HK.out.2.1 (fun e => by cases e),keep_none_f HG.out HK.out.2.1 HK.out.2.2⟩⟩)
 have hsz:=hC.lt.2
 clear hC HO HG
 go_loopw [13] (fun s13 wr => ∃ i:Nat,s13 = .int .i64 i∧i ≤ n∧CrO wr w.heap.size (w.heap.size + 1) n (List.replicate i (blankC b) ++ List.replicate (n - i) zeroC)∧Mod [w.heap.size + 1] w1 wr) (fun s13 _ => n - (intOf s13).toNat)
 case atStart => exact ⟨0,rfl,Nat.zero_le _,by simpa using HC.out,Mod.refl _ _⟩
 case round =>
  obtain ⟨i,rfl,hi,hO,hM⟩:=hrel
  have HO:=Hd hO
  have HM:=Hd hM
  have k0:=(hM.hold (by simp) HK1.out.1).1
  have k1:=(hM.hold (by simp) HK1.out.2).1
  clear hO hM
  by_cases hlt:i < n
  rotate_left
  · obtain rfl:i = n:=by omega
    go_wp2
    go_ret
    refine ⟨w.heap.size + 1,i,by simp,?_,HB1.out.trans (HM.out.below (fun x hx => by rw [List.mem_singleton.1 hx];omega) HB1.out.size)⟩
    simpa using HO.out
  · have hltI:(i:Int) < (n:Int):=by omega
    go_wp2_with (first
     | (go_at_call 335;refine (HBL.out _).mono ?_;rintro e w3 ⟨rfl,hb⟩;have HB3:=Hd hb;clear hb;have HTH:=Hd ((HO.out.below HB3.out).there (i:=i) (by simp;omega)))
     | (refine wpList_store_mid (op:=⟨none,.store 65 (.tmp 20) (.tmp 19),_,_,_,_⟩) rfl 65 (.tmp 20) (.tmp 19) rfl (w.heap.size + 1) (i * 8) (encCl (blankC b)).toArray rfl rfl HTH.out info_cell (cl_one (blankC b)) ?_))
    obtain ⟨q1,q2⟩:=(HO.out.below HB3.out).set (i:=i) (by simp;omega) (blankC b)
    rw [replicate_set hlt] at q1
    have Q1:=Hd q1
    have Q2:=Hd q2
    clear q1 q2
    go_roundw
    case rel => exact ⟨i + 1,by go_num,by omega,Q1.out,(HM.out.then_below HB3.out).trans Q2.out (fun k hk => .inl hk)⟩
    case measure => simp [intOf];omega
def putO (o:List Cl) (x r:Int) (a:Atr):List Cl :=
 if widOf r = 1∧0 ≤ x∧x < o.length then o.set x.toNat (mkCl r ByteArray.empty 0 a)
 else if widOf r = 2∧0 ≤ x∧x + 1 < o.length then (o.set x.toNat (mkCl r ByteArray.empty 1 a)).set (x.toNat + 1) (mkCl r ByteArray.empty 2 a)
 else o
theorem putO_len (o:List Cl) (x r:Int) (a:Atr):(putO o x r a).length = o.length:=by
 unfold putO
 split
 · simp
 split
 · simp
 · rfl
theorem putL_O (l:List Cl) (x r:Int) (a:Atr):mendL (putO (mendL l) x r a) = putL l x r a:=by
 unfold putO putL
 simp only []
 split
 · rfl
 split
 · rfl
 · exact mendL_idem l
theorem wid_range (r:Int):widOf r = -1 ∨ widOf r = 0 ∨ widOf r = 2 ∨ widOf r = 1:=by
 unfold widOf
 split
 · exact .inl rfl
 split
 · exact .inr (.inl rfl)
 split
 · exact .inr (.inr (.inl rfl))
 · exact .inr (.inr (.inr rfl))
def encAt (a:Atr):List Value:=[.int .i64 a.fk,.int .i64 a.fn,.int .i64 a.bk,.int .i64 a.bn,.int .i64 a.fl]
theorem CrO.mend_post {w:World} {base g cap:Nat} {l:List Cl} (h:CrO w base g cap l):MendPost base g cap l w (.returned (.tuple #[])) w:=⟨rfl,h,Mod.refl _ _⟩
set_option maxHeartbeats 3200000 in
theorem close1_any (base g cap:Nat) (o:List Cl) (w:World) (h:CrO w base g cap o) (h0:0 < o.length) (hz:o.length ≤ 10000) :
 Calls Tryz.prog 402 #[.slice (some ⟨g,0,none⟩) o.length cap] w (MendPost base g cap (o.set (o.length - 1) padC) w):=by
 obtain ⟨n,hn⟩:∃ n,o.length = n + 1:=⟨o.length - 1,by omega⟩
 have hpos:(0:Int) < (o.length:Int):=by omega
 have hw:IntKind.i64.wrap ((o.length:Int) - 1) = (n:Int):=by rw [IntWalk.i64_in _ (by omega)];omega
 have HTH:=Hd (h.there (i:=n) (by omega))
 have HS:=Hd (h.set (i:=n) (by omega) padC)
 have hnl:(n:Int) < (o.length:Int):=by omega
 have HN:=Hd hn
 clear h hn
 go_enter Tryz.func402,Tryz.ntmps402
 go_wp2_with (refine wpList_store_mid (op:=⟨none,.store 65 (.tmp 10) (.tmp 9),_,_,_,_⟩) rfl 65 (.tmp 10) (.tmp 9) rfl g (n * 8) (encCl padC).toArray rfl rfl HTH.out info_cell (cl_one padC) ?_)
 go_end0
 refine ⟨rfl,?_,HS.out.2⟩
 have:=HS.out.1
 rw [show o.length - 1 = n by have:=HN.out;omega]
 exact this
set_option maxHeartbeats 3200000 in
theorem put1_any (base g cap:Nat) (o:List Cl) (br bx ba:Nat) (x r:Int) (a:Atr) (w:World) (h:CrO w base g cap o) (hz:o.length ≤ 10000) (hr:w.cell? ⟨br,0,none⟩ = some (.int .i32 r)) (hx:w.cell? ⟨bx,0,none⟩ = some (.int .i64 x)) (ha:w.rangeAt ba 0 (encAt a))
 (hb1:br < base) (hb2:bx < base) (hb3:ba < base) :
 Calls Tryz.prog 352 #[.slice (some ⟨g,0,none⟩) o.length cap,.pointer (some ⟨br,0,none⟩),.pointer (some ⟨bx,0,none⟩),.pointer (some ⟨ba,0,none⟩)] w (MendPost base g cap (putO o x r a) w):=by
 have HW:=Hd (fun w => widOf_any r w)
 have H:=Hd h
 have hgb:=h.lt
 have HX:=Hd hx
 have HA:=Hd ha
 have HR:=Hd hr
 clear h ha
 have HV:=Hd (show putO o x r a = if widOf r = 1∧0 ≤ x∧x < o.length then o.set x.toNat (mkCl r ByteArray.empty 0 a) else if widOf r = 2∧0 ≤ x∧x + 1 < o.length then (o.set x.toNat (mkCl r ByteArray.empty 1 a)).set (x.toNat + 1) (mkCl r ByteArray.empty 2 a) else o from rfl)
 generalize putO o x r a = RES at HV
 have HWR:=Hd (wid_range r)
 generalize widOf r = wd at HW HV HWR
 by_cases hx0:x < 0
 · go_enter Tryz.func352,Tryz.ntmps352
   go_wp2_with (go_at_call 162;refine (HW.out _).mono ?_;rintro e w1 ⟨rfl,hb⟩;have HB:=Hd hb;have hx':=holda hb HX.out;clear hx hr hb)
   go_end0
   rw [HV.out,if_neg (by omega),if_neg (by omega)]
   exact ⟨rfl,H.out.below HB.out,Mod.of_below HB.out⟩
 by_cases hw1:wd < 1
 · go_enter Tryz.func352,Tryz.ntmps352
   go_wp2_with (go_at_call 162;refine (HW.out _).mono ?_;rintro e w1 ⟨rfl,hb⟩;have HB:=Hd hb;have hx':=holda hb HX.out;clear hx hr hb)
   go_end0
   rw [HV.out,if_neg (by omega),if_neg (by omega)]
   exact ⟨rfl,H.out.below HB.out,Mod.of_below HB.out⟩
 have hwI:IntKind.i64.wrap ((o.length:Int) - wd) = (o.length:Int) - wd:=IntWalk.i64_in _ (by have:=HWR.out;omega)
 by_cases hbig:(o.length:Int) - wd < x
 · go_enter Tryz.func352,Tryz.ntmps352
   go_wp2_with (go_at_call 162;refine (HW.out _).mono ?_;rintro e w1 ⟨rfl,hb⟩;have HB:=Hd hb;have hx':=holda hb HX.out;clear hx hr hb)
   go_end0
   rw [HV.out,if_neg (by omega),if_neg (by omega)]
   exact ⟨rfl,H.out.below HB.out,Mod.of_below HB.out⟩
 obtain ⟨k,hk⟩:∃ k:Nat,x = (k:Int):=⟨x.toNat,by omega⟩
 subst hk
 obtain ⟨fk,fn,bk,bn,fl⟩:=a
 clear hwI
 have hxl:(k:Int) + wd ≤ (o.length:Int):=by omega
 rcases HWR.out with hw | hw | hw | hw
 · omega
 · omega
 · subst hw
   obtain ⟨j,hj⟩:∃ j:Nat,j = k + 1:=⟨_,rfl⟩
   have hkk:(k:Int) + 1 = (j:Int):=by omega
   have hwj:IntKind.i64.wrap (j:Int) = (j:Int):=IntWalk.i64_in _ (by omega)
   have hkl:(j:Int) < (o.length:Int):=by omega
   have hkl2:(k:Int) < (o.length:Int):=by omega
   have hkl3:j < o.length:=by omega
   have hkl4:k < o.length:=by omega
   have HJ:=Hd hj
   clear hj
   have HK:=Hd (show 0 ≤ (k:Int)∧(k:Int) + 1 < (o.length:Int) from by omega)
   have hw2:IntKind.i64.wrap ((o.length:Int) - 2) = (o.length:Int) - 2:=IntWalk.i64_in _ (by omega)
   have htn:((k:Int)).toNat = k:=by omega
   have HTN:=Hd htn
   clear htn
   clear HWR
   go_enter Tryz.func352,Tryz.ntmps352
   go_upto_region 4 with (first
    | (go_at_call 162;refine (HW.out _).mono ?_;rintro e w1 ⟨rfl,hb⟩;have HB:=Hd hb;have hx':=holda hb HX.out;have hr':=holda hb HR.out;have HA1:=range_below HA.out hb
       have a0:=HA1 0 _ rfl;have a1:=HA1 1 _ rfl;have a2:=HA1 2 _ rfl;have a3:=HA1 3 _ rfl;have a4:=HA1 4 _ rfl;have l1:=lt_of_cell hx';have l2:=lt_of_cell hr';have l3:=lt_of_cell a0;clear HA1 hx hr hb)
    | fail)
   generalize hW2:World.alloc _ _ = W2
   have hb2:Below w1.heap.size w1 W2:=by rw [← hW2];exact below_allocs (Below.refl _ _) _
   have hc2:W2.heap[w1.heap.size]? = some (.cells (encCl (mkCl r ByteArray.empty 0 ⟨fk,fn,bk,bn,fl⟩)).toArray 65 (0,0)):=by rw [← hW2];exact hp_new rfl
   have x2:=holda hb2 hx'
   obtain ⟨y2,y2f⟩:=whole_at hc2 2 _ rfl
   have HB2:=Hd (below_tail HB.out (below_set hb2 (Nat.le_refl _) (o:=2) (.int .i64 2)))
   have HC2:=Hd (whole_set hc2 2 (.int .i64 2) (cs':=encCl (mkCl r ByteArray.empty 2 ⟨fk,fn,bk,bn,fl⟩)) rfl)
   have X2:=Hd (show (W2.setCell ⟨w1.heap.size,2,none⟩ (.int .i64 2)).cell? ⟨bx,0,none⟩ = some (.int .i64 k) from (World.cell?_setCell_other _ _ _ _ (fun e => by injection e with e1 e2;omega)).trans x2)
   clear hW2 hb2 hc2 hx' hr' a0 a1 a2 a3 a4 l2 l3 l1
   go_upto_region 5 with fail
   generalize World.setCell _ _ _ = W3 at HB2 HC2 X2 ⊢
   have x3:=X2.out
   have HTH:=Hd ((H.out.below HB2.out).there (i:=j) (by omega))
   have HS:=Hd ((H.out.below HB2.out).set (i:=j) (by omega) (mkCl r ByteArray.empty 2 ⟨fk,fn,bk,bn,fl⟩))
   clear X2 x2 y2 y2f
   refine wp_region_lit ?_
   refine wpList_valG (.slice (some ⟨g,0,none⟩) o.length cap) (by rfl) (by rfl) ?_
   simp only [Act.put,List.setIfInBounds_toArray,List.set_cons_zero,List.set_cons_succ]
   refine wpList_valG (.int .i64 (k:Int)) (by rfl) (by go_simp) ?_
   simp only [Act.put,List.setIfInBounds_toArray,List.set_cons_zero,List.set_cons_succ]
   refine wpList_valG (.int .i64 (j:Int)) (by rfl) (by go_simp) ?_
   simp only [Act.put,List.setIfInBounds_toArray,List.set_cons_zero,List.set_cons_succ]
   refine load_mid_g (by rfl) 65 (.tmp 6) rfl (w1.heap.size) (0) rfl (encCl (mkCl r ByteArray.empty 2 ⟨fk,fn,bk,bn,fl⟩)) _ (range_new HC2.out) Tryz.underlying65 rfl info_cell ?_
   simp only [Act.put,List.setIfInBounds_toArray,List.set_cons_zero,List.set_cons_succ]
   refine wpList_valG (.pointer (some ⟨g,j * 8,none⟩)) (by rfl) (by go_simp) ?_
   simp only [Act.put,List.setIfInBounds_toArray,List.set_cons_zero,List.set_cons_succ]
   refine wpList_store_mid rfl 65 (.tmp 33) (.tmp 32) rfl (g) (j * 8) ((encCl (mkCl r ByteArray.empty 2 ⟨fk,fn,bk,bn,fl⟩)).toArray) rfl rfl (HTH.out) info_cell (cl_one _) ?_
   simp only [Act.put]
   have hne:g ≠ w1.heap.size:=by have:=HB.out.size;omega
   have HC3:Hid ((W3.setCells g (j * 8) (encCl (mkCl r ByteArray.empty 2 ⟨fk,fn,bk,bn,fl⟩))).heap[w1.heap.size]? = some (.cells (encCl (mkCl r ByteArray.empty 2 ⟨fk,fn,bk,bn,fl⟩)).toArray 65 (0,0))):=Hd ((HS.out.2.block _ (Array.getElem?_eq_some_iff.1 HC2.out).1 (by simp;omega)).trans HC2.out)
   have x4:(W3.setCells g (j * 8) (encCl (mkCl r ByteArray.empty 2 ⟨fk,fn,bk,bn,fl⟩))).cell? ⟨bx,0,none⟩ = some (.int .i64 k):=HS.out.2.cell (by simp;omega) x3
   change wpList _ _ _ _ _ (W3.setCells g (j * 8) (encCl (mkCl r ByteArray.empty 2 ⟨fk,fn,bk,bn,fl⟩)))
   generalize W3.setCells g (j * 8) (encCl (mkCl r ByteArray.empty 2 ⟨fk,fn,bk,bn,fl⟩)) = W4 at HS HC3 x4 ⊢
   obtain ⟨y4,y4f⟩:=whole_at HC3.out 2 _ rfl
   clear x3
   go_upto_region 7 with fail
   have l1:=lt_of_cell x4
   have HC5:=Hd (whole_set HC3.out 2 (.int .i64 1) (cs':=encCl (mkCl r ByteArray.empty 1 ⟨fk,fn,bk,bn,fl⟩)) rfl)
   have HM5:Hid (Mod [g] w (W4.setCell ⟨w1.heap.size,2,none⟩ (.int .i64 1))):=Hd (((Mod.of_below HB2.out).trans HS.out.2 (fun b hb => .inl hb)).setCell (a:=⟨w1.heap.size,2,none⟩) (.inr HB.out.size) _)
   have HO5:Hid (CrO (W4.setCell ⟨w1.heap.size,2,none⟩ (.int .i64 1)) base g cap (o.set j (mkCl r ByteArray.empty 2 ⟨fk,fn,bk,bn,fl⟩))):=Hd (HS.out.1.mod ((Mod.refl [w1.heap.size] W4).setCell (a:=⟨w1.heap.size,2,none⟩) (.inl (by simp)) _) (by simp;omega))
   have X5:Hid ((W4.setCell ⟨w1.heap.size,2,none⟩ (.int .i64 1)).cell? ⟨bx,0,none⟩ = some (.int .i64 k)):=Hd ((World.cell?_setCell_other _ _ _ _ (fun e => by injection e with e1 e2;have:=HB.out.size;omega)).trans x4)
   generalize World.setCell _ _ _ = W5 at HC5 HM5 HO5 X5 ⊢
   have x5:=X5.out
   have HTH5:=Hd (HO5.out.there (i:=k) (by simp;omega))
   have HS5:=Hd (HO5.out.set (i:=k) (by simp;omega) (mkCl r ByteArray.empty 1 ⟨fk,fn,bk,bn,fl⟩))
   clear X5 x4 y4 y4f HTH
   refine wp_region_lit ?_
   refine wpList_valG (.slice (some ⟨g,0,none⟩) o.length cap) (by rfl) (by rfl) ?_
   simp only [Act.put,List.setIfInBounds_toArray,List.set_cons_zero,List.set_cons_succ]
   refine wpList_valG (.int .i64 (k:Int)) (by rfl) (by go_simp) ?_
   simp only [Act.put,List.setIfInBounds_toArray,List.set_cons_zero,List.set_cons_succ]
   refine load_mid_g (by rfl) 65 (.tmp 6) rfl (w1.heap.size) (0) rfl (encCl (mkCl r ByteArray.empty 1 ⟨fk,fn,bk,bn,fl⟩)) _ (range_new HC5.out) Tryz.underlying65 rfl info_cell ?_
   simp only [Act.put,List.setIfInBounds_toArray,List.set_cons_zero,List.set_cons_succ]
   refine wpList_valG (.pointer (some ⟨g,k * 8,none⟩)) (by rfl) (by go_simp) ?_
   simp only [Act.put,List.setIfInBounds_toArray,List.set_cons_zero,List.set_cons_succ]
   refine wpList_store_mid rfl 65 (.tmp 38) (.tmp 37) rfl (g) (k * 8) ((encCl (mkCl r ByteArray.empty 1 ⟨fk,fn,bk,bn,fl⟩)).toArray) rfl rfl (HTH5.out) info_cell (cl_one _) ?_
   go_wp2
   go_end0
   rw [HV.out,if_neg (by simp),if_pos (by first | exact ⟨rfl,HK.out⟩ | exact ⟨trivial,HK.out⟩),HTN.out,List.set_comm _ _ (by omega),← HJ.out]
   refine ⟨rfl,?_,HM5.out.trans HS5.out.2 (fun b hb => .inl hb)⟩
   have:=HS5.out.1
   unfold CrO at this ⊢
   simpa using this
 · subst hw
   have hkl:(k:Int) < (o.length:Int):=by omega
   have HK:=Hd (show 0 ≤ (k:Int)∧(k:Int) < (o.length:Int) from by omega)
   have hw2:IntKind.i64.wrap ((o.length:Int) - 1) = (o.length:Int) - 1:=IntWalk.i64_in _ (by omega)
   clear HWR
   go_enter Tryz.func352,Tryz.ntmps352
   go_upto_region 7 with (first
    | (go_at_call 162;refine (HW.out _).mono ?_;rintro e w1 ⟨rfl,hb⟩;have HB:=Hd hb;have hx':=holda hb HX.out;have hr':=holda hb HR.out;have HA1:=range_below HA.out hb
       have a0:=HA1 0 _ rfl;have a1:=HA1 1 _ rfl;have a2:=HA1 2 _ rfl;have a3:=HA1 3 _ rfl;have a4:=HA1 4 _ rfl;have l1:=lt_of_cell hx';have l2:=lt_of_cell hr';have l3:=lt_of_cell a0;clear HA1 hx hr hb)
    | fail)
   generalize hW2:World.alloc _ _ = W2
   have hb2:Below w1.heap.size w1 W2:=by rw [← hW2];exact below_allocs (Below.refl _ _) _
   have hc2:W2.heap[w1.heap.size]? = some (.cells (encCl (mkCl r ByteArray.empty 0 ⟨fk,fn,bk,bn,fl⟩)).toArray 65 (0,0)):=by rw [← hW2];exact hp_new rfl
   have HB2:=Hd (below_tail HB.out hb2)
   have HC2:=Hd hc2
   have x2:=holda hb2 hx'
   have HTH:=Hd ((H.out.below HB2.out).there (i:=k) (by omega))
   have HS:=Hd ((H.out.below HB2.out).set (i:=k) (by omega) (mkCl r ByteArray.empty 0 ⟨fk,fn,bk,bn,fl⟩))
   clear hW2 hb2 hc2 hx' hr' a0 a1 a2 a3 a4 l1 l2 l3
   refine wp_region_lit ?_
   refine wpList_valG (.slice (some ⟨g,0,none⟩) o.length cap) (by rfl) (by rfl) ?_
   simp only [Act.put,List.setIfInBounds_toArray,List.set_cons_zero,List.set_cons_succ]
   refine wpList_valG (.int .i64 (k:Int)) (by rfl) (by go_simp) ?_
   simp only [Act.put,List.setIfInBounds_toArray,List.set_cons_zero,List.set_cons_succ]
   refine load_mid_g (by rfl) 65 (.tmp 6) rfl w1.heap.size 0 rfl (encCl (mkCl r ByteArray.empty 0 ⟨fk,fn,bk,bn,fl⟩)) _ (range_new HC2.out) Tryz.underlying65 rfl info_cell ?_
   simp only [Act.put,List.setIfInBounds_toArray,List.set_cons_zero,List.set_cons_succ]
   refine wpList_valG (.pointer (some ⟨g,k * 8,none⟩)) (by rfl) (by go_simp) ?_
   simp only [Act.put,List.setIfInBounds_toArray,List.set_cons_zero,List.set_cons_succ]
   refine wpList_store_mid rfl 65 (.tmp 38) (.tmp 37) rfl g (k * 8) (encCl (mkCl r ByteArray.empty 0 ⟨fk,fn,bk,bn,fl⟩)).toArray rfl rfl HTH.out info_cell (cl_one _) ?_
   go_wp2
   go_end0
   rw [HV.out,if_pos (by first | exact ⟨rfl,HK.out⟩ | exact ⟨trivial,HK.out⟩)]
   exact ⟨rfl,HS.out.1,(Mod.of_below HB2.out).trans HS.out.2 (fun b hb => .inl hb)⟩
end Go.Proofs.YtaefcahblmopfaaGreatDoor
