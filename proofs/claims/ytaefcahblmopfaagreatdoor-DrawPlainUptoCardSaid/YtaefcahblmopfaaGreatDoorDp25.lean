/- Joined by a tool of this claim out of smaller texts. Conditions: as stated. -/
import Derived.Test.YtaefcahblmopfaaGreatDoorDp24
set_option linter.unusedVariables false
set_option linter.unusedSimpArgs false
set_option maxRecDepth 100000
open Go.Lib renaming hid → Hd
namespace Go.Proofs.YtaefcahblmopfaaGreatDoor
open Go.RowKit
def progC (l:List (List Int)) (i:Nat):Option Col:=if 1 < (l.getD i []).length then insV (l.getD i []) else (behV l i).1
def progN (l:List (List Int)) (i:Nat):Int:=if 1 < (l.getD i []).length then (i:Int) + 1 else (i:Int) + (behV l i).2 + 1
theorem le255 {x:Int}:x ≤ 255 ↔ x < 256:=by omega
theorem b3V_1 (x:Int):b3V [x] = if x < 256 then some ⟨1,max 0 x⟩ else none:=by
 unfold b3V accN
 by_cases h:x < 256
 · rw [if_pos h,if_pos (fun y hy => by rw [List.mem_singleton.1 hy];omega)]
   simp
 · rw [if_neg h,if_neg (fun h' => h (le255.1 (h' _ (List.mem_singleton.2 rfl))))]
theorem b3V_3 (x y z:Int):b3V [x,y,z] = if x < 256∧y < 256∧z < 256 then some ⟨2,65536 * max 0 x + 256 * max 0 y + max 0 z⟩ else none:=by
 unfold b3V accN
 by_cases h:x < 256∧y < 256∧z < 256
 · rw [if_pos h,if_pos (fun u hu => by simp at hu;rcases hu with rfl | rfl | rfl <;> omega),if_neg (by simp)]
   simp only [List.foldl]
   congr 2
   omega
 · rw [if_neg h,if_neg (fun h' => h ⟨le255.1 (h' _ (by simp)),le255.1 (h' _ (by simp)),le255.1 (h' _ (by simp))⟩)]
theorem drop3 (g:List Int) (hl:g.length = 5 ∨ g.length = 6):g.drop (g.length - 3) = [g.getD (g.length - 3) 0,g.getD (g.length - 2) 0,g.getD (g.length - 1) 0]:=by
 rcases hl with hl | hl
 · match g,hl with
   | [a,b,c,d,e],_ => rfl
 · match g,hl with
   | [a,b,c,d,e,f],_ => rfl
theorem and3 {a b c:Prop}:(a∧b∧c) ↔ (c∧b∧a):=⟨fun h => ⟨h.2.2,h.2.1,h.1⟩,fun h => ⟨h.2.2,h.2.1,h.1⟩⟩
theorem insV_ext (l:List (List Int)) (i:Nat) (h:1 < (l.getD i []).length):extG l i = (insV (l.getD i []),i + 1):=by
 unfold extG insV
 simp only []
 rw [if_pos h]
 generalize l.getD i [] = g at h ⊢
 rw [b3V_1]
 by_cases h5:g.getD 1 0 = 5∧g.length = 3
 · obtain ⟨h5,hl⟩:=h5
   have h2:¬ g.getD 1 0 = 2:=by omega
   rw [if_pos (c:=g.getD 1 0 = 5∧g.length = 3) ⟨h5,hl⟩]
   by_cases h9:g.getD 2 0 < 256
   · rw [if_pos (c:=g.getD 1 0 = 5∧g.length = 3∧g.getD 2 0 < 256) ⟨h5,hl,h9⟩,if_pos h9]
     rfl
   · rw [if_neg (c:=g.getD 1 0 = 5∧g.length = 3∧g.getD 2 0 < 256) (fun h => h9 h.2.2),if_neg h9,if_neg (fun h => h2 h.1)]
 · rw [if_neg (c:=g.getD 1 0 = 5∧g.length = 3∧g.getD 2 0 < 256) (fun h => h5 ⟨h.1,h.2.1⟩),if_neg h5]
   by_cases h2:g.getD 1 0 = 2∧(g.length = 5 ∨ g.length = 6)
   · rw [if_pos h2,drop3 g h2.2,b3V_3]
     by_cases h9:g.getD (g.length - 3) 0 < 256∧g.getD (g.length - 2) 0 < 256∧g.getD (g.length - 1) 0 < 256
     · rw [if_pos ⟨h2.1,h2.2,and3.1 h9⟩,if_pos h9]
       rfl
     · rw [if_neg (fun h => h9 (and3.1 h.2.2)),if_neg h9]
   · rw [if_neg h2,if_neg (fun h => h2 ⟨h.1,h.2.1⟩)]
theorem fstG_pos (l:List (List Int)) (i:Nat):0 ≤ fstG l i:=by unfold fstG;omega
theorem behV_ext (l:List (List Int)) (i:Nat) (hi:i < l.length) (h:¬ 1 < (l.getD i []).length) :
 (extG l i).1 = (behV l i).1∧((((extG l i).2:Nat):Int) = i + (behV l i).2 + 1 ∨ (l.length ≤ (extG l i).2∧(i:Int) + (behV l i).2 + 1 = l.length)):=by
 unfold extG behV
 simp only []
 rw [if_neg h]
 have p2:=fstG_pos l (i + 2)
 have p3:=fstG_pos l (i + 3)
 have p4:=fstG_pos l (i + 4)
 by_cases h5:fstG l (i + 1) = 5
 · rw [if_pos h5]
   have hn:needV l i = 1:=by unfold needV;rw [if_pos h5]
   rw [hn]
   by_cases hl:l.length ≤ i + 1 + 1
   · rw [if_pos hl,if_neg (fun h => by omega)]
     exact ⟨rfl,.inr ⟨by omega,by simp only [];omega⟩⟩
   · rw [if_neg hl,if_neg (c:=(1:Nat) = 0) (by decide)]
     have hv:valsV l i 1 = [fstG l (i + 2)]:=rfl
     rw [hv]
     refine ⟨?_,.inl (by simp only [];omega)⟩
     rw [b3V_1]
     by_cases h9:fstG l (i + 2) < 256
     · rw [if_pos ⟨by omega,h9⟩,if_pos h9]
       show some _ = some _
       congr 2
       omega
     · rw [if_neg (fun h => h9 h.2),if_neg h9]
 · rw [if_neg h5]
   by_cases h2:fstG l (i + 1) = 2
   · rw [if_pos h2]
     have hn:needV l i = 3:=by unfold needV;rw [if_neg h5,if_pos h2]
     rw [hn]
     by_cases hl:l.length ≤ i + 1 + 3
     · rw [if_pos hl,if_neg (fun h => by omega)]
       exact ⟨rfl,.inr ⟨by omega,by simp only [];omega⟩⟩
     · rw [if_neg hl,if_neg (c:=(3:Nat) = 0) (by decide)]
       have hv:valsV l i 3 = [fstG l (i + 2),fstG l (i + 3),fstG l (i + 4)]:=rfl
       rw [hv]
       refine ⟨?_,.inl (by simp only [];omega)⟩
       rw [b3V_3]
       by_cases h9:fstG l (i + 2) < 256∧fstG l (i + 3) < 256∧fstG l (i + 4) < 256
       · rw [if_pos ⟨by omega,h9⟩,if_pos h9]
         show some _ = some _
         congr 2
         omega
       · rw [if_neg (fun h => h9 h.2),if_neg h9]
   · rw [if_neg h2]
     have hn:needV l i = 0:=by unfold needV;rw [if_neg h5,if_neg h2]
     rw [hn]
     by_cases hl:l.length ≤ i + 1 + 0
     · rw [if_pos hl]
       exact ⟨rfl,.inr ⟨by simp only [];omega,by simp only [];omega⟩⟩
     · rw [if_neg hl,if_pos rfl]
       exact ⟨rfl,.inl (by simp only [];omega)⟩
def turnS (a:Atr) (l:List (List Int)) (i:Nat):Atr × Int :=
 if fstG l i = 38 ∨ fstG l i = 48 then (putA a (fstG l i) (progC l i),progN l i) else (simpA a (fstG l i) (l.getD i []),(i:Int) + 1)
theorem turnS_step (a:Atr) (l:List (List Int)) (i:Nat) (hi:i < l.length):∃ j:Nat,(turnS a l i).2 = j∧i < j∧j ≤ l.length∧turnN l.length (turnS a l i).1 l j = turnN l.length a l i:=by
 rw [turnN_step l a i hi]
 unfold turnS stepA
 by_cases h:fstG l i = 38 ∨ fstG l i = 48
 · rw [if_pos h,if_pos h]
   unfold progC progN
   simp only []
   by_cases hg:1 < (l.getD i []).length
   · rw [if_pos hg,if_pos hg,insV_ext l i hg]
     exact ⟨i + 1,by omega,by omega,by omega,rfl⟩
   · rw [if_neg hg,if_neg hg]
     obtain ⟨e1,e2⟩:=behV_ext l i hi hg
     rw [e1]
     have hm:i < (extG l i).2:=by
      have:=stepA_more a l i
      unfold stepA at this
      rw [if_pos h] at this
      exact this
     rcases e2 with e2 | ⟨e2,e3⟩
     · by_cases hle:(extG l i).2 ≤ l.length
       · exact ⟨(extG l i).2,e2.symm,hm,hle,rfl⟩
       · exfalso
         have hb:(i:Int) + (behV l i).2 + 1 ≤ l.length:=by
          unfold behV
          split
          · simp only [];omega
          · split
            · simp only [];omega
            · simp only [];omega
         omega
     · exact ⟨l.length,e3,hi,Nat.le_refl _,by rw [turnN_end l _ _ _ (Nat.le_refl _),turnN_end l _ _ _ e2]⟩
 · rw [if_neg h,if_neg h]
   exact ⟨i + 1,by simp only [];omega,by omega,by omega,rfl⟩
theorem putA_fl (a:Atr) (v:Int) (c:Option Col):(putA a v c).fl = a.fl:=by
 unfold putA
 cases c with
 | none => rfl
 | some c => simp only [];split <;> rfl
theorem simpA_ok {a:Atr} (h:FlOk a.fl) (v:Int) (g:List Int):FlOk (simpA a v g).fl:=by
 unfold simpA
 split
 · exact ⟨by decide,by decide⟩
 · exact h.flags v g
theorem turnS_ok {a:Atr} (h:FlOk a.fl) (l:List (List Int)) (i:Nat):FlOk (turnS a l i).1.fl:=by
 unfold turnS
 split
 · show FlOk (putA _ _ _).fl
   rw [putA_fl];exact h
 · exact simpA_ok h _ _
theorem simpA_4 {a:Atr} (h:FlOk a.fl) (g:List Int):simpA a 4 g = { a with fl:=bits .or .i64 (bits .andNot .i64 a.fl 264) (lineV g) }:=by
 rw [flags4 h];rfl
set_option maxHeartbeats 6400000 in
theorem asimple0_any (a:Atr) (w:World):Calls Tryz.prog 362 #[.agg (aL a).toArray,.int .i64 0] w (SimpPost zeroA w):=by
 obtain ⟨fk,fn,bk,bn,fl⟩:=a
 unfold aL
 go_enter Tryz.func362,Tryz.ntmps362
 go_wp2
 exact bodyPost_ret (ret_agg rfl _ _ (w.heap.size + 1) (aL zeroA) rfl (range_new (hp_new (by simp))) Tryz.underlying63 rfl info_attr5) rfl ⟨rfl,below_allocs (below_allocs (Below.refl _ _) _) _⟩
theorem asim_any {a:Atr} (hf:FlOk a.fl) (v:Int) (g:List Int) (w:World) (h4:v ≠ 4) (hv:0 ≤ v) (hv2:v ≤ 65535):Calls Tryz.prog 362 #[.agg (aL a).toArray,.int .i64 v] w (SimpPost (simpA a v g) w):=by
 by_cases h0:v = 0
 · subst h0
   exact asimple0_any a w
 · rw [← simpB_A hf v hv h0 h4 g]
   exact asimple_any a v w h0 hv hv2
theorem fst_le {G:List (List Int)} (hc:Clean G) (i:Nat):fstG G i ≤ 65535:=by
 unfold fstG
 by_cases hi:i < G.length
 · have hm:G.getD i [] ∈ G:=by rw [List.getD_eq_getElem?_getD,List.getElem?_eq_getElem hi];exact List.getElem_mem hi
   obtain ⟨h1,-,h2⟩:=hc _ hm
   cases hg:G.getD i [] with
   | nil => rw [hg] at h1;simp at h1
   | cons x l => have:=(h2 x (by rw [hg];exact List.mem_cons_self)).2;show max 0 x ≤ 65535;omega
 · rw [List.getD_eq_getElem?_getD,List.getElem?_eq_none (by omega)];decide
theorem heap_otherN {b k:Nat} (h:k ≠ b):∀ (vs:List Value) (o:Nat) (w:World),(w.setCells b o vs).heap[k]? = w.heap[k]?
 | [],_,_ => rfl
 | v :: vs,o,w => (heap_otherN h vs (o + 1) (w.setCell ⟨b,o,none⟩ v)).trans (heap_other h)
section
variable {w:World} {A:Option Addr} {H:List Gh}
set_option maxHeartbeats 6400000 in
theorem aTurn_any (hG:GsAt w A H) (ca:Nat) (hcl:Clean (gsOf H)) (hz:H.length ≤ 1000) (a:Atr) (hf:FlOk a.fl):Calls Tryz.prog 306 #[.agg (aL a).toArray,.slice A H.length ca] w (SimpPost (turnA a (gsOf H)) w):=by
 obtain ⟨W,hW⟩:∃ W,(w.alloc (.cells (aL a).toArray 63)).alloc (.cells (aL zeroA).toArray 63) = W:=⟨_,rfl⟩
 have hb:Below w.heap.size w W:=by rw [← hW];exact below_allocs (below_allocs (Below.refl _ _) _) _
 have hcx:W.heap[w.heap.size]? = some (.cells (aL a).toArray 63 (0,0)):=by rw [← hW];exact hp_old (hp_new rfl)
 have hcy:W.heap[w.heap.size + 1]? = some (.cells (aL zeroA).toArray 63 (0,0)):=by rw [← hW];exact hp_new (by simp)
 have HB0:=Hd hb
 have HX0:=Hd hcx
 have HY0:=Hd hcy
 have HW:=Hd hW
 have hgl:(gsOf H).length = H.length:=by unfold gsOf;simp
 obtain ⟨L,hL⟩:∃ L,H.length = L:=⟨_,rfl⟩
 have HGET:Hid (∀ i,i < L→∃ (x:Gh) (gb off:Nat),A = some ⟨gb,off,none⟩∧w.cell? ⟨gb,off + i,none⟩ = some (.slice x.A x.g.length x.cap)∧(gsOf H).getD i [] = x.g∧x.g.length ≤ 8∧x.g.length ≤ x.cap∧(∀ W',Below w.heap.size w W'→Calls Tryz.prog 359 #[.slice x.A x.g.length x.cap] W' fun e w' => e = .returned (.int .i64 (lineV x.g))∧W' = w')∧(1 < x.g.length→∀ W',Below w.heap.size w W'→Calls Tryz.prog 360 #[.slice x.A x.g.length x.cap] W' (OcPost (insV x.g) W'))):=Hd (fun i hi => by
  obtain ⟨x,gb,off,h1,h2,h3,⟨h4,h4b⟩,h5⟩:=hG.get (i:=i) (by omega)
  have hm:(gsOf H).getD i [] ∈ gsOf H:=by
   have hi':i < (gsOf H).length:=by omega
   rw [List.getD_eq_getElem?_getD,List.getElem?_eq_getElem hi'];exact List.getElem_mem hi'
  have h8:=(hcl _ hm).2.1
  rw [h5] at h8
  exact ⟨x,gb,off,h2,h3,h5,h8,h4b,fun W' hb' => aline_any (h4.below hb') x.cap (by omega),fun hx W' hb' => ainside_any (h4.below hb') x.cap hx h8 h4b⟩)
 have HFI:Hid (∀ W',Below w.heap.size w W'→∀ i:Nat,Calls Tryz.prog 358 #[.slice A L ca,.int .i64 i] W' fun e w' => e = .returned (.int .i64 (fstG (gsOf H) i))∧W' = w'):=Hd (fun W' hb' i => by rw [← hL];exact afirst_any (hG.below hb') ca i (by omega))
 have HBE:Hid (∀ W',Below w.heap.size w W'→∀ i:Nat,i < L→Calls Tryz.prog 361 #[.slice A L ca,.int .i64 i] W' (BehPost (behV (gsOf H) i) W')):=Hd (fun W' hb' i hi => by rw [← hL] at hi ⊢;exact abehind_any (hG.below hb') ca i hi hz)
 have HV:Hid (∀ i:Nat,0 ≤ fstG (gsOf H) i∧fstG (gsOf H) i ≤ 65535):=Hd (fun i => ⟨fstG_pos _ i,fst_le hcl i⟩)
 have HEND:Hid (∀ a':Atr,turnN L a' (gsOf H) L = turnA a (gsOf H)→a' = turnA a (gsOf H)):=Hd (fun a' h => by rw [turnN_end _ _ _ _ (by omega)] at h;exact h)
 have HST:Hid (∀ (a':Atr) (i:Nat),i < L→turnN L a' (gsOf H) i = turnA a (gsOf H)→∃ j:Nat,(turnS a' (gsOf H) i).2 = j∧i < j∧j ≤ L∧turnN L (turnS a' (gsOf H) i).1 (gsOf H) j = turnA a (gsOf H)):=Hd (fun a' i hi h => by
  have e:(gsOf H).length = L:=by omega
  obtain ⟨j,h1,h2,h3,h4⟩:=turnS_step a' (gsOf H) i (by omega)
  rw [e] at h3 h4
  exact ⟨j,h1,h2,h3,h4.trans h⟩)
 have HS0:Hid (turnN L a (gsOf H) 0 = turnA a (gsOf H)):=Hd (by unfold turnA;rw [hgl,hL])
 have HFL:=Hd hf
 rw [hL] at hz ⊢
 obtain ⟨T,hT⟩:∃ T,turnA a (gsOf H) = T:=⟨_,rfl⟩
 rw [hT] at HEND HST HS0 ⊢
 generalize gsOf H = G at HGET HFI HBE HV HEND HST HS0
 clear hG hcl hb hcx hcy hW hgl hL hf hT
 go_enter Tryz.func306,Tryz.ntmps306
 go_upto_region 1 with fail
 have hW2:(w.alloc (.cells (aL a).toArray 63)).alloc (.cells #[.int .i64 0,.int .i64 0,.int .i64 0,.int .i64 0,.int .i64 0] 63) = W:=HW.out
 rw [hW2]
 clear hW2
 go_wp2_with fail
 go_loopw [5] (fun s5 wr => ∃ (i:Nat) (a':Atr),s5 = .int .i64 i∧i ≤ L∧FlOk a'.fl∧turnN L a' G i = T∧wr.heap[w.heap.size]? = some (.cells (aL a').toArray 63 (0,0))∧wr.heap[w.heap.size + 1]? = some (.cells (aL zeroA).toArray 63 (0,0))∧Below w.heap.size w wr) (fun s5 _ => L - (intOf s5).toNat)
 case atStart => exact ⟨0,a,rfl,Nat.zero_le _,HFL.out,HS0.out,HX0.out,HY0.out,HB0.out⟩
 case round =>
  obtain ⟨i,a',rfl,hi,hok,htn,hx,hy,hbw⟩:=hrel
  have HX:=Hd hx
  have HY:=Hd hy
  have HB:=Hd hbw
  have HOK:=Hd hok
  have HTN:=Hd htn
  have hwi:IntKind.i64.wrap ((i:Int) + 1) = (i:Int) + 1:=IntWalk.i64_in _ (by omega)
  clear HX0 HY0 HB0 HFL HS0 HW hx hy hbw hok htn
  by_cases hlt:i < L
  rotate_left
  · have hltI:¬ (i:Int) < (L:Int):=by omega
    obtain rfl:i = L:=by omega
    obtain rfl:=HEND.out a' HTN.out
    obtain ⟨fk,fn,bk,bn,fl⟩:=a'
    go_upto_region 21 with fail
    refine wp_region_lit ?_
    refine load_mid_g (by rfl) 63 (.tmp 2) rfl (w.heap.size) (0) rfl (aL ⟨fk,fn,bk,bn,fl⟩) _ (range_new HX.out) Tryz.underlying63 rfl info_attr5 ?_
    simp only [Act.put,List.setIfInBounds_toArray,List.set_cons_zero,List.set_cons_succ]
    refine wpList_store_mid rfl 63 (.tmp 4) (.tmp 77) rfl (w.heap.size + 1) (0) ((aL ⟨fk,fn,bk,bn,fl⟩).toArray) rfl rfl ((show World.there _ (w.heap.size + 1) 0 5 from there_new HY.out)) info_attr5 (all_oneCell_toArray (one5 _)) ?_
    simp only [Act.put]
    go_wp2
    have hw:=whole_setCells (aL ⟨fk,fn,bk,bn,fl⟩) 0 _ _ HY.out (by simp [aL])
    exact bodyPost_ret (ret_agg rfl _ _ (w.heap.size + 1) (aL ⟨fk,fn,bk,bn,fl⟩) rfl (range_new hw) Tryz.underlying63 rfl info_attr5) rfl ⟨rfl,below_setN HB.out (by omega) _ _⟩
  · have hltI:(i:Int) < (L:Int):=by omega
    obtain ⟨j,hj1,hj2,hj3,hj4⟩:=HST.out a' i hlt HTN.out
    obtain ⟨x,gb,off,rfl,hcg,hge,hg8,hgc,hln,hin⟩:=HGET.out i hlt
    have hcg2:=holda HB.out hcg
    have HF:=Hd (HFI.out wr HB.out i)
    have HVI:=Hd (HV.out i)
    have HBI:=Hd (fun W' hb' => HBE.out W' hb' i hlt)
    have HLN:=Hd hln
    have HIN:=Hd hin
    have HGE:=Hd hge
    have HOK2:=Hd (turnS_ok HOK.out G i)
    obtain ⟨a2,ha2⟩:∃ a2,(turnS a' G i).1 = a2:=⟨_,rfl⟩
    rw [ha2] at hj4 HOK2
    have HJ1:=Hd hj1
    have HA2:=Hd ha2
    have HJ4:=Hd hj4
    have HJ:=Hd (And.intro hj2 hj3)
    unfold turnS at HJ1 HA2
    rw [HGE.out] at HA2
    unfold progC at HA2
    unfold progN at HJ1
    rw [HGE.out] at HA2 HJ1
    obtain ⟨v,hv⟩:∃ v,fstG G i = v:=⟨_,rfl⟩
    rw [hv] at HF HVI HJ1 HA2
    clear hcg hln hin hge hj1 ha2 hj4 hj2 hj3 hv HTN HEND HST HGET HFI HBE HV
    by_cases h4:v = 4
    · subst h4
      have hj:Hid ((i:Int) + 1 = (j:Int)):=Hd (by rw [← HJ1.out,if_neg (by decide)])
      obtain ⟨lv,hlv⟩:∃ lv,lineV x.g = lv:=⟨_,rfl⟩
      rw [hlv] at HLN
      obtain ⟨nf,hnf⟩:∃ nf,bits .or .i64 (bits .andNot .i64 a'.fl 264) lv = nf:=⟨_,rfl⟩
      have ha:Hid (a2 = { a' with fl:=nf }):=Hd (by rw [← HA2.out,if_neg (by decide)];show simpA a' 4 x.g = _;rw [simpA_4 HOK.out,hlv,hnf])
      obtain ⟨fk,fn,bk,bn,fl⟩:=a'
      simp only [] at ha hnf
      obtain ⟨c4,f4⟩:=at_ HX.out 4 (.int .i64 fl) rfl
      have HNF:=Hd hnf
      clear HJ1 HA2 HBI HIN hlv hnf
      go_upto_region 8 with (go_at_call 358;(with_reducible refine HF.out.mono ?_);rintro e w2 ⟨rfl,rfl⟩)
      refine wp_region_u 10 (fun w' => Below wr.heap.size wr w'∧w'.cell? ⟨w.heap.size,4,none⟩ = some (.int .i64 fl)∧w'.cell? ⟨gb,off + i,none⟩ = some (.slice x.A x.g.length x.cap)) (by kernel_rfl) (by kernel_rfl) ?_ ?_
      · exact ⟨(Below.refl _ _).drew,c4,hcg2⟩
      simp only [List.take_succ_cons,List.take_zero,List.drop_succ_cons,List.drop_zero]
      repeat (
       (first
        | refine seqU_skip (by rfl) ?_
        | ((refine seqU_call 359 #[.slice x.A x.g.length x.cap] (.int .i64 lv) (by rfl) ?_ (fun w' hS => (HLN.out w' (below_tail HB.out hS.1)).mono fun e w2 ⟨he,hw⟩ => ⟨he,hw ▸ hS⟩) ?_;(focus (intro w2;go_simp;done))))
        | (refine seqU_val ?_ (by rfl) ?_ ?_;rotate_left;(focus (intro w' hS;obtain ⟨_,_,_⟩:=hS;go_simp;first | done | with_reducible rfl))))
       simp only [Act.put,List.setIfInBounds_toArray,List.set_cons_zero,List.set_cons_succ])
      refine seqU_nil (fun w' hS => ?_)
      have hx8:=(hS.1.block _ (lt_of_heap HX.out)).trans HX.out
      have hy8:=(hS.1.block _ (lt_of_heap HY.out)).trans HY.out
      have hb8:=below_tail HB.out hS.1
      clear hS c4 f4
      obtain ⟨c4,f4⟩:=at_ hx8 4 (.int .i64 fl) rfl
      have hNF:=HNF.out
      go_upto_region 3 with fail
      have HX9:Hid ((w'.setCell ⟨w.heap.size,4,none⟩ (.int .i64 nf)).heap[w.heap.size]? = some (.cells (aL a2).toArray 63 (0,0))):=Hd (by rw [ha.out];exact whole_set hx8 4 _ rfl)
      have HY9:=Hd (heap_set_old (i:=4) (v:=.int .i64 nf) hy8 (show w.heap.size + 1 ≠ w.heap.size by omega))
      have HB9:=Hd (below_set hb8 (Nat.le_refl w.heap.size) (o:=4) (.int .i64 nf))
      clear hx8 hy8 hb8 c4 f4 hNF
      go_wp2
      go_roundw
      case rel => exact ⟨j,a2,by rw [hj.out],HJ.out.2,HOK2.out,HJ4.out,HX9.out,HY9.out,HB9.out⟩
      case measure => have h1:=HJ.out;have h2:=hj.out;simp [intOf];omega
    · have e4:(v == 4) = false:=beq_eq_false_iff_ne.2 h4
      by_cases h38:v = 38
      · subst h38
        have HJF:Hid ((if 1 < x.g.length then (i:Int) + 1 else (i:Int) + (behV G i).2 + 1) = (j:Int)):=Hd (by rw [← HJ1.out,if_pos (c:=(38:Int) = 38 ∨ (38:Int) = 48) (.inl rfl)])
        have HAF:Hid (putA a' 38 (if 1 < x.g.length then insV x.g else (behV G i).1) = a2):=Hd (by rw [← HA2.out,if_pos (c:=(38:Int) = 38 ∨ (38:Int) = 48) (.inl rfl)])
        clear HJ1 HA2 HLN HGE HVI h4 e4
        by_cases hx1:1 < x.g.length
        · have hx1I:(1:Int) < (x.g.length:Int):=by omega
          have HNE:Hid (w.heap.size ≠ wr.heap.size∧w.heap.size + 1 ≠ wr.heap.size):=Hd (by have h1:=lt_of_heap HX.out;have h2:=lt_of_heap HY.out;omega)
          go_upto_region 12 with (go_at_call 358;(with_reducible refine HF.out.mono ?_);rintro e w2 ⟨rfl,rfl⟩)
          obtain ⟨W12,hW12⟩:∃ W12,wr.alloc (Obj.cells #[.int .i64 0,.int .i64 0] 61) = W12:=⟨_,rfl⟩
          have hb12:Below wr.heap.size wr W12:=by rw [← hW12];exact below_allocs (Below.refl _ _) _
          have HZ12:Hid (W12.heap[wr.heap.size]? = some (.cells #[.int .i64 0,.int .i64 0] 61 (0,0))):=Hd (by rw [← hW12];exact hp_new rfl)
          have HX12:=Hd ((hb12.block _ (lt_of_heap HX.out)).trans HX.out)
          have HY12:=Hd ((hb12.block _ (lt_of_heap HY.out)).trans HY.out)
          have HB12:=Hd (below_tail HB.out hb12)
          have hcg12:=holda hb12 hcg2
          rw [hW12]
          clear hW12 hcg2 hb12
          obtain ⟨oc,hoc⟩:∃ oc,insV x.g = oc:=⟨_,rfl⟩
          have hJ:Hid ((i:Int) + 1 = (j:Int)):=Hd (by rw [← HJF.out,if_pos hx1])
          have hA:Hid (putA a' 38 oc = a2):=Hd (by rw [← HAF.out,if_pos hx1,hoc])
          have HC:=Hd (HIN.out hx1 W12 HB12.out)
          rw [hoc] at HC
          clear hoc hx1 HJF HAF HIN HBI
          go_upto_region 17 with (go_at_call 360;(with_reducible refine HC.out.mono ?_);rintro e w13 ⟨rfl,hb13⟩;have hz13:=(hb13.block _ (lt_of_heap HZ12.out)).trans HZ12.out;obtain ⟨d0,d0f⟩:=at_ hz13 0 (.int .i64 0) rfl;obtain ⟨d1,d1f⟩:=at_ hz13 1 (.int .i64 0) rfl)
          have hz17:=whole_set (whole_set hz13 0 (.int .i64 (ocK oc)) rfl) 1 (.int .i64 (ocN oc)) rfl
          have hx17:=heap_set_old (i:=1) (v:=.int .i64 (ocN oc)) (heap_set_old (i:=0) (v:=.int .i64 (ocK oc)) ((hb13.block _ (lt_of_heap HX12.out)).trans HX12.out) HNE.out.1) HNE.out.1
          have hy17:=heap_set_old (i:=1) (v:=.int .i64 (ocN oc)) (heap_set_old (i:=0) (v:=.int .i64 (ocK oc)) ((hb13.block _ (lt_of_heap HY12.out)).trans HY12.out) HNE.out.2) HNE.out.2
          have hb17:=below_set (below_set (below_tail HB12.out hb13) HB.out.size (o:=0) (.int .i64 (ocK oc))) HB.out.size (o:=1) (.int .i64 (ocN oc))
          clear hz13 hb13 d0 d0f d1 d1f
          generalize (World.setCell w13 ⟨wr.heap.size,0,none⟩ (.int .i64 (ocK oc))).setCell ⟨wr.heap.size,1,none⟩ (.int .i64 (ocN oc)) = W17 at hz17 hx17 hy17 hb17 ⊢
          have HZ17:=Hd hz17
          have HX17:=Hd hx17
          have HY17:=Hd hy17
          have HB17:=Hd hb17
          clear hz17 hx17 hy17 hb17
          obtain ⟨fk,fn,bk,bn,fl⟩:=a'
          cases oc with
          | none =>
            have HX9:Hid (W17.heap[w.heap.size]? = some (.cells (aL a2).toArray 63 (0,0))):=Hd (by rw [← hA.out];exact HX17.out)
            have HY9:=HY17
            have HB9:=HB17
            go_wp2
            go_roundw
            case rel => exact ⟨j,a2,by rw [hJ.out],HJ.out.2,HOK2.out,HJ4.out,HX9.out,HY9.out,HB9.out⟩
            case measure => have h1:=HJ.out;have h2:=hJ.out;simp [intOf];omega
          | some c =>
            obtain ⟨ck,cn⟩:=c
            have hz17:=HZ17.out
            have hx17:=HX17.out
            obtain ⟨d0,d0f⟩:=at_ hz17 0 (.int .i64 ck) rfl
            obtain ⟨d1,d1f⟩:=at_ hz17 1 (.int .i64 cn) rfl
            obtain ⟨x0,x0f⟩:=at_ hx17 0 (.int .i64 fk) rfl
            obtain ⟨x1,x1f⟩:=at_ hx17 1 (.int .i64 fn) rfl
            have HX9:Hid (((W17.setCell ⟨w.heap.size,0,none⟩ (.int .i64 ck)).setCell ⟨w.heap.size,1,none⟩ (.int .i64 cn)).heap[w.heap.size]? = some (.cells (aL a2).toArray 63 (0,0))):=Hd (by rw [← hA.out];exact whole_set (whole_set hx17 0 _ rfl) 1 _ rfl)
            have HY9:Hid (((W17.setCell ⟨w.heap.size,0,none⟩ (.int .i64 ck)).setCell ⟨w.heap.size,1,none⟩ (.int .i64 cn)).heap[w.heap.size + 1]? = some (.cells (aL zeroA).toArray 63 (0,0))):=Hd (heap_set_old (heap_set_old HY17.out (by omega)) (by omega))
            have HB9:=Hd (below_set (below_set HB17.out (Nat.le_refl w.heap.size) (o:=0) (.int .i64 ck)) (Nat.le_refl w.heap.size) (o:=1) (.int .i64 cn))
            clear hz17 hx17
            go_wp2
            go_roundw
            case rel => exact ⟨j,a2,by rw [hJ.out],HJ.out.2,HOK2.out,HJ4.out,HX9.out,HY9.out,HB9.out⟩
            case measure => have h1:=HJ.out;have h2:=hJ.out;simp [intOf];omega
        · have hx1I:¬ (1:Int) < (x.g.length:Int):=by omega
          have HNE:Hid (w.heap.size ≠ wr.heap.size∧w.heap.size + 1 ≠ wr.heap.size):=Hd (by have h1:=lt_of_heap HX.out;have h2:=lt_of_heap HY.out;omega)
          go_upto_region 12 with (go_at_call 358;(with_reducible refine HF.out.mono ?_);rintro e w2 ⟨rfl,rfl⟩)
          obtain ⟨W12,hW12⟩:∃ W12,wr.alloc (Obj.cells #[.int .i64 0,.int .i64 0] 61) = W12:=⟨_,rfl⟩
          have hb12:Below wr.heap.size wr W12:=by rw [← hW12];exact below_allocs (Below.refl _ _) _
          have HZ12:Hid (W12.heap[wr.heap.size]? = some (.cells #[.int .i64 0,.int .i64 0] 61 (0,0))):=Hd (by rw [← hW12];exact hp_new rfl)
          have HX12:=Hd ((hb12.block _ (lt_of_heap HX.out)).trans HX.out)
          have HY12:=Hd ((hb12.block _ (lt_of_heap HY.out)).trans HY.out)
          have HB12:=Hd (below_tail HB.out hb12)
          have hcg12:=holda hb12 hcg2
          rw [hW12]
          clear hW12 hcg2 hb12
          have HC:=Hd (HBI.out W12 HB12.out)
          obtain ⟨bh,hbh⟩:∃ bh,behV G i = bh:=⟨_,rfl⟩
          obtain ⟨oc,bn⟩:=bh
          have hJ:Hid ((i:Int) + bn + 1 = (j:Int)):=Hd (by rw [← HJF.out,if_neg hx1,hbh])
          have hA:Hid (putA a' 38 oc = a2):=Hd (by rw [← HAF.out,if_neg hx1,hbh])
          rw [hbh] at HC
          have hwb:IntKind.i64.wrap ((i:Int) + bn) = (i:Int) + bn:=IntWalk.i64_in _ (by have h1:=hJ.out;have h2:=HJ.out;omega)
          have hwb1:IntKind.i64.wrap ((i:Int) + bn + 1) = (i:Int) + bn + 1:=IntWalk.i64_in _ (by have h1:=hJ.out;have h2:=HJ.out;omega)
          clear hbh hx1 HJF HAF HIN HBI
          go_upto_region 17 with (go_at_call 361;(with_reducible refine HC.out.mono ?_);rintro e w13 ⟨rfl,hb13⟩;have hz13:=(hb13.block _ (lt_of_heap HZ12.out)).trans HZ12.out;obtain ⟨d0,d0f⟩:=at_ hz13 0 (.int .i64 0) rfl;obtain ⟨d1,d1f⟩:=at_ hz13 1 (.int .i64 0) rfl)
          have hz17:=whole_set (whole_set hz13 0 (.int .i64 (ocK oc)) rfl) 1 (.int .i64 (ocN oc)) rfl
          have hx17:=heap_set_old (i:=1) (v:=.int .i64 (ocN oc)) (heap_set_old (i:=0) (v:=.int .i64 (ocK oc)) ((hb13.block _ (lt_of_heap HX12.out)).trans HX12.out) HNE.out.1) HNE.out.1
          have hy17:=heap_set_old (i:=1) (v:=.int .i64 (ocN oc)) (heap_set_old (i:=0) (v:=.int .i64 (ocK oc)) ((hb13.block _ (lt_of_heap HY12.out)).trans HY12.out) HNE.out.2) HNE.out.2
          have hb17:=below_set (below_set (below_tail HB12.out hb13) HB.out.size (o:=0) (.int .i64 (ocK oc))) HB.out.size (o:=1) (.int .i64 (ocN oc))
          clear hz13 hb13 d0 d0f d1 d1f
          generalize (World.setCell w13 ⟨wr.heap.size,0,none⟩ (.int .i64 (ocK oc))).setCell ⟨wr.heap.size,1,none⟩ (.int .i64 (ocN oc)) = W17 at hz17 hx17 hy17 hb17 ⊢
          have HZ17:=Hd hz17
          have HX17:=Hd hx17
          have HY17:=Hd hy17
          have HB17:=Hd hb17
          clear hz17 hx17 hy17 hb17
          obtain ⟨fk,fn,bk,bn,fl⟩:=a'
          cases oc with
          | none =>
            have HX9:Hid (W17.heap[w.heap.size]? = some (.cells (aL a2).toArray 63 (0,0))):=Hd (by rw [← hA.out];exact HX17.out)
            have HY9:=HY17
            have HB9:=HB17
            go_wp2
            go_roundw
            case rel => exact ⟨j,a2,by rw [hJ.out],HJ.out.2,HOK2.out,HJ4.out,HX9.out,HY9.out,HB9.out⟩
            case measure => have h1:=HJ.out;have h2:=hJ.out;simp [intOf];omega
          | some c =>
            obtain ⟨ck,cn⟩:=c
            have hz17:=HZ17.out
            have hx17:=HX17.out
            obtain ⟨d0,d0f⟩:=at_ hz17 0 (.int .i64 ck) rfl
            obtain ⟨d1,d1f⟩:=at_ hz17 1 (.int .i64 cn) rfl
            obtain ⟨x0,x0f⟩:=at_ hx17 0 (.int .i64 fk) rfl
            obtain ⟨x1,x1f⟩:=at_ hx17 1 (.int .i64 fn) rfl
            have HX9:Hid (((W17.setCell ⟨w.heap.size,0,none⟩ (.int .i64 ck)).setCell ⟨w.heap.size,1,none⟩ (.int .i64 cn)).heap[w.heap.size]? = some (.cells (aL a2).toArray 63 (0,0))):=Hd (by rw [← hA.out];exact whole_set (whole_set hx17 0 _ rfl) 1 _ rfl)
            have HY9:Hid (((W17.setCell ⟨w.heap.size,0,none⟩ (.int .i64 ck)).setCell ⟨w.heap.size,1,none⟩ (.int .i64 cn)).heap[w.heap.size + 1]? = some (.cells (aL zeroA).toArray 63 (0,0))):=Hd (heap_set_old (heap_set_old HY17.out (by omega)) (by omega))
            have HB9:=Hd (below_set (below_set HB17.out (Nat.le_refl w.heap.size) (o:=0) (.int .i64 ck)) (Nat.le_refl w.heap.size) (o:=1) (.int .i64 cn))
            clear hz17 hx17
            go_wp2
            go_roundw
            case rel => exact ⟨j,a2,by rw [hJ.out],HJ.out.2,HOK2.out,HJ4.out,HX9.out,HY9.out,HB9.out⟩
            case measure => have h1:=HJ.out;have h2:=hJ.out;simp [intOf];omega
      · by_cases h48:v = 48
        · subst h48
          have HJF:Hid ((if 1 < x.g.length then (i:Int) + 1 else (i:Int) + (behV G i).2 + 1) = (j:Int)):=Hd (by rw [← HJ1.out,if_pos (c:=(48:Int) = 38 ∨ (48:Int) = 48) (.inr rfl)])
          have HAF:Hid (putA a' 48 (if 1 < x.g.length then insV x.g else (behV G i).1) = a2):=Hd (by rw [← HA2.out,if_pos (c:=(48:Int) = 38 ∨ (48:Int) = 48) (.inr rfl)])
          clear HJ1 HA2 HLN HGE HVI h4 e4
          by_cases hx1:1 < x.g.length
          · have hx1I:(1:Int) < (x.g.length:Int):=by omega
            have HNE:Hid (w.heap.size ≠ wr.heap.size∧w.heap.size + 1 ≠ wr.heap.size):=Hd (by have h1:=lt_of_heap HX.out;have h2:=lt_of_heap HY.out;omega)
            go_upto_region 12 with (go_at_call 358;(with_reducible refine HF.out.mono ?_);rintro e w2 ⟨rfl,rfl⟩)
            obtain ⟨W12,hW12⟩:∃ W12,wr.alloc (Obj.cells #[.int .i64 0,.int .i64 0] 61) = W12:=⟨_,rfl⟩
            have hb12:Below wr.heap.size wr W12:=by rw [← hW12];exact below_allocs (Below.refl _ _) _
            have HZ12:Hid (W12.heap[wr.heap.size]? = some (.cells #[.int .i64 0,.int .i64 0] 61 (0,0))):=Hd (by rw [← hW12];exact hp_new rfl)
            have HX12:=Hd ((hb12.block _ (lt_of_heap HX.out)).trans HX.out)
            have HY12:=Hd ((hb12.block _ (lt_of_heap HY.out)).trans HY.out)
            have HB12:=Hd (below_tail HB.out hb12)
            have hcg12:=holda hb12 hcg2
            rw [hW12]
            clear hW12 hcg2 hb12
            obtain ⟨oc,hoc⟩:∃ oc,insV x.g = oc:=⟨_,rfl⟩
            have hJ:Hid ((i:Int) + 1 = (j:Int)):=Hd (by rw [← HJF.out,if_pos hx1])
            have hA:Hid (putA a' 48 oc = a2):=Hd (by rw [← HAF.out,if_pos hx1,hoc])
            have HC:=Hd (HIN.out hx1 W12 HB12.out)
            rw [hoc] at HC
            clear hoc hx1 HJF HAF HIN HBI
            go_upto_region 17 with (go_at_call 360;(with_reducible refine HC.out.mono ?_);rintro e w13 ⟨rfl,hb13⟩;have hz13:=(hb13.block _ (lt_of_heap HZ12.out)).trans HZ12.out;obtain ⟨d0,d0f⟩:=at_ hz13 0 (.int .i64 0) rfl;obtain ⟨d1,d1f⟩:=at_ hz13 1 (.int .i64 0) rfl)
            have hz17:=whole_set (whole_set hz13 0 (.int .i64 (ocK oc)) rfl) 1 (.int .i64 (ocN oc)) rfl
            have hx17:=heap_set_old (i:=1) (v:=.int .i64 (ocN oc)) (heap_set_old (i:=0) (v:=.int .i64 (ocK oc)) ((hb13.block _ (lt_of_heap HX12.out)).trans HX12.out) HNE.out.1) HNE.out.1
            have hy17:=heap_set_old (i:=1) (v:=.int .i64 (ocN oc)) (heap_set_old (i:=0) (v:=.int .i64 (ocK oc)) ((hb13.block _ (lt_of_heap HY12.out)).trans HY12.out) HNE.out.2) HNE.out.2
            have hb17:=below_set (below_set (below_tail HB12.out hb13) HB.out.size (o:=0) (.int .i64 (ocK oc))) HB.out.size (o:=1) (.int .i64 (ocN oc))
            clear hz13 hb13 d0 d0f d1 d1f
            generalize (World.setCell w13 ⟨wr.heap.size,0,none⟩ (.int .i64 (ocK oc))).setCell ⟨wr.heap.size,1,none⟩ (.int .i64 (ocN oc)) = W17 at hz17 hx17 hy17 hb17 ⊢
            have HZ17:=Hd hz17
            have HX17:=Hd hx17
            have HY17:=Hd hy17
            have HB17:=Hd hb17
            clear hz17 hx17 hy17 hb17
            obtain ⟨fk,fn,bk,bn,fl⟩:=a'
            cases oc with
            | none =>
              have HX9:Hid (W17.heap[w.heap.size]? = some (.cells (aL a2).toArray 63 (0,0))):=Hd (by rw [← hA.out];exact HX17.out)
              have HY9:=HY17
              have HB9:=HB17
              go_wp2
              go_roundw
              case rel => exact ⟨j,a2,by rw [hJ.out],HJ.out.2,HOK2.out,HJ4.out,HX9.out,HY9.out,HB9.out⟩
              case measure => have h1:=HJ.out;have h2:=hJ.out;simp [intOf];omega
            | some c =>
              obtain ⟨ck,cn⟩:=c
              have hz17:=HZ17.out
              have hx17:=HX17.out
              obtain ⟨d0,d0f⟩:=at_ hz17 0 (.int .i64 ck) rfl
              obtain ⟨d1,d1f⟩:=at_ hz17 1 (.int .i64 cn) rfl
              obtain ⟨x0,x0f⟩:=at_ hx17 2 (.int .i64 bk) rfl
              obtain ⟨x1,x1f⟩:=at_ hx17 3 (.int .i64 bn) rfl
              have HX9:Hid (((W17.setCell ⟨w.heap.size,2,none⟩ (.int .i64 ck)).setCell ⟨w.heap.size,3,none⟩ (.int .i64 cn)).heap[w.heap.size]? = some (.cells (aL a2).toArray 63 (0,0))):=Hd (by rw [← hA.out];exact whole_set (whole_set hx17 2 _ rfl) 3 _ rfl)
              have HY9:Hid (((W17.setCell ⟨w.heap.size,2,none⟩ (.int .i64 ck)).setCell ⟨w.heap.size,3,none⟩ (.int .i64 cn)).heap[w.heap.size + 1]? = some (.cells (aL zeroA).toArray 63 (0,0))):=Hd (heap_set_old (heap_set_old HY17.out (by omega)) (by omega))
              have HB9:=Hd (below_set (below_set HB17.out (Nat.le_refl w.heap.size) (o:=2) (.int .i64 ck)) (Nat.le_refl w.heap.size) (o:=3) (.int .i64 cn))
              clear hz17 hx17
              go_wp2
              go_roundw
              case rel => exact ⟨j,a2,by rw [hJ.out],HJ.out.2,HOK2.out,HJ4.out,HX9.out,HY9.out,HB9.out⟩
              case measure => have h1:=HJ.out;have h2:=hJ.out;simp [intOf];omega
          · have hx1I:¬ (1:Int) < (x.g.length:Int):=by omega
            have HNE:Hid (w.heap.size ≠ wr.heap.size∧w.heap.size + 1 ≠ wr.heap.size):=Hd (by have h1:=lt_of_heap HX.out;have h2:=lt_of_heap HY.out;omega)
            go_upto_region 12 with (go_at_call 358;(with_reducible refine HF.out.mono ?_);rintro e w2 ⟨rfl,rfl⟩)
            obtain ⟨W12,hW12⟩:∃ W12,wr.alloc (Obj.cells #[.int .i64 0,.int .i64 0] 61) = W12:=⟨_,rfl⟩
            have hb12:Below wr.heap.size wr W12:=by rw [← hW12];exact below_allocs (Below.refl _ _) _
            have HZ12:Hid (W12.heap[wr.heap.size]? = some (.cells #[.int .i64 0,.int .i64 0] 61 (0,0))):=Hd (by rw [← hW12];exact hp_new rfl)
            have HX12:=Hd ((hb12.block _ (lt_of_heap HX.out)).trans HX.out)
            have HY12:=Hd ((hb12.block _ (lt_of_heap HY.out)).trans HY.out)
            have HB12:=Hd (below_tail HB.out hb12)
            have hcg12:=holda hb12 hcg2
            rw [hW12]
            clear hW12 hcg2 hb12
            have HC:=Hd (HBI.out W12 HB12.out)
            obtain ⟨bh,hbh⟩:∃ bh,behV G i = bh:=⟨_,rfl⟩
            obtain ⟨oc,bn⟩:=bh
            have hJ:Hid ((i:Int) + bn + 1 = (j:Int)):=Hd (by rw [← HJF.out,if_neg hx1,hbh])
            have hA:Hid (putA a' 48 oc = a2):=Hd (by rw [← HAF.out,if_neg hx1,hbh])
            rw [hbh] at HC
            have hwb:IntKind.i64.wrap ((i:Int) + bn) = (i:Int) + bn:=IntWalk.i64_in _ (by have h1:=hJ.out;have h2:=HJ.out;omega)
            have hwb1:IntKind.i64.wrap ((i:Int) + bn + 1) = (i:Int) + bn + 1:=IntWalk.i64_in _ (by have h1:=hJ.out;have h2:=HJ.out;omega)
            clear hbh hx1 HJF HAF HIN HBI
            go_upto_region 17 with (go_at_call 361;(with_reducible refine HC.out.mono ?_);rintro e w13 ⟨rfl,hb13⟩;have hz13:=(hb13.block _ (lt_of_heap HZ12.out)).trans HZ12.out;obtain ⟨d0,d0f⟩:=at_ hz13 0 (.int .i64 0) rfl;obtain ⟨d1,d1f⟩:=at_ hz13 1 (.int .i64 0) rfl)
            have hz17:=whole_set (whole_set hz13 0 (.int .i64 (ocK oc)) rfl) 1 (.int .i64 (ocN oc)) rfl
            have hx17:=heap_set_old (i:=1) (v:=.int .i64 (ocN oc)) (heap_set_old (i:=0) (v:=.int .i64 (ocK oc)) ((hb13.block _ (lt_of_heap HX12.out)).trans HX12.out) HNE.out.1) HNE.out.1
            have hy17:=heap_set_old (i:=1) (v:=.int .i64 (ocN oc)) (heap_set_old (i:=0) (v:=.int .i64 (ocK oc)) ((hb13.block _ (lt_of_heap HY12.out)).trans HY12.out) HNE.out.2) HNE.out.2
            have hb17:=below_set (below_set (below_tail HB12.out hb13) HB.out.size (o:=0) (.int .i64 (ocK oc))) HB.out.size (o:=1) (.int .i64 (ocN oc))
            clear hz13 hb13 d0 d0f d1 d1f
            generalize (World.setCell w13 ⟨wr.heap.size,0,none⟩ (.int .i64 (ocK oc))).setCell ⟨wr.heap.size,1,none⟩ (.int .i64 (ocN oc)) = W17 at hz17 hx17 hy17 hb17 ⊢
            have HZ17:=Hd hz17
            have HX17:=Hd hx17
            have HY17:=Hd hy17
            have HB17:=Hd hb17
            clear hz17 hx17 hy17 hb17
            obtain ⟨fk,fn,bk,bn,fl⟩:=a'
            cases oc with
            | none =>
              have HX9:Hid (W17.heap[w.heap.size]? = some (.cells (aL a2).toArray 63 (0,0))):=Hd (by rw [← hA.out];exact HX17.out)
              have HY9:=HY17
              have HB9:=HB17
              go_wp2
              go_roundw
              case rel => exact ⟨j,a2,by rw [hJ.out],HJ.out.2,HOK2.out,HJ4.out,HX9.out,HY9.out,HB9.out⟩
              case measure => have h1:=HJ.out;have h2:=hJ.out;simp [intOf];omega
            | some c =>
              obtain ⟨ck,cn⟩:=c
              have hz17:=HZ17.out
              have hx17:=HX17.out
              obtain ⟨d0,d0f⟩:=at_ hz17 0 (.int .i64 ck) rfl
              obtain ⟨d1,d1f⟩:=at_ hz17 1 (.int .i64 cn) rfl
              obtain ⟨x0,x0f⟩:=at_ hx17 2 (.int .i64 bk) rfl
              obtain ⟨x1,x1f⟩:=at_ hx17 3 (.int .i64 bn) rfl
              have HX9:Hid (((W17.setCell ⟨w.heap.size,2,none⟩ (.int .i64 ck)).setCell ⟨w.heap.size,3,none⟩ (.int .i64 cn)).heap[w.heap.size]? = some (.cells (aL a2).toArray 63 (0,0))):=Hd (by rw [← hA.out];exact whole_set (whole_set hx17 2 _ rfl) 3 _ rfl)
              have HY9:Hid (((W17.setCell ⟨w.heap.size,2,none⟩ (.int .i64 ck)).setCell ⟨w.heap.size,3,none⟩ (.int .i64 cn)).heap[w.heap.size + 1]? = some (.cells (aL zeroA).toArray 63 (0,0))):=Hd (heap_set_old (heap_set_old HY17.out (by omega)) (by omega))
              have HB9:=Hd (below_set (below_set HB17.out (Nat.le_refl w.heap.size) (o:=2) (.int .i64 ck)) (Nat.le_refl w.heap.size) (o:=3) (.int .i64 cn))
              clear hz17 hx17
              go_wp2
              go_roundw
              case rel => exact ⟨j,a2,by rw [hJ.out],HJ.out.2,HOK2.out,HJ4.out,HX9.out,HY9.out,HB9.out⟩
              case measure => have h1:=HJ.out;have h2:=hJ.out;simp [intOf];omega
        · have e38:(v == 38) = false:=beq_eq_false_iff_ne.2 h38
          have e48:(v == 48) = false:=beq_eq_false_iff_ne.2 h48
          have hj:Hid ((i:Int) + 1 = (j:Int)):=Hd (by rw [← HJ1.out,if_neg (fun h => h.elim h38 h48)])
          have ha:Hid (simpA a' v x.g = a2):=Hd (by rw [← HA2.out,if_neg (fun h => h.elim h38 h48)])
          have HSI:Hid (Calls Tryz.prog 362 #[.agg (aL a').toArray,.int .i64 v] wr (SimpPost a2 wr)):=Hd (by rw [← ha.out];exact asim_any HOK.out v x.g wr h4 HVI.out.1 HVI.out.2)
          clear HJ1 HA2 HBI HIN HLN HGE HVI ha h4 h38 h48
          obtain ⟨fk,fn,bk,bn,fl⟩:=a'
          obtain ⟨gk,gn,hk,hn,gl⟩:=a2
          go_upto_region 6 with (go_at_call 358;(with_reducible refine HF.out.mono ?_);rintro e w2 ⟨rfl,rfl⟩)
          refine wp_region_lit ?_
          refine load_mid_g (by rfl) 63 (.tmp 2) rfl (w.heap.size) (0) rfl (aL ⟨fk,fn,bk,bn,fl⟩) _ (range_new HX.out) Tryz.underlying63 rfl info_attr5 ?_
          simp only [Act.put,List.setIfInBounds_toArray,List.set_cons_zero,List.set_cons_succ]
          refine wpList_valG (.int .i64 v) (by rfl) (by rfl) ?_
          simp only [Act.put,List.setIfInBounds_toArray,List.set_cons_zero,List.set_cons_succ]
          refine wpList_callS rfl 362 #[.agg (aL ⟨fk,fn,bk,bn,fl⟩).toArray,.int .i64 v] (by go_simp) HSI.out (.agg (aL ⟨gk,gn,hk,hn,gl⟩).toArray) (fun e w' h => h.1) ?_
          rintro w5 ⟨-,hb5⟩
          simp only [Act.put,List.setIfInBounds_toArray,List.set_cons_zero,List.set_cons_succ]
          have hx5:=(hb5.block _ (lt_of_heap HX.out)).trans HX.out
          have hy5:=(hb5.block _ (lt_of_heap HY.out)).trans HY.out
          have HB9:=Hd (below_setN (below_tail HB.out hb5) (Nat.le_refl w.heap.size) (aL ⟨gk,gn,hk,hn,gl⟩) 0)
          have HX9:=Hd (whole_setCells (aL ⟨gk,gn,hk,hn,gl⟩) 0 _ _ hx5 (by simp [aL]))
          have HY9:=Hd ((heap_otherN (show w.heap.size + 1 ≠ w.heap.size by omega) (aL ⟨gk,gn,hk,hn,gl⟩) 0 w5).trans hy5)
          refine wpList_store_mid rfl 63 (.tmp 2) (.tmp 22) rfl (w.heap.size) (0) ((aL ⟨gk,gn,hk,hn,gl⟩).toArray) rfl rfl ((show World.there _ w.heap.size 0 5 from there_new hx5)) info_attr5 (all_oneCell_toArray (one5 _)) ?_
          simp only [Act.put]
          clear hx5 hy5 hb5
          go_wp2
          go_roundw
          case rel => exact ⟨j,⟨gk,gn,hk,hn,gl⟩,by rw [hj.out],HJ.out.2,HOK2.out,HJ4.out,HX9.out,HY9.out,HB9.out⟩
          case measure => have h1:=HJ.out;have h2:=hj.out;simp [intOf];omega
end
end Go.Proofs.YtaefcahblmopfaaGreatDoor
