/- Joined by a tool of this claim out of smaller texts. Conditions: as stated. -/
import Derived.Test.YtffdblmdelgkaaaGreatRt22
import Derived.Test.YtffdblmdelgkaaaGreatRt29
set_option linter.unusedVariables false
set_option linter.unusedSimpArgs false
set_option maxRecDepth 100000
open Go.Lib renaming hid → Hd
namespace Go.Proofs.YtffdblmdelgkaaaGreat
open Go.RowKit
def docS (cols:Nat) (P:List Cl) (i:Nat):List (List Cl) × List Cl:=(P.take i).foldl (docStep cols) ([],[])
theorem docS_succ {cols:Nat} {P:List Cl} {i:Nat} {c:Cl} (h:P[i]? = some c):docS cols P (i + 1) = docStep cols (docS cols P i) c:=fold_take _ _ h
structure SpSt (base cols:Nat) (P:List Cl) (i:Nat) (wr:World) (v:Value) (D:List Rh) (x:Rh) (bS:Nat):Prop where
 sp:SpO base bS wr v D x
 hD:D.map roOf = rowsOf false (docS cols P i).1
 hx:x.cs = (docS cols P i).2
 hc:x.cont = decide ((docS cols P i).1 ≠ [])
 hl:D.length ≤ i
 hw:x.cs.length ≤ cols
 hn:D ≠ []→0 < x.cs.length
 hf:Fine x.cs
 ha:∀ r ∈ D,r.cs.length = cols
theorem docS_eq {cols:Nat} {P:List Cl} {i:Nat} {D:List Rh} {xs:List Cl} (hD:D.map roOf = rowsOf false (docS cols P i).1) (hx:xs = (docS cols P i).2):∃ Ds,docS cols P i = (Ds,xs)∧D.map roOf = rowsOf false Ds :=
 ⟨(docS cols P i).1,by rw [hx],hD⟩
theorem rows_push {D:List Rh} {Ds:List (List Cl)} {A:Option Addr} {xs:List Cl} {cap:Nat} {b:Bool} (h:D.map roOf = rowsOf false Ds) (hb:b = decide (Ds ≠ [])):(D ++ [(⟨A,xs,cap,b⟩:Rh)]).map roOf = rowsOf false (Ds ++ [xs]):=by
 rw [List.map_append,h,rowsOf_snoc]
 congr 1
 by_cases hd:Ds = [] <;> simp [hd,hb,roOf]
theorem docFin_rows {cols:Nat} {D:List Rh} {Ds:List (List Cl)} {A:Option Addr} {xs ys:List Cl} {cap:Nat} {b:Bool} (h:D.map roOf = rowsOf false Ds) (hb:b = decide (Ds ≠ [])) (hy:ys = xs ++ List.replicate (cols - xs.length) zC):(D ++ [(⟨A,ys,cap,b⟩:Rh)]).map roOf = rowsOf false (docFin cols (Ds,xs)):=by
 rw [rows_push h hb,hy];rfl
theorem unpad_same {c:Cl} (h:c.half ≠ 3):unpad c = c:=if_neg h
theorem unpad_pad {c:Cl} (h:c.half = 3):unpad c = emptyC c:=if_pos h
set_option maxHeartbeats 6400000 in
theorem rSplit_any (A:Option Addr) (l:List Cl) (ca cols:Nat) (w:World) (hl:GrAt encCl 8 w A l) (hz:l.length ≤ 10000) (hf:Fine l) (hc:2 ≤ cols) (hc2:cols ≤ 1000) :
 Calls Tryz.prog 109 #[.slice A l.length ca,.int .i64 cols] w (AllPost (splitL cols l) w):=by
 obtain ⟨j0,hj,gz0,gz1,gz2⟩:=info_parts info_cellz
 obtain ⟨j1,hj1,gy0,gy1,gy2⟩:=info_parts info_rowz
 have HL:=Hd hl
 have HF:=Hd hf
 have HM:=Hd (fun (A:Option Addr) (l:List Cl) (ca:Nat) (w:World) (hl:GrAt encCl 8 w A l) (hz:l.length ≤ 10000) (hf:Fine l) => rMendE_any A l ca w hl hz hf)
 have HDS:=Hd (doc_splitL hc l)
 obtain ⟨R,hR⟩:∃ R,R = splitL cols l:=⟨_,rfl⟩
 rw [← hR] at HDS ⊢
 obtain ⟨n,hn⟩:∃ n,l.length = n:=⟨_,rfl⟩
 have HN:=Hd hn
 rw [hn] at hz ⊢
 obtain ⟨k1,hk1⟩:∃ k1,k1 + 1 = cols:=⟨cols - 1,by omega⟩
 have hk1I:(cols:Int) - 1 = (k1:Int):=by omega
 have hwk1:IntKind.i64.wrap (k1:Int) = (k1:Int):=IntWalk.i64_in _ (by omega)
 have HC:=Hd (And.intro hc hc2)
 have HK1:=Hd hk1
 clear hl hf hR hn hk1
 go_enter Tryz.func109,Tryz.ntmps109
 go_wp2_with fail
 go_loopw [5,6] (fun s5 s6 wr => ∃ i:Nat,s6 = .int .i64 i∧i ≤ n∧ClO w.heap.size wr s5 ((l.take i).map unpad)∧Below w.heap.size w wr) (fun _ s6 _ => n - (intOf s6).toNat)
 case atStart => exact ⟨0,rfl,Nat.zero_le _,World.ownsRow_nil _ _ _ _,Below.refl _ _⟩
 case round =>
  obtain ⟨i,rfl,hi,hO,hB⟩:=hrel
  have HO:=Hd hO
  have HB:=Hd hB
  by_cases hlt:i < n
  rotate_left
  · have hge:¬ (i:Int) < (n:Int):=by omega
    have hie:i = n:=by omega
    obtain ⟨A3,c3,hv3⟩:=row_form hO
    rw [hie,← HN.out,List.take_of_length_le (Nat.le_refl _)] at HO hv3
    subst hv3
    have HM2:=Hd (HM.out A3 (l.map unpad) c3 wr (gr_own encCl_len (n:=(l.map unpad).length) (c:=c3) (base:=w.heap.size) (e:=109) HO.out) (by rw [List.length_map,HN.out];exact hz) (fine_plain HF.out))
    rw [List.length_map,HN.out] at HM2
    rw [List.length_map,HN.out]
    have HPE:Hid (mendL (l.map unpad) = plainL l):=Hd rfl
    rw [HPE.out] at HM2
    obtain ⟨P,hP⟩:∃ P,P = plainL l:=⟨_,rfl⟩
    have hPn:P.length = n:=by rw [hP,plainL_len,HN.out]
    rw [← hP] at HM2 HDS
    have HPN:=Hd hPn
    clear hO hB hie hlt hP hPn HPE
    go_upto_region 10 with (go_at_call 70;(with_reducible refine HM2.out.mono ?_);rintro e w5 ⟨A5,c5,rfl,hc5,hg5,hb5,-⟩;rw [HPN.out] at hc5 ⊢;have HG5:=Hd hg5;have HB5:=Hd (below_tail HB.out hb5);clear hg5 hb5)
    obtain ⟨B0,hB0⟩:∃ B0,B0 = w5.heap.size:=⟨_,rfl⟩
    have HB0:=Hd hB0
    go_upto_region 11 with fail
    rw [← hB0]
    obtain ⟨W6,hW6⟩:∃ W6,w5.alloc (.cells #[.slice none 0 0,.bool false] 50) = W6:=⟨_,rfl⟩
    have HB6:Hid (Below B0 w5 W6):=Hd (by rw [← hW6,hB0];exact below_allocs (Below.refl _ _) _)
    have HS6:Hid (SpO B0 W6.heap.size W6 (.slice (some ⟨B0,0,none⟩) 1 1) [] ⟨none,[],0,false⟩):=Hd (SpO.first (by rw [← hW6,hB0];exact hp_new rfl) (Nat.le_refl _))
    rw [hW6]
    clear hW6 hB0
    go_wp2_with fail
    go_loopw [8,9] (fun s8 s9 wr => ∃ (i:Nat) (D:List Rh) (x:Rh) (bS:Nat),s9 = .int .i64 i∧i ≤ n∧SpSt B0 cols P i wr s8 D x bS∧Below B0 w5 wr) (fun _ s9 _ => n - (intOf s9).toNat)
    case atStart => exact ⟨0,[],_,_,rfl,Nat.zero_le _,⟨HS6.out,rfl,rfl,rfl,Nat.le_refl _,Nat.zero_le _,fun h => absurd rfl h,fun c hc => (by cases hc),fun r hr => (by cases hr)⟩,HB6.out⟩
    case round =>
     obtain ⟨i,D,x,bS,rfl,hi,hS,hB⟩:=hrel
     obtain ⟨kA,xs,kc,xc⟩:=x
     have HST:=Hd hS
     have HB:=Hd hB
     obtain ⟨g,cp,hv,-⟩:=hS.sp.form
     subst hv
     obtain ⟨p,hp⟩:∃ p,D.length = p:=⟨_,rfl⟩
     obtain ⟨k,hk⟩:∃ k,xs.length = k:=⟨_,rfl⟩
     obtain ⟨m,hm⟩:∃ m,m = p + 1:=⟨_,rfl⟩
     have HDp:=Hd hp
     have HK:=Hd hk
     have HMP:=Hd hm
     have HSP:Hid (SpO B0 bS wr (.slice (some ⟨g,0,none⟩) m cp) D ⟨kA,xs,kc,xc⟩):=Hd (by rw [hm,← hp];exact hS.sp)
     rw [hp,← hm]
     have hpi:p ≤ i:=by rw [← hp];exact hS.hl
     have hkc:k ≤ cols:=by rw [← hk];exact hS.hw
     have hXF:Fine xs:=hS.hf
     have HXF:=Hd hXF
     have hpI:((m:Nat):Int) - 1 = (p:Int):=by omega
     have hwp:IntKind.i64.wrap (p:Int) = (p:Int):=IntWalk.i64_in _ (by omega)
     have hpm:(p:Int) < (m:Int):=by omega
     obtain ⟨z0,-,-⟩:=sp_read HSP.out hk hp
     clear hS hB hp hk hm hXF
     by_cases hlt:i < n
     rotate_left
     · skip
       have hge:¬ (i:Int) < (n:Int):=by omega
       obtain ⟨Ds,hDs,hDm⟩:=docS_eq HST.out.hD HST.out.hx
       have hie:i = n:=by omega
       have HRR:Hid (R = rowsOf false (docFin cols (Ds,xs))):=Hd (by
        rw [← HDS.out,← hDs,hie]
        unfold docS
        rw [List.take_of_length_le (by rw [HPN.out];exact Nat.le_refl _)])
       have hXC:xc = decide (Ds ≠ []):=by have:=HST.out.hc;rw [hDs] at this;exact this
       have HDM:=Hd hDm
       have HXC:=Hd hXC
       have HKC:=Hd hkc
       have hpz:p ≤ 10000:=by omega
       have hcz:=HC.out.2
       clear hDs hDm hXC hie HM2 hlt hpi hkc hi
       go_wp2_with fail
       go_loopw [125] (fun _ wr => ∃ (j:Nat) (A8:Option Addr) (ys:List Cl) (c8:Nat),SpO B0 bS wr (.slice (some ⟨g,0,none⟩) m cp) D ⟨A8,ys,c8,xc⟩∧ys = xs ++ List.replicate j zC∧ys.length ≤ cols∧Below B0 w5 wr) (fun _ wr => cols - lnV ((wr.cell? ⟨g,p * 2,none⟩).getD undef))
       case atStart => exact ⟨0,kA,xs,kc,HSP.out,by simp,by rw [HK.out];exact HKC.out,HB.out⟩
       case round =>
        obtain ⟨j,A8,ys,c8,hsp,hys,hyl,hB⟩:=hrel
        obtain ⟨ky,hky⟩:∃ ky,ys.length = ky:=⟨_,rfl⟩
        have HKY:=Hd hky
        obtain ⟨z8,z8f⟩:=sp_slot hsp hky HDp.out
        have HZ8:=Hd z8
        have H8:=Hd hsp
        have HYS:=Hd hys
        have HB8:=Hd hB
        rw [hky] at hyl
        clear hsp hys hB hky z0
        by_cases hlt3:ky < cols
        rotate_left
        · have hge3:¬ (ky:Int) < (cols:Int):=by omega
          have HYC:=Hd (show ky = cols by omega)
          clear hyl
          go_wp2
          go_ret
          have hfy:Fine ys:=by rw [HYS.out];exact HXF.out.append (fine_rep _ _)
          refine ⟨_,D ++ [⟨A8,ys,c8,xc⟩],rfl,⟨?_,fun r hr => ⟨H8.out.here (by show ys.length ≤ _;rw [HKY.out,HYC.out];omega) hfy r hr,?_⟩⟩,?_,?_⟩
          · rw [List.length_append]
            exact owns_lower H8.out.own (by rw [HB0.out];exact HB5.out.size)
          · rcases List.mem_append.1 hr with hr | hr
            · rw [HST.out.ha r hr];omega
            · rw [List.mem_singleton.1 hr]
              show 0 < ys.length
              rw [HKY.out,HYC.out];omega
          · rw [HRR.out]
            refine docFin_rows HDM.out HXC.out ?_
            have e:=congrArg List.length HYS.out
            rw [List.length_append,List.length_replicate,HKY.out,HYC.out] at e
            rw [HYS.out,show cols - xs.length = j by omega]
          · refine below_tail HB5.out ?_
            rw [← HB0.out];exact HB8.out
        · have hlt3I:(ky:Int) < (cols:Int):=by omega
          go_upto_region 23 with fail
          refine wp_region_lit ?_
          refine wpList_valG (.slice (some ⟨g,0,none⟩) m cp) (by rfl) (by rfl) ?_
          simp only [Act.put,List.setIfInBounds_toArray,List.set_cons_zero,List.set_cons_succ]
          refine wpList_valG (.int .i64 p) (by rfl) (by rfl) ?_
          simp only [Act.put,List.setIfInBounds_toArray,List.set_cons_zero,List.set_cons_succ]
          refine wpList_valG (.slice (some ⟨g,0,none⟩) m cp) (by rfl) (by rfl) ?_
          simp only [Act.put,List.setIfInBounds_toArray,List.set_cons_zero,List.set_cons_succ]
          refine wpList_valG (.int .i64 p) (by rfl) (by rfl) ?_
          simp only [Act.put,List.setIfInBounds_toArray,List.set_cons_zero,List.set_cons_succ]
          refine wpList_valG (.pointer (some ⟨g,p * 2,none⟩)) (by rfl) (by go_simp) ?_
          simp only [Act.put,List.setIfInBounds_toArray,List.set_cons_zero,List.set_cons_succ]
          refine wpList_valG (.pointer (some ⟨g,p * 2,none⟩)) (by rfl) (by go_simp) ?_
          simp only [Act.put,List.setIfInBounds_toArray,List.set_cons_zero,List.set_cons_succ]
          refine wpList_valG (.slice A8 ky c8) (by rfl) (by go_simp) ?_
          simp only [Act.put,List.setIfInBounds_toArray,List.set_cons_zero,List.set_cons_succ]
          refine wpList_valG (.agg #[.int .i32 0,.string ByteArray.empty,.int .i64 0,.int .i64 0,.int .i64 0,.int .i64 0,.int .i64 0,.int .i64 0]) (by rfl) (by go_simp;try rfl) ?_
          simp only [Act.put,List.setIfInBounds_toArray,List.set_cons_zero,List.set_cons_succ]
          have hbx9:=below_allocs (Below.refl wr.heap.size wr) (.cells #[.int .i32 0,.string ByteArray.empty,.int .i64 0,.int .i64 0,.int .i64 0,.int .i64 0,.int .i64 0,.int .i64 0] 109)
          have HX9:=Hd (SpO.below H8.out hbx9)
          have HBX9:=Hd (below_at HB8.out H8.out.b0 hbx9)
          refine wpList_actG (.slice (some ⟨wr.heap.size,0,none⟩) 1 1) (wr.alloc (.cells #[.int .i32 0,.string ByteArray.empty,.int .i64 0,.int .i64 0,.int .i64 0,.int .i64 0,.int .i64 0,.int .i64 0] 109)) (by rfl) (by go_simp) ?_
          simp only [Act.put,List.setIfInBounds_toArray,List.set_cons_zero,List.set_cons_succ]
          refine wpList_append_g (o:=⟨some 123,_,_,_,_,_⟩) rfl (.tmp 120) (.tmp 122) 48 rfl bS 109 j0 _ 8 72 Tryz.underlying48 hj gz0 gz1 gz2 rfl (by decide) (.slice A8 ky c8) ky (flat encCl ys) rfl (sp_cl HX9.out HKY.out) ⟨wr.heap.size,0,none⟩ 1 1 (encCl zC) rfl rfl (fun j u hj => by rw [add_lit',Nat.zero_add];exact (at_ (hp_new rfl) j u (by simpa [encCl,padC,zC,blankC,emptyA,mkCl] using hj)).1) (encCl_one _) (by simp only [maxLen];omega) (by omega) (HX9.out.b2) ?_
          intro v' w9 ho hg hv'
          obtain ⟨A9,c9,hv7⟩:=row_form ho
          subst hv7
          obtain ⟨z9,z9f⟩:=sp_after HX9.out hg HKY.out HDp.out
          have HP9:=Hd (sp_put HX9.out ho hg HKY.out HDp.out)
          have HBQ9:=Hd (below_setB (o:=p * 2) (HBX9.out.grown hg HX9.out.b0 (fun b hb => Nat.le_trans HX9.out.b1 (World.ownsRow.lt (sp_cl HX9.out HKY.out) b hb).1)) (Nat.le_trans HX9.out.b0 hg.size) (sp_read HX9.out HKY.out HDp.out).2.1 (.slice A9 (ky + 1) c9))
          simp only [Act.put,List.setIfInBounds_toArray,List.set_cons_zero,List.set_cons_succ]
          clear ho hg hv'
          have HLE:=Hd (show ky + 1 ≤ cols by omega)
          go_wp2
          go_roundw
          case rel => exact ⟨j + 1,A9,ys ++ [zC],c9,HP9.out,by rw [HYS.out,List.replicate_succ',List.append_assoc],by rw [List.length_append,HKY.out];exact HLE.out,HBQ9.out⟩
          case measure =>
           rw [(sp_slot HP9.out (show (ys ++ [zC]).length = ky + 1 by rw [List.length_append,HKY.out];rfl) HDp.out).1,HZ8.out]
           show cols - (ky + 1) < cols - ky
           have:=HLE.out
           omega
     · have hltI:(i:Int) < (n:Int):=by omega
       have hil:i < P.length:=by rw [HPN.out];exact hlt
       obtain ⟨b5,o5,c,hA5,hx,-⟩:=HG5.out.2.2.1.at_ hil
       have hA5':A5 = some ⟨b5,o5,none⟩:=hA5
       subst hA5'
       have HCELL:Hid (∀ W,Below B0 w5 W→∀ j u,(encCl c)[j]? = some u→W.cell? ⟨b5,o5 + i * 8 + j,none⟩ = some u):=Hd (fun W hb j u hj => by
        obtain ⟨b',o',c',e',hx',hc'⟩:=(HG5.out.2.2.1.below (by rw [← HB0.out];exact hb)).at_ hil
        simp only [Option.some.injEq,Addr.mk.injEq,and_true] at e'
        obtain ⟨rfl,rfl⟩:=e'
        obtain rfl:c = c':=by rw [show ({ A:=some ⟨b5,o5,none⟩,cs:=P,cap:=c5,cont:=false }:Rh).cs = P from rfl] at *;rw [hx] at hx';exact Option.some.inj hx'
        exact hc' j u hj)
       have HFC:Hid (Fine [c]):=Hd (fun y hy => by rw [List.mem_singleton.1 hy];exact HG5.out.2.1 c (List.mem_of_getElem? hx))
       have hDS:=docS_succ (cols:=cols) hx
       obtain ⟨Ds,hDs,hDm⟩:=docS_eq HST.out.hD HST.out.hx
       have hXC:xc = decide (Ds ≠ []):=by have:=HST.out.hc;rw [hDs] at this;exact this
       rw [hDs] at hDS
       have HDS1:=Hd hDS
       have HDM:=Hd hDm
       have HXC:=Hd hXC
       obtain ⟨xr,xm,xh,x1,x2,x3,x4,x5⟩:=c
       have d0:wr.cell? ⟨b5,o5 + i * 8,none⟩ = some (.int .i32 xr):=HCELL.out _ HB.out 0 _ rfl
       have d1:wr.cell? ⟨b5,o5 + i * 8 + 1,none⟩ = some (.string xm):=HCELL.out _ HB.out 1 _ rfl
       have d2:wr.cell? ⟨b5,o5 + i * 8 + 2,none⟩ = some (.int .i64 xh):=HCELL.out _ HB.out 2 _ rfl
       have d3:wr.cell? ⟨b5,o5 + i * 8 + 3,none⟩ = some (.int .i64 x1):=HCELL.out _ HB.out 3 _ rfl
       have d4:wr.cell? ⟨b5,o5 + i * 8 + 4,none⟩ = some (.int .i64 x2):=HCELL.out _ HB.out 4 _ rfl
       have d5:wr.cell? ⟨b5,o5 + i * 8 + 5,none⟩ = some (.int .i64 x3):=HCELL.out _ HB.out 5 _ rfl
       have d6:wr.cell? ⟨b5,o5 + i * 8 + 6,none⟩ = some (.int .i64 x4):=HCELL.out _ HB.out 6 _ rfl
       have d7:wr.cell? ⟨b5,o5 + i * 8 + 7,none⟩ = some (.int .i64 x5):=HCELL.out _ HB.out 7 _ rfl
       have hwi:IntKind.i64.wrap ((i:Int) + 1) = (i:Int) + 1:=IntWalk.i64_in _ (by omega)
       have hz2:n ≤ 10000:=hz
       have hc1000:=HC.out.2
       clear hDS hDs hDm hXC hx hil HM2
       have hk1:=HK1.out
       by_cases hkk:k = k1
       · by_cases hh:xh = 1
         · have hkb1:((k:Int) == (k1:Int)) = true:=beq_iff_eq.2 (by omega)
           have hhb:(xh == 1) = true:=by simp [hh]
           have HRS:Hid (docStep cols (Ds,xs) (⟨xr,xm,xh,x1,x2,x3,x4,x5⟩:Cl) = (Ds ++ [xs ++ [padC]],[(⟨xr,xm,xh,x1,x2,x3,x4,x5⟩:Cl)])):=Hd (docStep_pad (by rw [HK.out];omega) hh)
           have HKC:=Hd (show k + 1 = cols by omega)
           have hkC:k ≤ 1000:=by omega
           clear hh hk1 hkk
           go_upto_region 16 with fail
           clear d0 d1 d2 d3 d4 d5 d6 d7
           refine wp_region_lit ?_
           refine wpList_valG (.slice (some ⟨g,0,none⟩) m cp) (by rfl) (by rfl) ?_
           simp only [Act.put,List.setIfInBounds_toArray,List.set_cons_zero,List.set_cons_succ]
           refine wpList_valG (.int .i64 p) (by rfl) (by rfl) ?_
           simp only [Act.put,List.setIfInBounds_toArray,List.set_cons_zero,List.set_cons_succ]
           refine wpList_valG (.slice (some ⟨g,0,none⟩) m cp) (by rfl) (by rfl) ?_
           simp only [Act.put,List.setIfInBounds_toArray,List.set_cons_zero,List.set_cons_succ]
           refine wpList_valG (.int .i64 p) (by rfl) (by rfl) ?_
           simp only [Act.put,List.setIfInBounds_toArray,List.set_cons_zero,List.set_cons_succ]
           refine wpList_valG (.pointer (some ⟨g,p * 2,none⟩)) (by rfl) (by go_simp) ?_
           simp only [Act.put,List.setIfInBounds_toArray,List.set_cons_zero,List.set_cons_succ]
           refine wpList_valG (.pointer (some ⟨g,p * 2,none⟩)) (by rfl) (by go_simp) ?_
           simp only [Act.put,List.setIfInBounds_toArray,List.set_cons_zero,List.set_cons_succ]
           refine wpList_valG (.slice kA k kc) (by rfl) (by go_simp) ?_
           simp only [Act.put,List.setIfInBounds_toArray,List.set_cons_zero,List.set_cons_succ]
           refine wpList_valG (.agg #[.int .i32 0,.string ByteArray.empty,.int .i64 3,.int .i64 0,.int .i64 0,.int .i64 0,.int .i64 0,.int .i64 0]) (by rfl) (by go_simp;try rfl) ?_
           simp only [Act.put,List.setIfInBounds_toArray,List.set_cons_zero,List.set_cons_succ]
           have hbx1:=below_allocs (Below.refl wr.heap.size wr) (.cells #[.int .i32 0,.string ByteArray.empty,.int .i64 3,.int .i64 0,.int .i64 0,.int .i64 0,.int .i64 0,.int .i64 0] 109)
           have HX1:=Hd (SpO.below HSP.out hbx1)
           have HBX1:=Hd (below_at HB.out HSP.out.b0 hbx1)
           refine wpList_actG (.slice (some ⟨wr.heap.size,0,none⟩) 1 1) (wr.alloc (.cells #[.int .i32 0,.string ByteArray.empty,.int .i64 3,.int .i64 0,.int .i64 0,.int .i64 0,.int .i64 0,.int .i64 0] 109)) (by rfl) (by go_simp) ?_
           simp only [Act.put,List.setIfInBounds_toArray,List.set_cons_zero,List.set_cons_succ]
           refine wpList_append_g (o:=⟨some 71,_,_,_,_,_⟩) rfl (.tmp 68) (.tmp 70) 48 rfl bS 109 j0 _ 8 72 Tryz.underlying48 hj gz0 gz1 gz2 rfl (by decide) (.slice kA k kc) k (flat encCl xs) rfl (sp_cl HX1.out HK.out) ⟨wr.heap.size,0,none⟩ 1 1 (encCl padC) rfl rfl (fun j u hj => by rw [add_lit',Nat.zero_add];exact (at_ (hp_new rfl) j u (by simpa [encCl,padC,zC,blankC,emptyA,mkCl] using hj)).1) (encCl_one _) (by simp only [maxLen];omega) (by omega) (HX1.out.b2) ?_
           intro v' w1 ho hg hv'
           obtain ⟨A1,c1,hv7⟩:=row_form ho
           subst hv7
           obtain ⟨z1,z1f⟩:=sp_after HX1.out hg HK.out HDp.out
           have HP1:=Hd (sp_put HX1.out ho hg HK.out HDp.out)
           have HBQ1:=Hd (below_setB (o:=p * 2) (HBX1.out.grown hg HX1.out.b0 (fun b hb => Nat.le_trans HX1.out.b1 (World.ownsRow.lt (sp_cl HX1.out HK.out) b hb).1)) (Nat.le_trans HX1.out.b0 hg.size) (sp_read HX1.out HK.out HDp.out).2.1 (.slice A1 (k + 1) c1))
           simp only [Act.put,List.setIfInBounds_toArray,List.set_cons_zero,List.set_cons_succ]
           clear ho hg hv'
           go_upto_region 17 with fail
           obtain ⟨k2,hk2⟩:∃ k2,k2 = k + 1:=⟨_,rfl⟩
           have HK2:Hid ((xs ++ [padC]).length = k2):=Hd (by rw [List.length_append,HK.out,hk2];rfl)
           rw [← hk2] at HP1 HBQ1 ⊢
           obtain ⟨z2,-,-⟩:=sp_read HP1.out HK2.out HDp.out
           clear z1 z1f
           generalize World.setCell _ _ _ = W1 at HP1 HBQ1 z2 ⊢
           have hcb:((k2:Int) == (cols:Int)) = true:=beq_iff_eq.2 (by have:=HKC.out;omega)
           have HK2C:Hid (k2 = cols):=Hd (by have:=HKC.out;omega)
           have hk2z:k2 ≤ 1000:=by have:=HK2C.out;omega
           clear hk2
           go_upto_region 18 with fail
           refine wp_region_lit ?_
           refine wpList_valG (.slice (some ⟨g,0,none⟩) m cp) (by rfl) (by rfl) ?_
           simp only [Act.put,List.setIfInBounds_toArray,List.set_cons_zero,List.set_cons_succ]
           refine wpList_valG (.agg #[.slice none 0 0,.bool true]) (by rfl) (by go_simp;try rfl) ?_
           simp only [Act.put,List.setIfInBounds_toArray,List.set_cons_zero,List.set_cons_succ]
           have hby:=below_allocs (Below.refl W1.heap.size W1) (.cells #[.slice none 0 0,.bool true] 50)
           have HY:=Hd (SpO.below HP1.out hby)
           have HBY:=Hd (below_at HBQ1.out HP1.out.b0 hby)
           refine wpList_actG (.slice (some ⟨W1.heap.size,0,none⟩) 1 1) (W1.alloc (.cells #[.slice none 0 0,.bool true] 50)) (by rfl) (by go_simp) ?_
           simp only [Act.put,List.setIfInBounds_toArray,List.set_cons_zero,List.set_cons_succ]
           refine wpList_append_g (o:=⟨some 85,_,_,_,_,_⟩) rfl (.tmp 82) (.tmp 84) 42 rfl B0 50 j1 _ 2 32 Tryz.underlying42 hj1 gy0 gy1 gy2 rfl (by decide) (.slice (some ⟨g,0,none⟩) m cp) m (flat encRh (D ++ [(⟨A1,xs ++ [padC],c1,xc⟩:Rh)])) rfl (by have:=HY.out.own;rw [HDp.out,← HMP.out] at this;exact this) ⟨W1.heap.size,0,none⟩ 1 1 (encRh ⟨none,[],0,true⟩) rfl rfl (fun j u hj => by rw [add_lit',Nat.zero_add];exact (at_ (hp_new rfl) j u (by simpa [encRh] using hj)).1) (encRh_one _) (by simp only [maxLen];omega) (by omega) HY.out.b0 ?_
           intro v' w8 ho hg hv'
           obtain ⟨g8,cp8,hv8⟩:=own_form ho (Nat.succ_pos _)
           subst hv8
           have HP8:=Hd (SpO.next HY.out (by show (xs ++ [padC]).length ≤ _;rw [HK2.out];omega) (HXF.out.append (fun y hy => by rw [List.mem_singleton.1 hy];exact Nat.zero_le _)) true (by rw [HDp.out,← HMP.out];exact ho) hg)
           have HB8:=Hd (HBY.out.grown hg HY.out.b0 (fun b hb => (World.ownsRow.lt HY.out.own b hb).1))
           simp only [Act.put,List.setIfInBounds_toArray,List.set_cons_zero,List.set_cons_succ]
           clear ho hg hv' hby
           obtain ⟨m8,hm8⟩:∃ m8,m8 = m + 1:=⟨_,rfl⟩
           rw [← hm8] at HP8 ⊢
           have HM8:=Hd hm8
           have HD8:Hid ((D ++ [(⟨A1,xs ++ [padC],c1,xc⟩:Rh)]).length = m):=Hd (by rw [List.length_append,HDp.out,HMP.out];rfl)
           have HK8:Hid (([]:List Cl).length = 0):=Hd rfl
           have hmm:(p:Int) + 1 = (m:Int):=by have:=HMP.out;omega
           have hwm:IntKind.i64.wrap (m:Int) = (m:Int):=IntWalk.i64_in _ (by have:=HMP.out;omega)
           have hm8I:(m:Int) < (m8:Int):=by omega
           clear hm8
           go_upto_region 20 with fail
           obtain ⟨y0,y0f⟩:=sp_slot HP8.out HK8.out HD8.out
           refine Go.RL.wp_region_l 13 (fun w' => Below B0 w5 w'∧w'.cell? ⟨g8,m * 2,none⟩ = some (.slice none 0 0)∧w'.frozen? ⟨g8,m * 2,none⟩ = false) (fun w' => SpO B0 w8.heap.size w' (.slice (some ⟨g8,0,none⟩) m8 cp8) (D ++ [(⟨A1,xs ++ [padC],c1,xc⟩:Rh)]) ⟨none,([]:List Cl),0,true⟩) (by kernel_rfl) (by kernel_rfl) ⟨below_at HB8.out HP8.out.b0 (Below.refl _ _).drew,y0,y0f⟩ (HP8.out.below (Below.refl _ _).drew) ?_
           refine Go.RL.AtL.go 0 ?_
           iterate 10 (refine Go.RL.AtK.take (o:=⟨_,_,_,_,_,_⟩) (v:=?_) (by kernel_rfl) rfl (by simp) (by kernel_rfl) (by kernel_rfl) ?_ ?_;rotate_left;(focus (refine Go.RL.Pure.val (by rfl) ?_;intro w' hI;obtain ⟨_,_,_⟩:=hI;go_simp;first | done | with_reducible rfl));simp only [Act.put,List.setIfInBounds_toArray,List.set_cons_zero,List.set_cons_succ])
           refine Go.RL.AtK.back ?_
           refine Go.RL.AtL.take 10 (o:=⟨_,_,_,_,_,_⟩) (v:=.agg #[.int .i32 xr,.string xm,.int .i64 xh,.int .i64 x1,.int .i64 x2,.int .i64 x3,.int .i64 x4,.int .i64 x5]) (by kernel_rfl) rfl (by simp) (by kernel_rfl) (by kernel_rfl) ?_ ?_
           · (refine Go.RL.Pure.val (by rfl) ?_;intro w' hI;have d0:w'.cell? ⟨b5,o5 + i * 8,none⟩ = some (.int .i32 xr):=HCELL.out _ hI.1 0 _ rfl;have d1:w'.cell? ⟨b5,o5 + i * 8 + 1,none⟩ = some (.string xm):=HCELL.out _ hI.1 1 _ rfl;have d2:w'.cell? ⟨b5,o5 + i * 8 + 2,none⟩ = some (.int .i64 xh):=HCELL.out _ hI.1 2 _ rfl;have d3:w'.cell? ⟨b5,o5 + i * 8 + 3,none⟩ = some (.int .i64 x1):=HCELL.out _ hI.1 3 _ rfl;have d4:w'.cell? ⟨b5,o5 + i * 8 + 4,none⟩ = some (.int .i64 x2):=HCELL.out _ hI.1 4 _ rfl;have d5:w'.cell? ⟨b5,o5 + i * 8 + 5,none⟩ = some (.int .i64 x3):=HCELL.out _ hI.1 5 _ rfl;have d6:w'.cell? ⟨b5,o5 + i * 8 + 6,none⟩ = some (.int .i64 x4):=HCELL.out _ hI.1 6 _ rfl;have d7:w'.cell? ⟨b5,o5 + i * 8 + 7,none⟩ = some (.int .i64 x5):=HCELL.out _ hI.1 7 _ rfl;go_simp;first | done | with_reducible rfl)
           simp only [Act.put,List.setIfInBounds_toArray,List.set_cons_zero,List.set_cons_succ]
           refine Go.RL.AtL.one 11 (o:=⟨_,_,_,_,_,_⟩) (fun v => ∃ kb,v = .slice (some ⟨kb,0,none⟩) 1 1) (fun v w' => ∃ kb,v = .slice (some ⟨kb,0,none⟩) 1 1∧w'.heap[kb]? = some (.cells #[.int .i32 xr,.string xm,.int .i64 xh,.int .i64 x1,.int .i64 x2,.int .i64 x3,.int .i64 x4,.int .i64 x5] 109 (0,0))∧SpO B0 w8.heap.size w' (.slice (some ⟨g8,0,none⟩) m8 cp8) (D ++ [(⟨A1,xs ++ [padC],c1,xc⟩:Rh)]) ⟨none,([]:List Cl),0,true⟩) (by simp) (by kernel_rfl) rfl (Go.RL.StabL.op _ _ (by rfl) (fun w' hI hS => ?_)) ?_
           · have hb2:=below_allocs (Below.refl w'.heap.size w') (.cells #[.int .i32 xr,.string xm,.int .i64 xh,.int .i64 x1,.int .i64 x2,.int .i64 x3,.int .i64 x4,.int .i64 x5] 109)
             exact ⟨.slice (some ⟨w'.heap.size,0,none⟩) 1 1,w'.alloc (.cells #[.int .i32 xr,.string xm,.int .i64 xh,.int .i64 x1,.int .i64 x2,.int .i64 x3,.int .i64 x4,.int .i64 x5] 109),by go_simp,⟨_,rfl⟩,⟨below_at hI.1 hS.b0 hb2,hold hb2 hI.2⟩,_,rfl,hp_new rfl,hS.below hb2⟩
           rintro v ⟨kb,rfl⟩
           simp only [Act.put,List.setIfInBounds_toArray,List.set_cons_zero,List.set_cons_succ]
           refine Go.RL.AtL.one 12 (o:=⟨some 100,.call { callee:=.builtin .append,args:=#[.tmp 94,.tmp 99],argTypes:=#[48,48] },48,_,_,none⟩) (fun v => ∃ A' c',v = .slice A' (0 + 1) c') (fun v w' => ∃ w0,SpO B0 w8.heap.size w0 (.slice (some ⟨g8,0,none⟩) m8 cp8) (D ++ [(⟨A1,xs ++ [padC],c1,xc⟩:Rh)]) ⟨none,([]:List Cl),0,true⟩∧w'.ownsRow w8.heap.size 109 8 v (0 + 1) (flat encCl ([]:List Cl) ++ encCl (⟨xr,xm,xh,x1,x2,x3,x4,x5⟩:Cl))∧w0.grownBy w' (Value.slice none 0 0).ownBlock∧Below B0 w5 w0) (by simp) (by kernel_rfl) rfl (Go.RL.StabL.op _ _ (by rfl) (fun w' hI hS => ?_)) ?_
           · obtain ⟨kb',hv',hkb,hsp⟩:=hS
             simp only [Value.slice.injEq,Option.some.injEq,Addr.mk.injEq,and_true,true_and] at hv'
             subst hv'
             obtain ⟨v',w3,hr3,ho3,hg3,-,-⟩:=run_append_own_at (P:=Tryz.prog) w' w8.heap.size 48 48 109 j0 _ 8 72 Tryz.underlying48 hj gz0 gz1 gz2 rfl (by decide) (.slice none 0 0) 0 (flat encCl ([]:List Cl)) (sp_cl hsp HK8.out) ⟨kb,0,none⟩ 1 1 (encCl (⟨xr,xm,xh,x1,x2,x3,x4,x5⟩:Cl)) rfl (fun j u hj => by
              rw [add_lit',Nat.zero_add]
              exact (at_ hkb j u (by simpa [encCl] using hj)).1) (encCl_one _) (by simp only [maxLen];omega) (by omega) hsp.b2
             obtain ⟨A',c',rfl⟩:=row_form ho3
             exact ⟨_,w3,exec_append _ _ _ rfl _ _ _ rfl rfl hr3,⟨A',c',rfl⟩,⟨hI.1.grown hg3 hsp.b0 (fun b hb => Nat.le_trans hsp.b1 (World.ownsRow.lt (sp_cl hsp HK8.out) b hb).1),sp_after hsp hg3 HK8.out HD8.out⟩,w',hsp,ho3,hg3,hI.1⟩
           rintro v ⟨A9,c9,rfl⟩
           simp only [Act.put,List.setIfInBounds_toArray,List.set_cons_zero,List.set_cons_succ]
           refine Go.RL.AtL.done (by kernel_rfl) (fun w9 hI hS => ?_)
           obtain ⟨w0,hsp,ho,hg,hb0⟩:=hS
           obtain ⟨hbi,z9,z9f⟩:=hI
           have HP9:=Hd (sp_put hsp ho hg HK8.out HD8.out)
           have HBQ9:=Hd (below_setB (o:=m * 2) hbi (Nat.le_trans hsp.b0 hg.size) (sp_read hsp HK8.out HD8.out).2.1 (.slice A9 (0 + 1) c9))
           clear hsp ho hg hb0 hbi y0 y0f
           simp only [List.drop_succ_cons,List.drop_zero]
           go_wp2
           go_roundw
           case rel => exact ⟨i + 1,D ++ [(⟨A1,xs ++ [padC],c1,xc⟩:Rh)],⟨A9,[] ++ [(⟨xr,xm,xh,x1,x2,x3,x4,x5⟩:Cl)],c9,true⟩,w8.heap.size,by go_num,by omega,⟨HP9.out,by rw [HDS1.out,HRS.out];exact rows_push HDM.out HXC.out,by rw [HDS1.out,HRS.out];rfl,by rw [HDS1.out,HRS.out];simp,by rw [HD8.out];have:=HMP.out;omega,by simp only [List.nil_append,List.length_cons,List.length_nil];omega,fun _ => by simp,HFC.out,fun r hr => (List.mem_append.1 hr).elim (HST.out.ha r) (fun hr => by rw [List.mem_singleton.1 hr];show (xs ++ [padC]).length = _;rw [HK2.out];exact HK2C.out)⟩,HBQ9.out⟩
           case measure => simp [intOf];omega
         · have hhb:(xh == 1) = false:=by simp [hh]
           have hkb1:((k:Int) == (k1:Int)) = true:=beq_iff_eq.2 (by omega)
           have hcb:((k:Int) == (cols:Int)) = false:=beq_eq_false_iff_ne.2 (by omega)
           have HRS:Hid (docStep cols (Ds,xs) (⟨xr,xm,xh,x1,x2,x3,x4,x5⟩:Cl) = (Ds,xs ++ [(⟨xr,xm,xh,x1,x2,x3,x4,x5⟩:Cl)])):=Hd (docStep_add (.inr ⟨by rw [HK.out];omega,hh⟩))
           have hkC:k ≤ 1000:=by omega
           have HKC:=Hd (show k + 1 ≤ cols by omega)
           clear hh hk1 hkk
           go_upto_region 20 with fail
           obtain ⟨y0,y0f⟩:=sp_slot HSP.out HK.out HDp.out
           refine Go.RL.wp_region_l 13 (fun w' => Below B0 w5 w'∧w'.cell? ⟨g,p * 2,none⟩ = some (.slice kA k kc)∧w'.frozen? ⟨g,p * 2,none⟩ = false) (fun w' => SpO B0 bS w' (.slice (some ⟨g,0,none⟩) m cp) D ⟨kA,xs,kc,xc⟩) (by kernel_rfl) (by kernel_rfl) ⟨below_at HB.out HSP.out.b0 (Below.refl _ _).drew,y0,y0f⟩ (HSP.out.below (Below.refl _ _).drew) ?_
           refine Go.RL.AtL.go 0 ?_
           iterate 10 (refine Go.RL.AtK.take (o:=⟨_,_,_,_,_,_⟩) (v:=?_) (by kernel_rfl) rfl (by simp) (by kernel_rfl) (by kernel_rfl) ?_ ?_;rotate_left;(focus (refine Go.RL.Pure.val (by rfl) ?_;intro w' hI;obtain ⟨_,_,_⟩:=hI;go_simp;first | done | with_reducible rfl));simp only [Act.put,List.setIfInBounds_toArray,List.set_cons_zero,List.set_cons_succ])
           refine Go.RL.AtK.back ?_
           refine Go.RL.AtL.take 10 (o:=⟨_,_,_,_,_,_⟩) (v:=.agg #[.int .i32 xr,.string xm,.int .i64 xh,.int .i64 x1,.int .i64 x2,.int .i64 x3,.int .i64 x4,.int .i64 x5]) (by kernel_rfl) rfl (by simp) (by kernel_rfl) (by kernel_rfl) ?_ ?_
           · (refine Go.RL.Pure.val (by rfl) ?_;intro w' hI;have d0:w'.cell? ⟨b5,o5 + i * 8,none⟩ = some (.int .i32 xr):=HCELL.out _ hI.1 0 _ rfl;have d1:w'.cell? ⟨b5,o5 + i * 8 + 1,none⟩ = some (.string xm):=HCELL.out _ hI.1 1 _ rfl;have d2:w'.cell? ⟨b5,o5 + i * 8 + 2,none⟩ = some (.int .i64 xh):=HCELL.out _ hI.1 2 _ rfl;have d3:w'.cell? ⟨b5,o5 + i * 8 + 3,none⟩ = some (.int .i64 x1):=HCELL.out _ hI.1 3 _ rfl;have d4:w'.cell? ⟨b5,o5 + i * 8 + 4,none⟩ = some (.int .i64 x2):=HCELL.out _ hI.1 4 _ rfl;have d5:w'.cell? ⟨b5,o5 + i * 8 + 5,none⟩ = some (.int .i64 x3):=HCELL.out _ hI.1 5 _ rfl;have d6:w'.cell? ⟨b5,o5 + i * 8 + 6,none⟩ = some (.int .i64 x4):=HCELL.out _ hI.1 6 _ rfl;have d7:w'.cell? ⟨b5,o5 + i * 8 + 7,none⟩ = some (.int .i64 x5):=HCELL.out _ hI.1 7 _ rfl;go_simp;first | done | with_reducible rfl)
           simp only [Act.put,List.setIfInBounds_toArray,List.set_cons_zero,List.set_cons_succ]
           refine Go.RL.AtL.one 11 (o:=⟨_,_,_,_,_,_⟩) (fun v => ∃ kb,v = .slice (some ⟨kb,0,none⟩) 1 1) (fun v w' => ∃ kb,v = .slice (some ⟨kb,0,none⟩) 1 1∧w'.heap[kb]? = some (.cells #[.int .i32 xr,.string xm,.int .i64 xh,.int .i64 x1,.int .i64 x2,.int .i64 x3,.int .i64 x4,.int .i64 x5] 109 (0,0))∧SpO B0 bS w' (.slice (some ⟨g,0,none⟩) m cp) D ⟨kA,xs,kc,xc⟩) (by simp) (by kernel_rfl) rfl (Go.RL.StabL.op _ _ (by rfl) (fun w' hI hS => ?_)) ?_
           · have hb2:=below_allocs (Below.refl w'.heap.size w') (.cells #[.int .i32 xr,.string xm,.int .i64 xh,.int .i64 x1,.int .i64 x2,.int .i64 x3,.int .i64 x4,.int .i64 x5] 109)
             exact ⟨.slice (some ⟨w'.heap.size,0,none⟩) 1 1,w'.alloc (.cells #[.int .i32 xr,.string xm,.int .i64 xh,.int .i64 x1,.int .i64 x2,.int .i64 x3,.int .i64 x4,.int .i64 x5] 109),by go_simp,⟨_,rfl⟩,⟨below_at hI.1 hS.b0 hb2,hold hb2 hI.2⟩,_,rfl,hp_new rfl,hS.below hb2⟩
           rintro v ⟨kb,rfl⟩
           simp only [Act.put,List.setIfInBounds_toArray,List.set_cons_zero,List.set_cons_succ]
           refine Go.RL.AtL.one 12 (o:=⟨some 100,.call { callee:=.builtin .append,args:=#[.tmp 94,.tmp 99],argTypes:=#[48,48] },48,_,_,none⟩) (fun v => ∃ A' c',v = .slice A' (k + 1) c') (fun v w' => ∃ w0,SpO B0 bS w0 (.slice (some ⟨g,0,none⟩) m cp) D ⟨kA,xs,kc,xc⟩∧w'.ownsRow bS 109 8 v (k + 1) (flat encCl xs ++ encCl (⟨xr,xm,xh,x1,x2,x3,x4,x5⟩:Cl))∧w0.grownBy w' (Value.slice kA k kc).ownBlock∧Below B0 w5 w0) (by simp) (by kernel_rfl) rfl (Go.RL.StabL.op _ _ (by rfl) (fun w' hI hS => ?_)) ?_
           · obtain ⟨kb',hv',hkb,hsp⟩:=hS
             simp only [Value.slice.injEq,Option.some.injEq,Addr.mk.injEq,and_true,true_and] at hv'
             subst hv'
             obtain ⟨v',w3,hr3,ho3,hg3,-,-⟩:=run_append_own_at (P:=Tryz.prog) w' bS 48 48 109 j0 _ 8 72 Tryz.underlying48 hj gz0 gz1 gz2 rfl (by decide) (.slice kA k kc) k (flat encCl xs) (sp_cl hsp HK.out) ⟨kb,0,none⟩ 1 1 (encCl (⟨xr,xm,xh,x1,x2,x3,x4,x5⟩:Cl)) rfl (fun j u hj => by
              rw [add_lit',Nat.zero_add]
              exact (at_ hkb j u (by simpa [encCl] using hj)).1) (encCl_one _) (by simp only [maxLen];omega) (by omega) hsp.b2
             obtain ⟨A',c',rfl⟩:=row_form ho3
             exact ⟨_,w3,exec_append _ _ _ rfl _ _ _ rfl rfl hr3,⟨A',c',rfl⟩,⟨hI.1.grown hg3 hsp.b0 (fun b hb => Nat.le_trans hsp.b1 (World.ownsRow.lt (sp_cl hsp HK.out) b hb).1),sp_after hsp hg3 HK.out HDp.out⟩,w',hsp,ho3,hg3,hI.1⟩
           rintro v ⟨A9,c9,rfl⟩
           simp only [Act.put,List.setIfInBounds_toArray,List.set_cons_zero,List.set_cons_succ]
           refine Go.RL.AtL.done (by kernel_rfl) (fun w9 hI hS => ?_)
           obtain ⟨w0,hsp,ho,hg,hb0⟩:=hS
           obtain ⟨hbi,z9,z9f⟩:=hI
           have HP9:=Hd (sp_put hsp ho hg HK.out HDp.out)
           have HBQ9:=Hd (below_setB (o:=p * 2) hbi (Nat.le_trans hsp.b0 hg.size) (sp_read hsp HK.out HDp.out).2.1 (.slice A9 (k + 1) c9))
           clear hsp ho hg hb0 hbi y0 y0f
           simp only [List.drop_succ_cons,List.drop_zero]
           go_wp2
           go_roundw
           case rel => exact ⟨i + 1,D,⟨A9,xs ++ [(⟨xr,xm,xh,x1,x2,x3,x4,x5⟩:Cl)],c9,xc⟩,bS,by go_num,by omega,⟨HP9.out,by rw [HDS1.out,HRS.out];exact HDM.out,by rw [HDS1.out,HRS.out],by rw [HDS1.out,HRS.out];exact HXC.out,by rw [HDp.out];omega,by rw [List.length_append,HK.out];exact HKC.out,fun _ => by simp,HXF.out.append HFC.out,HST.out.ha⟩,HBQ9.out⟩
           case measure => simp [intOf];omega
       · by_cases hkf:k = cols
         · have hkb1:((k:Int) == (k1:Int)) = false:=beq_eq_false_iff_ne.2 (by omega)
           have hcb:((k:Int) == (cols:Int)) = true:=beq_iff_eq.2 (by omega)
           have HRS:Hid (docStep cols (Ds,xs) (⟨xr,xm,xh,x1,x2,x3,x4,x5⟩:Cl) = (Ds ++ [xs],[(⟨xr,xm,xh,x1,x2,x3,x4,x5⟩:Cl)])):=Hd (docStep_full (by rw [HK.out];exact hkf))
           have HKF:=Hd hkf
           have hkC:k ≤ 1000:=by omega
           clear hkf hk1 hkk
           go_upto_region 18 with fail
           clear d0 d1 d2 d3 d4 d5 d6 d7
           refine wp_region_lit ?_
           refine wpList_valG (.slice (some ⟨g,0,none⟩) m cp) (by rfl) (by rfl) ?_
           simp only [Act.put,List.setIfInBounds_toArray,List.set_cons_zero,List.set_cons_succ]
           refine wpList_valG (.agg #[.slice none 0 0,.bool true]) (by rfl) (by go_simp;try rfl) ?_
           simp only [Act.put,List.setIfInBounds_toArray,List.set_cons_zero,List.set_cons_succ]
           have hby:=below_allocs (Below.refl wr.heap.size wr) (.cells #[.slice none 0 0,.bool true] 50)
           have HY:=Hd (SpO.below HSP.out hby)
           have HBY:=Hd (below_at HB.out HSP.out.b0 hby)
           refine wpList_actG (.slice (some ⟨wr.heap.size,0,none⟩) 1 1) (wr.alloc (.cells #[.slice none 0 0,.bool true] 50)) (by rfl) (by go_simp) ?_
           simp only [Act.put,List.setIfInBounds_toArray,List.set_cons_zero,List.set_cons_succ]
           refine wpList_append_g (o:=⟨some 85,_,_,_,_,_⟩) rfl (.tmp 82) (.tmp 84) 42 rfl B0 50 j1 _ 2 32 Tryz.underlying42 hj1 gy0 gy1 gy2 rfl (by decide) (.slice (some ⟨g,0,none⟩) m cp) m (flat encRh (D ++ [(⟨kA,xs,kc,xc⟩:Rh)])) rfl (by have:=HY.out.own;rw [HDp.out,← HMP.out] at this;exact this) ⟨wr.heap.size,0,none⟩ 1 1 (encRh ⟨none,[],0,true⟩) rfl rfl (fun j u hj => by rw [add_lit',Nat.zero_add];exact (at_ (hp_new rfl) j u (by simpa [encRh] using hj)).1) (encRh_one _) (by simp only [maxLen];omega) (by omega) HY.out.b0 ?_
           intro v' w8 ho hg hv'
           obtain ⟨g8,cp8,hv8⟩:=own_form ho (Nat.succ_pos _)
           subst hv8
           have HP8:=Hd (SpO.next HY.out (by show xs.length ≤ _;rw [HK.out];omega) HXF.out true (by rw [HDp.out,← HMP.out];exact ho) hg)
           have HB8:=Hd (HBY.out.grown hg HY.out.b0 (fun b hb => (World.ownsRow.lt HY.out.own b hb).1))
           simp only [Act.put,List.setIfInBounds_toArray,List.set_cons_zero,List.set_cons_succ]
           clear ho hg hv' hby
           obtain ⟨m8,hm8⟩:∃ m8,m8 = m + 1:=⟨_,rfl⟩
           rw [← hm8] at HP8 ⊢
           have HM8:=Hd hm8
           have HD8:Hid ((D ++ [(⟨kA,xs,kc,xc⟩:Rh)]).length = m):=Hd (by rw [List.length_append,HDp.out,HMP.out];rfl)
           have HK8:Hid (([]:List Cl).length = 0):=Hd rfl
           have hmm:(p:Int) + 1 = (m:Int):=by have:=HMP.out;omega
           have hwm:IntKind.i64.wrap (m:Int) = (m:Int):=IntWalk.i64_in _ (by have:=HMP.out;omega)
           have hm8I:(m:Int) < (m8:Int):=by omega
           clear hm8
           go_upto_region 20 with fail
           obtain ⟨y0,y0f⟩:=sp_slot HP8.out HK8.out HD8.out
           refine Go.RL.wp_region_l 13 (fun w' => Below B0 w5 w'∧w'.cell? ⟨g8,m * 2,none⟩ = some (.slice none 0 0)∧w'.frozen? ⟨g8,m * 2,none⟩ = false) (fun w' => SpO B0 w8.heap.size w' (.slice (some ⟨g8,0,none⟩) m8 cp8) (D ++ [(⟨kA,xs,kc,xc⟩:Rh)]) ⟨none,([]:List Cl),0,true⟩) (by kernel_rfl) (by kernel_rfl) ⟨below_at HB8.out HP8.out.b0 (Below.refl _ _).drew,y0,y0f⟩ (HP8.out.below (Below.refl _ _).drew) ?_
           refine Go.RL.AtL.go 0 ?_
           iterate 10 (refine Go.RL.AtK.take (o:=⟨_,_,_,_,_,_⟩) (v:=?_) (by kernel_rfl) rfl (by simp) (by kernel_rfl) (by kernel_rfl) ?_ ?_;rotate_left;(focus (refine Go.RL.Pure.val (by rfl) ?_;intro w' hI;obtain ⟨_,_,_⟩:=hI;go_simp;first | done | with_reducible rfl));simp only [Act.put,List.setIfInBounds_toArray,List.set_cons_zero,List.set_cons_succ])
           refine Go.RL.AtK.back ?_
           refine Go.RL.AtL.take 10 (o:=⟨_,_,_,_,_,_⟩) (v:=.agg #[.int .i32 xr,.string xm,.int .i64 xh,.int .i64 x1,.int .i64 x2,.int .i64 x3,.int .i64 x4,.int .i64 x5]) (by kernel_rfl) rfl (by simp) (by kernel_rfl) (by kernel_rfl) ?_ ?_
           · (refine Go.RL.Pure.val (by rfl) ?_;intro w' hI;have d0:w'.cell? ⟨b5,o5 + i * 8,none⟩ = some (.int .i32 xr):=HCELL.out _ hI.1 0 _ rfl;have d1:w'.cell? ⟨b5,o5 + i * 8 + 1,none⟩ = some (.string xm):=HCELL.out _ hI.1 1 _ rfl;have d2:w'.cell? ⟨b5,o5 + i * 8 + 2,none⟩ = some (.int .i64 xh):=HCELL.out _ hI.1 2 _ rfl;have d3:w'.cell? ⟨b5,o5 + i * 8 + 3,none⟩ = some (.int .i64 x1):=HCELL.out _ hI.1 3 _ rfl;have d4:w'.cell? ⟨b5,o5 + i * 8 + 4,none⟩ = some (.int .i64 x2):=HCELL.out _ hI.1 4 _ rfl;have d5:w'.cell? ⟨b5,o5 + i * 8 + 5,none⟩ = some (.int .i64 x3):=HCELL.out _ hI.1 5 _ rfl;have d6:w'.cell? ⟨b5,o5 + i * 8 + 6,none⟩ = some (.int .i64 x4):=HCELL.out _ hI.1 6 _ rfl;have d7:w'.cell? ⟨b5,o5 + i * 8 + 7,none⟩ = some (.int .i64 x5):=HCELL.out _ hI.1 7 _ rfl;go_simp;first | done | with_reducible rfl)
           simp only [Act.put,List.setIfInBounds_toArray,List.set_cons_zero,List.set_cons_succ]
           refine Go.RL.AtL.one 11 (o:=⟨_,_,_,_,_,_⟩) (fun v => ∃ kb,v = .slice (some ⟨kb,0,none⟩) 1 1) (fun v w' => ∃ kb,v = .slice (some ⟨kb,0,none⟩) 1 1∧w'.heap[kb]? = some (.cells #[.int .i32 xr,.string xm,.int .i64 xh,.int .i64 x1,.int .i64 x2,.int .i64 x3,.int .i64 x4,.int .i64 x5] 109 (0,0))∧SpO B0 w8.heap.size w' (.slice (some ⟨g8,0,none⟩) m8 cp8) (D ++ [(⟨kA,xs,kc,xc⟩:Rh)]) ⟨none,([]:List Cl),0,true⟩) (by simp) (by kernel_rfl) rfl (Go.RL.StabL.op _ _ (by rfl) (fun w' hI hS => ?_)) ?_
           · have hb2:=below_allocs (Below.refl w'.heap.size w') (.cells #[.int .i32 xr,.string xm,.int .i64 xh,.int .i64 x1,.int .i64 x2,.int .i64 x3,.int .i64 x4,.int .i64 x5] 109)
             exact ⟨.slice (some ⟨w'.heap.size,0,none⟩) 1 1,w'.alloc (.cells #[.int .i32 xr,.string xm,.int .i64 xh,.int .i64 x1,.int .i64 x2,.int .i64 x3,.int .i64 x4,.int .i64 x5] 109),by go_simp,⟨_,rfl⟩,⟨below_at hI.1 hS.b0 hb2,hold hb2 hI.2⟩,_,rfl,hp_new rfl,hS.below hb2⟩
           rintro v ⟨kb,rfl⟩
           simp only [Act.put,List.setIfInBounds_toArray,List.set_cons_zero,List.set_cons_succ]
           refine Go.RL.AtL.one 12 (o:=⟨some 100,.call { callee:=.builtin .append,args:=#[.tmp 94,.tmp 99],argTypes:=#[48,48] },48,_,_,none⟩) (fun v => ∃ A' c',v = .slice A' (0 + 1) c') (fun v w' => ∃ w0,SpO B0 w8.heap.size w0 (.slice (some ⟨g8,0,none⟩) m8 cp8) (D ++ [(⟨kA,xs,kc,xc⟩:Rh)]) ⟨none,([]:List Cl),0,true⟩∧w'.ownsRow w8.heap.size 109 8 v (0 + 1) (flat encCl ([]:List Cl) ++ encCl (⟨xr,xm,xh,x1,x2,x3,x4,x5⟩:Cl))∧w0.grownBy w' (Value.slice none 0 0).ownBlock∧Below B0 w5 w0) (by simp) (by kernel_rfl) rfl (Go.RL.StabL.op _ _ (by rfl) (fun w' hI hS => ?_)) ?_
           · obtain ⟨kb',hv',hkb,hsp⟩:=hS
             simp only [Value.slice.injEq,Option.some.injEq,Addr.mk.injEq,and_true,true_and] at hv'
             subst hv'
             obtain ⟨v',w3,hr3,ho3,hg3,-,-⟩:=run_append_own_at (P:=Tryz.prog) w' w8.heap.size 48 48 109 j0 _ 8 72 Tryz.underlying48 hj gz0 gz1 gz2 rfl (by decide) (.slice none 0 0) 0 (flat encCl ([]:List Cl)) (sp_cl hsp HK8.out) ⟨kb,0,none⟩ 1 1 (encCl (⟨xr,xm,xh,x1,x2,x3,x4,x5⟩:Cl)) rfl (fun j u hj => by
              rw [add_lit',Nat.zero_add]
              exact (at_ hkb j u (by simpa [encCl] using hj)).1) (encCl_one _) (by simp only [maxLen];omega) (by omega) hsp.b2
             obtain ⟨A',c',rfl⟩:=row_form ho3
             exact ⟨_,w3,exec_append _ _ _ rfl _ _ _ rfl rfl hr3,⟨A',c',rfl⟩,⟨hI.1.grown hg3 hsp.b0 (fun b hb => Nat.le_trans hsp.b1 (World.ownsRow.lt (sp_cl hsp HK8.out) b hb).1),sp_after hsp hg3 HK8.out HD8.out⟩,w',hsp,ho3,hg3,hI.1⟩
           rintro v ⟨A9,c9,rfl⟩
           simp only [Act.put,List.setIfInBounds_toArray,List.set_cons_zero,List.set_cons_succ]
           refine Go.RL.AtL.done (by kernel_rfl) (fun w9 hI hS => ?_)
           obtain ⟨w0,hsp,ho,hg,hb0⟩:=hS
           obtain ⟨hbi,z9,z9f⟩:=hI
           have HP9:=Hd (sp_put hsp ho hg HK8.out HD8.out)
           have HBQ9:=Hd (below_setB (o:=m * 2) hbi (Nat.le_trans hsp.b0 hg.size) (sp_read hsp HK8.out HD8.out).2.1 (.slice A9 (0 + 1) c9))
           clear hsp ho hg hb0 hbi y0 y0f
           simp only [List.drop_succ_cons,List.drop_zero]
           go_wp2
           go_roundw
           case rel => exact ⟨i + 1,D ++ [(⟨kA,xs,kc,xc⟩:Rh)],⟨A9,[] ++ [(⟨xr,xm,xh,x1,x2,x3,x4,x5⟩:Cl)],c9,true⟩,w8.heap.size,by go_num,by omega,⟨HP9.out,by rw [HDS1.out,HRS.out];exact rows_push HDM.out HXC.out,by rw [HDS1.out,HRS.out];rfl,by rw [HDS1.out,HRS.out];simp,by rw [HD8.out];have:=HMP.out;omega,by simp only [List.nil_append,List.length_cons,List.length_nil];omega,fun _ => by simp,HFC.out,fun r hr => (List.mem_append.1 hr).elim (HST.out.ha r) (fun hr => by rw [List.mem_singleton.1 hr];show xs.length = _;rw [HK.out];exact HKF.out)⟩,HBQ9.out⟩
           case measure => simp [intOf];omega
         · skip
           have hkb1:((k:Int) == (k1:Int)) = false:=beq_eq_false_iff_ne.2 (by omega)
           have hcb:((k:Int) == (cols:Int)) = false:=beq_eq_false_iff_ne.2 (by omega)
           have HRS:Hid (docStep cols (Ds,xs) (⟨xr,xm,xh,x1,x2,x3,x4,x5⟩:Cl) = (Ds,xs ++ [(⟨xr,xm,xh,x1,x2,x3,x4,x5⟩:Cl)])):=Hd (docStep_add (.inl (by rw [HK.out];omega)))
           have hkC:k ≤ 1000:=by omega
           have HKC:=Hd (show k + 1 ≤ cols by omega)
           clear hk1 hkk hkf
           go_upto_region 20 with fail
           obtain ⟨y0,y0f⟩:=sp_slot HSP.out HK.out HDp.out
           refine Go.RL.wp_region_l 13 (fun w' => Below B0 w5 w'∧w'.cell? ⟨g,p * 2,none⟩ = some (.slice kA k kc)∧w'.frozen? ⟨g,p * 2,none⟩ = false) (fun w' => SpO B0 bS w' (.slice (some ⟨g,0,none⟩) m cp) D ⟨kA,xs,kc,xc⟩) (by kernel_rfl) (by kernel_rfl) ⟨below_at HB.out HSP.out.b0 (Below.refl _ _).drew,y0,y0f⟩ (HSP.out.below (Below.refl _ _).drew) ?_
           refine Go.RL.AtL.go 0 ?_
           iterate 10 (refine Go.RL.AtK.take (o:=⟨_,_,_,_,_,_⟩) (v:=?_) (by kernel_rfl) rfl (by simp) (by kernel_rfl) (by kernel_rfl) ?_ ?_;rotate_left;(focus (refine Go.RL.Pure.val (by rfl) ?_;intro w' hI;obtain ⟨_,_,_⟩:=hI;go_simp;first | done | with_reducible rfl));simp only [Act.put,List.setIfInBounds_toArray,List.set_cons_zero,List.set_cons_succ])
           refine Go.RL.AtK.back ?_
           refine Go.RL.AtL.take 10 (o:=⟨_,_,_,_,_,_⟩) (v:=.agg #[.int .i32 xr,.string xm,.int .i64 xh,.int .i64 x1,.int .i64 x2,.int .i64 x3,.int .i64 x4,.int .i64 x5]) (by kernel_rfl) rfl (by simp) (by kernel_rfl) (by kernel_rfl) ?_ ?_
           · (refine Go.RL.Pure.val (by rfl) ?_;intro w' hI;have d0:w'.cell? ⟨b5,o5 + i * 8,none⟩ = some (.int .i32 xr):=HCELL.out _ hI.1 0 _ rfl;have d1:w'.cell? ⟨b5,o5 + i * 8 + 1,none⟩ = some (.string xm):=HCELL.out _ hI.1 1 _ rfl;have d2:w'.cell? ⟨b5,o5 + i * 8 + 2,none⟩ = some (.int .i64 xh):=HCELL.out _ hI.1 2 _ rfl;have d3:w'.cell? ⟨b5,o5 + i * 8 + 3,none⟩ = some (.int .i64 x1):=HCELL.out _ hI.1 3 _ rfl;have d4:w'.cell? ⟨b5,o5 + i * 8 + 4,none⟩ = some (.int .i64 x2):=HCELL.out _ hI.1 4 _ rfl;have d5:w'.cell? ⟨b5,o5 + i * 8 + 5,none⟩ = some (.int .i64 x3):=HCELL.out _ hI.1 5 _ rfl;have d6:w'.cell? ⟨b5,o5 + i * 8 + 6,none⟩ = some (.int .i64 x4):=HCELL.out _ hI.1 6 _ rfl;have d7:w'.cell? ⟨b5,o5 + i * 8 + 7,none⟩ = some (.int .i64 x5):=HCELL.out _ hI.1 7 _ rfl;go_simp;first | done | with_reducible rfl)
           simp only [Act.put,List.setIfInBounds_toArray,List.set_cons_zero,List.set_cons_succ]
           refine Go.RL.AtL.one 11 (o:=⟨_,_,_,_,_,_⟩) (fun v => ∃ kb,v = .slice (some ⟨kb,0,none⟩) 1 1) (fun v w' => ∃ kb,v = .slice (some ⟨kb,0,none⟩) 1 1∧w'.heap[kb]? = some (.cells #[.int .i32 xr,.string xm,.int .i64 xh,.int .i64 x1,.int .i64 x2,.int .i64 x3,.int .i64 x4,.int .i64 x5] 109 (0,0))∧SpO B0 bS w' (.slice (some ⟨g,0,none⟩) m cp) D ⟨kA,xs,kc,xc⟩) (by simp) (by kernel_rfl) rfl (Go.RL.StabL.op _ _ (by rfl) (fun w' hI hS => ?_)) ?_
           · have hb2:=below_allocs (Below.refl w'.heap.size w') (.cells #[.int .i32 xr,.string xm,.int .i64 xh,.int .i64 x1,.int .i64 x2,.int .i64 x3,.int .i64 x4,.int .i64 x5] 109)
             exact ⟨.slice (some ⟨w'.heap.size,0,none⟩) 1 1,w'.alloc (.cells #[.int .i32 xr,.string xm,.int .i64 xh,.int .i64 x1,.int .i64 x2,.int .i64 x3,.int .i64 x4,.int .i64 x5] 109),by go_simp,⟨_,rfl⟩,⟨below_at hI.1 hS.b0 hb2,hold hb2 hI.2⟩,_,rfl,hp_new rfl,hS.below hb2⟩
           rintro v ⟨kb,rfl⟩
           simp only [Act.put,List.setIfInBounds_toArray,List.set_cons_zero,List.set_cons_succ]
           refine Go.RL.AtL.one 12 (o:=⟨some 100,.call { callee:=.builtin .append,args:=#[.tmp 94,.tmp 99],argTypes:=#[48,48] },48,_,_,none⟩) (fun v => ∃ A' c',v = .slice A' (k + 1) c') (fun v w' => ∃ w0,SpO B0 bS w0 (.slice (some ⟨g,0,none⟩) m cp) D ⟨kA,xs,kc,xc⟩∧w'.ownsRow bS 109 8 v (k + 1) (flat encCl xs ++ encCl (⟨xr,xm,xh,x1,x2,x3,x4,x5⟩:Cl))∧w0.grownBy w' (Value.slice kA k kc).ownBlock∧Below B0 w5 w0) (by simp) (by kernel_rfl) rfl (Go.RL.StabL.op _ _ (by rfl) (fun w' hI hS => ?_)) ?_
           · obtain ⟨kb',hv',hkb,hsp⟩:=hS
             simp only [Value.slice.injEq,Option.some.injEq,Addr.mk.injEq,and_true,true_and] at hv'
             subst hv'
             obtain ⟨v',w3,hr3,ho3,hg3,-,-⟩:=run_append_own_at (P:=Tryz.prog) w' bS 48 48 109 j0 _ 8 72 Tryz.underlying48 hj gz0 gz1 gz2 rfl (by decide) (.slice kA k kc) k (flat encCl xs) (sp_cl hsp HK.out) ⟨kb,0,none⟩ 1 1 (encCl (⟨xr,xm,xh,x1,x2,x3,x4,x5⟩:Cl)) rfl (fun j u hj => by
              rw [add_lit',Nat.zero_add]
              exact (at_ hkb j u (by simpa [encCl] using hj)).1) (encCl_one _) (by simp only [maxLen];omega) (by omega) hsp.b2
             obtain ⟨A',c',rfl⟩:=row_form ho3
             exact ⟨_,w3,exec_append _ _ _ rfl _ _ _ rfl rfl hr3,⟨A',c',rfl⟩,⟨hI.1.grown hg3 hsp.b0 (fun b hb => Nat.le_trans hsp.b1 (World.ownsRow.lt (sp_cl hsp HK.out) b hb).1),sp_after hsp hg3 HK.out HDp.out⟩,w',hsp,ho3,hg3,hI.1⟩
           rintro v ⟨A9,c9,rfl⟩
           simp only [Act.put,List.setIfInBounds_toArray,List.set_cons_zero,List.set_cons_succ]
           refine Go.RL.AtL.done (by kernel_rfl) (fun w9 hI hS => ?_)
           obtain ⟨w0,hsp,ho,hg,hb0⟩:=hS
           obtain ⟨hbi,z9,z9f⟩:=hI
           have HP9:=Hd (sp_put hsp ho hg HK.out HDp.out)
           have HBQ9:=Hd (below_setB (o:=p * 2) hbi (Nat.le_trans hsp.b0 hg.size) (sp_read hsp HK.out HDp.out).2.1 (.slice A9 (k + 1) c9))
           clear hsp ho hg hb0 hbi y0 y0f
           simp only [List.drop_succ_cons,List.drop_zero]
           go_wp2
           go_roundw
           case rel => exact ⟨i + 1,D,⟨A9,xs ++ [(⟨xr,xm,xh,x1,x2,x3,x4,x5⟩:Cl)],c9,xc⟩,bS,by go_num,by omega,⟨HP9.out,by rw [HDS1.out,HRS.out];exact HDM.out,by rw [HDS1.out,HRS.out],by rw [HDS1.out,HRS.out];exact HXC.out,by rw [HDp.out];omega,by rw [List.length_append,HK.out];exact HKC.out,fun _ => by simp,HXF.out.append HFC.out,HST.out.ha⟩,HBQ9.out⟩
           case measure => simp [intOf];omega
  · have hltI:(i:Int) < (n:Int):=by omega
    have hil:i < l.length:=by rw [HN.out];exact hlt
    obtain ⟨b,off,c,rfl,hx,hcell⟩:=(HL.out.below hB).at_ hil
    have HMT:=Hd (map_take_succ unpad hx)
    obtain ⟨bx,rfl⟩:∃ bx:Value × Unit,u5 = bx.1:=⟨(u5,()),rfl⟩
    obtain ⟨Q,hQ⟩:∃ Q,Q = (l.take i).map unpad:=⟨_,rfl⟩
    have hQl:Q.length = i:=by rw [hQ,List.length_map,List.length_take];omega
    rw [← hQ] at HO HMT
    have HQL:=Hd hQl
    obtain ⟨xr,xm,xh,x1,x2,x3,x4,x5⟩:=c
    have d0:=hcell 0 _ rfl
    have d1:=hcell 1 _ rfl
    have d2:=hcell 2 _ rfl
    have d3:=hcell 3 _ rfl
    have d4:=hcell 4 _ rfl
    have d5:=hcell 5 _ rfl
    have d6:=hcell 6 _ rfl
    have d7:=hcell 7 _ rfl
    simp only [Nat.add_zero] at d0
    simp only at d0 d1 d2 d3 d4 d5 d6 d7
    have hwi:IntKind.i64.wrap ((i:Int) + 1) = (i:Int) + 1:=IntWalk.i64_in _ (by omega)
    obtain ⟨k,hk⟩:∃ k,wr.heap.size = k:=⟨_,rfl⟩
    obtain ⟨W,hW⟩:∃ W,wr.alloc (.cells #[.int .i32 xr,.string xm,.int .i64 xh,.int .i64 x1,.int .i64 x2,.int .i64 x3,.int .i64 x4,.int .i64 x5] 109) = W:=⟨_,rfl⟩
    have hbW:Below wr.heap.size wr W:=by rw [← hW];exact below_allocs (Below.refl _ _) _
    have HBW:=Hd (below_tail hB hbW)
    have HOW:=Hd (HO.out.below hbW)
    have HCW:Hid (W.heap[k]? = some (.cells (encCl (⟨xr,xm,xh,x1,x2,x3,x4,x5⟩:Cl)).toArray 109 (0,0))):=Hd (by rw [← hW,← hk];exact hp_new rfl)
    have HKW:Hid (w.heap.size ≤ k):=Hd (by rw [← hk];exact hB.size)
    have HKO:Hid (∀ g,bx.1.ownBlock = some g→g ≠ k):=Hd (fun g hg => by have:=(World.ownsRow.lt (show World.ownsRow _ _ _ _ _ _ _ from HO.out) g hg).2;omega)
    have HWW:=Hd hW
    have HKK:=Hd hk
    clear hO hB hx hcell hil hQ hbW hW hk hQl
    go_upto_region 6 with fail
    rw [HWW.out,HKK.out]
    have e2:W.cell? ⟨k,2,none⟩ = some (.int .i64 xh):=(at_ HCW.out 2 _ rfl).1
    clear d0 d1 d2 d3 d4 d5 d6 d7
    by_cases hh:xh = 3
    · have hhb:(xh == 3) = true:=by simp [hh]
      have HU:Hid (unpad (⟨xr,xm,xh,x1,x2,x3,x4,x5⟩:Cl) = emptyC (⟨xr,xm,xh,x1,x2,x3,x4,x5⟩:Cl)):=Hd (unpad_pad hh)
      clear hh
      go_upto_region 7 with fail
      refine wp_region_lit ?_
      refine wpList_valG (.pointer (some ⟨k,3,none⟩)) (by rfl) (by go_simp) ?_
      simp only [Act.put,List.setIfInBounds_toArray,List.set_cons_zero,List.set_cons_succ]
      refine load_mid_g (by rfl) 34 (.tmp 25) rfl (k) (3) rfl ([.int .i64 x1,.int .i64 x2,.int .i64 x3,.int .i64 x4,.int .i64 x5]) _ (attr_range HCW.out) Tryz.underlying34 rfl info_attr ?_
      simp only [Act.put,List.setIfInBounds_toArray,List.set_cons_zero,List.set_cons_succ]
      refine wpList_valG (.agg (encCl (emptyC (⟨xr,xm,xh,x1,x2,x3,x4,x5⟩:Cl))).toArray) (by rfl) (by simp only [encCl,emptyC,emptyA,mkCl,atrOf];go_simp;try rfl) ?_
      simp only [Act.put,List.setIfInBounds_toArray,List.set_cons_zero,List.set_cons_succ]
      refine wpList_store_mid rfl 109 (.tmp 7) (.tmp 27) rfl (k) (0) ((encCl (emptyC (⟨xr,xm,xh,x1,x2,x3,x4,x5⟩:Cl))).toArray) rfl rfl (there8 HCW.out) info_cell (cl_one (emptyC (⟨xr,xm,xh,x1,x2,x3,x4,x5⟩:Cl))) ?_
      simp only [Act.put]
      obtain ⟨E,hE⟩:∃ E,E = emptyC (⟨xr,xm,xh,x1,x2,x3,x4,x5⟩:Cl):=⟨_,rfl⟩
      rw [← hE] at HU ⊢
      have HXE:Hid ((W.setCells k 0 (encCl E)).heap[k]? = some (.cells (encCl E).toArray 109 (0,0))):=Hd (by
       have:=whole_setCells (encCl E) 0 _ W HCW.out (by simp [encCl_len])
       simpa [encCl] using this)
      have HBE:=Hd (below_setCells HBW.out HKW.out (encCl E) 0)
      have HOE:Hid (ClO w.heap.size (W.setCells k 0 (encCl E)) bx.1 Q):=Hd (owns_mod HOW.out (mod_setCellsN (X:=[k]) (.inl (by simp)) _ _ _ (Mod.refl _ _)) (fun g hg hx => HKO.out g hg (List.mem_singleton.1 hx)))
      change wpList _ _ _ _ _ (W.setCells k 0 (encCl E))
      generalize W.setCells k 0 (encCl E) = WE at HXE HBE HOE ⊢
      clear hE e2
      go_upto_region 8 with fail
      refine wp_region_lit ?_
      refine wpList_valG (bx.1) (by rfl) (by rfl) ?_
      simp only [Act.put,List.setIfInBounds_toArray,List.set_cons_zero,List.set_cons_succ]
      refine load_mid_g (by rfl) 109 (.tmp 7) rfl (k) (0) rfl (encCl E) _ (range_new HXE.out) Tryz.underlying109 rfl info_cell ?_
      simp only [Act.put,List.setIfInBounds_toArray,List.set_cons_zero,List.set_cons_succ]
      refine wpList_actG (.slice (some ⟨WE.heap.size,0,none⟩) 1 1) (WE.alloc (.cells (encCl E).toArray 109)) (by rfl) (by simp only [encCl];go_simp) ?_
      simp only [Act.put,List.setIfInBounds_toArray,List.set_cons_zero,List.set_cons_succ]
      refine wpList_append_g (o:=⟨some 31,_,_,_,_,_⟩) rfl (.tmp 28) (.tmp 30) 48 rfl w.heap.size 109 j0 _ 8 72 Tryz.underlying48 hj gz0 gz1 gz2 rfl (by decide) bx.1 Q.length (flat encCl Q) rfl (ClO.below HOE.out (below_allocs (Below.refl _ _) _)) ⟨WE.heap.size,0,none⟩ 1 1 (encCl E) rfl rfl (fun j u hj => by rw [add_lit',Nat.zero_add];exact (at_ (hp_new rfl) j u (by simpa using hj)).1) (encCl_one _) (by simp only [maxLen];have:=HQL.out;omega) (by have:=HQL.out;omega) (by have:=HBE.out.size;simp;omega) ?_
      intro v' w7 ho hg hv'
      have HO7:Hid (ClO w.heap.size w7 v' ((l.take (i + 1)).map unpad)):=Hd (by rw [HMT.out,HU.out];unfold ClO;rw [flat_append,List.length_append];exact ho)
      have HB7:=Hd ((below_allocs HBE.out (.cells (encCl E).toArray 109)).grown hg (below_allocs HBE.out _).size (fun b hb => (World.ownsRow.lt (show WE.ownsRow _ _ _ _ _ _ from HOE.out) b hb).1))
      simp only [Act.put,List.setIfInBounds_toArray,List.set_cons_zero,List.set_cons_succ]
      clear ho hg hv'
      go_wp2
      go_roundw
      case rel => exact ⟨i + 1,by go_num,by omega,HO7.out,HB7.out⟩
      case measure => simp [intOf];omega
    · have hhb:(xh == 3) = false:=by simp [hh]
      have HU:Hid (unpad (⟨xr,xm,xh,x1,x2,x3,x4,x5⟩:Cl) = (⟨xr,xm,xh,x1,x2,x3,x4,x5⟩:Cl)):=Hd (unpad_same hh)
      clear hh
      go_upto_region 8 with fail
      refine wp_region_lit ?_
      refine wpList_valG (bx.1) (by rfl) (by rfl) ?_
      simp only [Act.put,List.setIfInBounds_toArray,List.set_cons_zero,List.set_cons_succ]
      refine load_mid_g (by rfl) 109 (.tmp 7) rfl (k) (0) rfl (encCl (⟨xr,xm,xh,x1,x2,x3,x4,x5⟩:Cl)) _ (range_new HCW.out) Tryz.underlying109 rfl info_cell ?_
      simp only [Act.put,List.setIfInBounds_toArray,List.set_cons_zero,List.set_cons_succ]
      refine wpList_actG (.slice (some ⟨W.heap.size,0,none⟩) 1 1) (W.alloc (.cells (encCl (⟨xr,xm,xh,x1,x2,x3,x4,x5⟩:Cl)).toArray 109)) (by rfl) (by simp only [encCl];go_simp) ?_
      simp only [Act.put,List.setIfInBounds_toArray,List.set_cons_zero,List.set_cons_succ]
      refine wpList_append_g (o:=⟨some 31,_,_,_,_,_⟩) rfl (.tmp 28) (.tmp 30) 48 rfl w.heap.size 109 j0 _ 8 72 Tryz.underlying48 hj gz0 gz1 gz2 rfl (by decide) bx.1 Q.length (flat encCl Q) rfl (ClO.below HOW.out (below_allocs (Below.refl _ _) _)) ⟨W.heap.size,0,none⟩ 1 1 (encCl (⟨xr,xm,xh,x1,x2,x3,x4,x5⟩:Cl)) rfl rfl (fun j u hj => by rw [add_lit',Nat.zero_add];exact (at_ (hp_new rfl) j u (by simpa using hj)).1) (encCl_one _) (by simp only [maxLen];have:=HQL.out;omega) (by have:=HQL.out;omega) (by have:=HBW.out.size;simp;omega) ?_
      intro v' w7 ho hg hv'
      have HO7:Hid (ClO w.heap.size w7 v' ((l.take (i + 1)).map unpad)):=Hd (by rw [HMT.out,HU.out];unfold ClO;rw [flat_append,List.length_append];exact ho)
      have HB7:=Hd ((below_allocs HBW.out (.cells (encCl (⟨xr,xm,xh,x1,x2,x3,x4,x5⟩:Cl)).toArray 109)).grown hg (below_allocs HBW.out _).size (fun b hb => (World.ownsRow.lt (show W.ownsRow _ _ _ _ _ _ from HOW.out) b hb).1))
      simp only [Act.put,List.setIfInBounds_toArray,List.set_cons_zero,List.set_cons_succ]
      clear ho hg hv'
      go_wp2
      go_roundw
      case rel => exact ⟨i + 1,by go_num,by omega,HO7.out,HB7.out⟩
      case measure => simp [intOf];omega
end Go.Proofs.YtffdblmdelgkaaaGreat
