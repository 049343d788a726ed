/- Joined by a tool of this claim out of smaller texts. Conditions: as stated. -/
import Derived.Test.YtffdblmdelgkaaaGreatRt16
import Derived.Test.YtffdblmdelgkaaaGreatRt17
import Derived.Test.YtffdblmdelgkaaaGreatRt27
set_option linter.unusedVariables false
set_option linter.unusedSimpArgs false
set_option maxRecDepth 100000
open Go.Lib renaming hid → Hd
namespace Go.Proofs.YtffdblmdelgkaaaGreat
open Go.RowKit
section
variable {base:Nat} {w w1:World} {q:Dv} {d d1:Dc}
theorem DcRes.le (hs:DcRes base w q d1 w1):base ≤ w1.heap.size:=by
 obtain ⟨q1,e1,h1,-,-⟩:=hs
 have:=h1.lt q1.D (by simp [dcX]);omega
theorem DcRes.baseC (hs:DcRes base w q d1 w1):w1.cell? ⟨q.D,1,none⟩ = some (.int .i64 d1.base):=by
 obtain ⟨q1,e1,h1,-,-⟩:=hs
 rw [← e1];exact h1.cells.2.1.1
theorem DcRes.baseF (hs:DcRes base w q d1 w1):w1.frozen? ⟨q.D,1,none⟩ = false:=by
 obtain ⟨q1,e1,h1,-,-⟩:=hs
 rw [← e1];exact h1.cells.2.1.2
theorem DcRes.colsC (hs:DcRes base w q d1 w1):w1.cell? ⟨q.D,2,none⟩ = some (.int .i64 d1.cols):=by
 obtain ⟨q1,e1,h1,-,-⟩:=hs
 rw [← e1];exact h1.cells.2.2.1.1
theorem DcRes.roomC (hs:DcRes base w q d1 w1):w1.cell? ⟨q.D,3,none⟩ = some (.int .i64 d1.room):=by
 obtain ⟨q1,e1,h1,-,-⟩:=hs
 rw [← e1];exact h1.cells.2.2.2.1.1
theorem insert_then (hs:DcRes base w q d1 w1) (k:Nat) (hk:k ≤ d1.L.length) (r:Rh) (hr:RcAt w1 r) (hrl:r.cs.length = d1.cols) (hL:d1.L.length ≤ 1000000) (ht:d1.told.length ≤ 1000000) :
 Calls Tryz.prog 128 #[.pointer (some ⟨q.D,0,none⟩),.int .i64 k,.agg #[.slice r.A r.cs.length r.cap,.bool r.cont]] w1 (DcPost base w q (dcInsert d1 k (roOf r))):=by
 have hle:=hs.le
 exact dc_then hs fun q1 e h => by rw [← e];exact rdinsert_any h k hk r hr hrl hL ht hle
theorem remove_then (hs:DcRes base w q d1 w1) (k:Nat) (hk:k < d1.L.length) (hL:d1.L.length ≤ 1000000) (ht:d1.told.length ≤ 1000000) :
 Calls Tryz.prog 129 #[.pointer (some ⟨q.D,0,none⟩),.int .i64 k] w1 (DcPost base w q (dcRemove d1 k)):=by
 have hle:=hs.le
 exact dc_then hs fun q1 e h => by rw [← e];exact rdremove_any h k hk hL ht hle
theorem evict_then (hs:DcRes base w q d1 w1) (k:Nat) (hk:k ≤ d1.base) (hbL:d1.base < d1.L.length) (hL:d1.L.length ≤ 1000000) (ht:d1.told.length ≤ 1000000) :
 Calls Tryz.prog 91 #[.pointer (some ⟨q.D,0,none⟩),.int .i64 k] w1 (DcPost base w q (dcEvict d1 k)):=by
 have hle:=hs.le
 exact dc_then hs fun q1 e h => by rw [← e];exact rdevict_any h k hk hbL hL ht hle
theorem dpart_then (hs:DcRes base w q d1 w1) (hL:d1.L.length ≤ 1000000) (hbs:d1.base ≤ d1.L.length) (y:Int) :
 Calls Tryz.prog 80 #[.pointer (some ⟨q.D,0,none⟩),.int .i64 y] w1 (DcPost base w q (dcPart d1 y)) :=
 dc_then hs fun q1 e h => by rw [← e];exact rdPart_any h hL hbs y
theorem blank_then (hs:DcRes base w q d1 w1) (b:Col):Calls Tryz.prog 62 #[.pointer (some ⟨q.D,0,none⟩),.agg #[.int .i64 b.k,.int .i64 b.n]] w1 (BlankPost d1.cols b w1):=by
 obtain ⟨q1,e1,h1,-,-⟩:=hs
 rw [← e1];exact rdblank_any h1 b
theorem dcPart_len (d:Dc) (y:Int):(dcPart d y).L.length = d.L.length∧(dcPart d y).base = d.base∧(dcPart d y).told = d.told∧(dcPart d y).cols = d.cols∧(dcPart d y).room = d.room:=by
 unfold dcPart
 split
 · exact ⟨by simp,rfl,rfl,rfl,rfl⟩
 · exact ⟨rfl,rfl,rfl,rfl,rfl⟩
set_option maxHeartbeats 3200000 in
theorem rdCut_any (h:DcO base w q d) (top bottom:Nat) (b:Col) (h1:top ≤ bottom) (h2:d.base + bottom < d.L.length) (hL:d.L.length ≤ 900000) (ht:d.told.length ≤ 999990) :
 Calls Tryz.prog 88 #[.pointer (some ⟨q.D,0,none⟩),.int .i64 top,.int .i64 bottom,.agg #[.int .i64 b.k,.int .i64 b.n]] w (DcPost base w q (dcCut d top bottom b)):=by
 have hc2:=h.cols2
 have hc3:=h.cols1000
 obtain ⟨W,hW⟩:∃ W,w.alloc (.cells #[.int .i64 b.k,.int .i64 b.n] 32) = W:=⟨_,rfl⟩
 have hb0:Below w.heap.size w W:=by rw [← hW];exact below_allocs (Below.refl _ _) _
 have HN:=Hd (show W.heap[w.heap.size]? = some (.cells #[.int .i64 b.k,.int .i64 b.n] 32 (0,0)) from by rw [← hW];exact hp_new rfl)
 have HB:=Hd hb0
 have HX:w.heap.size ∉ dcX q:=fun hx => by have:=h.lt _ hx;omega
 have H0:=Hd (h.below hb0).res
 obtain ⟨kf,hkf⟩:∃ kf:Nat,kf = d.base + top:=⟨_,rfl⟩
 obtain ⟨ks,hks⟩:∃ ks:Nat,ks = d.base + bottom:=⟨_,rfl⟩
 have hkfI:(d.base:Int) + (top:Int) = (kf:Int):=by omega
 have hksI:(d.base:Int) + (bottom:Int) = (ks:Int):=by omega
 have hwf:IntKind.i64.wrap (kf:Int) = (kf:Int):=IntWalk.i64_in _ (by omega)
 have hws:IntKind.i64.wrap (ks:Int) = (ks:Int):=IntWalk.i64_in _ (by omega)
 have hwt:IntKind.i64.wrap ((top:Int) + 1) = (top:Int) + 1:=IntWalk.i64_in _ (by omega)
 have hwb:IntKind.i64.wrap ((bottom:Int) + 1) = (bottom:Int) + 1:=IntWalk.i64_in _ (by omega)
 have HRM:=Hd (remove_then H0.out kf (by omega) (by omega) (by omega))
 have hl1:(dcRemove d kf).L.length = d.L.length - 1:=by show (d.L.take kf ++ d.L.drop (kf + 1)).length = _;simp;omega
 have HBK:Hid (∀ w1,DcRes base W q (dcRemove d kf) w1→Calls Tryz.prog 62 #[.pointer (some ⟨q.D,0,none⟩),.agg #[.int .i64 b.k,.int .i64 b.n]] w1 (BlankPost d.cols b w1)):=Hd (fun w1 hs => blank_then hs b)
 have HIN:Hid (∀ w1 (r:Rh),DcRes base W q (dcRemove d kf) w1→RcAt w1 r→r.cs.length = d.cols→Calls Tryz.prog 128 #[.pointer (some ⟨q.D,0,none⟩),.int .i64 ks,.agg #[.slice r.A r.cs.length r.cap,.bool r.cont]] w1 (DcPost base W q (dcInsert (dcRemove d kf) ks (roOf r)))):=Hd (fun w1 r hs hr hrl => insert_then hs ks (by rw [hl1];omega) r hr hrl (by rw [hl1];omega) (by show (d.told ++ _).length ≤ _;simp;omega))
 have hl2:∀ r,(dcInsert (dcRemove d kf) ks r).L.length = d.L.length:=fun r => by show ((dcRemove d kf).L.take ks ++ (r :: (dcRemove d kf).L.drop ks)).length = _;simp [hl1];omega
 have HP1:Hid (∀ w1 r,DcRes base W q (dcInsert (dcRemove d kf) ks r) w1→Calls Tryz.prog 80 #[.pointer (some ⟨q.D,0,none⟩),.int .i64 ((top:Int))] w1 (DcPost base W q (dcPart (dcInsert (dcRemove d kf) ks r) ((top:Int))))):=Hd (fun w1 r hs => dpart_then hs (by rw [hl2];omega) (by rw [hl2];show d.base ≤ _;omega) _)
 have HP2:Hid (∀ w1 r,DcRes base W q (dcPart (dcInsert (dcRemove d kf) ks r) ((top:Int))) w1→Calls Tryz.prog 80 #[.pointer (some ⟨q.D,0,none⟩),.int .i64 ((bottom:Int) + 1)] w1 (DcPost base W q (dcPart (dcPart (dcInsert (dcRemove d kf) ks r) ((top:Int))) ((bottom:Int) + 1)))):=Hd (fun w1 r hs => dpart_then hs (by rw [(dcPart_len _ _).1,hl2];omega) (by rw [(dcPart_len _ _).1,(dcPart_len _ _).2.1,hl2];show d.base ≤ _;omega) _)
 obtain ⟨b0,-⟩:=at_ HN.out 0 _ rfl
 obtain ⟨b1,-⟩:=at_ HN.out 1 _ rfl
 have HB0:=Hd b0
 have HB1:=Hd b1
 have y1:=H0.out.baseC
 have HG:Hid (dcCut d top bottom b = dcPart (dcPart (dcInsert (dcRemove d kf) ks (blankR d.cols b)) ((top:Int))) ((bottom:Int) + 1)):=Hd (by rw [hkf,hks];rfl)
 rw [HG.out]
 have HCC:=Hd (And.intro hc2 hc3)
 clear hb0 h hkf hks hl1 hl2 h2
 have HWW:=Hd hW
 clear hW
 go_enter Tryz.func88,Tryz.ntmps88
 go_upto_region 1 with fail
 rw [HWW.out]
 clear HWW
 go_upto_region 2 with (go_at_call 129;(with_reducible refine HRM.out.mono ?_);rintro e w2 ⟨rfl,hs⟩;have HS2:=Hd hs;have y2:=hs.baseC;have c0:=hs.hold HX HB0.out;have c1:=hs.hold HX HB1.out;clear hs y1 b0 b1)
 have y3:w2.cell? ⟨q.D,1,none⟩ = some (.int .i64 d.base):=y2
 clear y2
 refine wp_region_n 10 (fun w' => Below w2.heap.size w2 w'∧w'.cell? ⟨q.D,1,none⟩ = some (.int .i64 d.base)∧w'.cell? ⟨w.heap.size,0,none⟩ = some (.int .i64 b.k)∧w'.cell? ⟨w.heap.size,1,none⟩ = some (.int .i64 b.n)) (by kernel_rfl) (by kernel_rfl) (fun w1 w2 hS hb => ⟨below_tail hS.1 hb,holda hb hS.2.1,holda hb hS.2.2.1,holda hb hS.2.2.2⟩) ⟨(Below.refl _ _).drew,y3,c0,c1⟩ ?_
 refine AtN.go 0 ?_
 iterate 9 (refine AtC.take (o:=⟨_,_,_,_,_,_⟩) (v:=?_) (by kernel_rfl) rfl (by simp) (by kernel_rfl) (by kernel_rfl) ?_ ?_;rotate_left;(focus (first | exact StabN.skip (by rfl) | (refine StabN.val (by rfl) ?_;intro w' hS;obtain ⟨_,_,_,_⟩:=hS;go_simp;first | done | with_reducible rfl)));simp only [Act.put,List.setIfInBounds_toArray,List.set_cons_zero,List.set_cons_succ])
 refine AtC.back ?_
 refine AtN.one 9 (o:=⟨_,_,_,_,_,_⟩) (fun v => ∃ g cap,v = .agg #[.slice (some ⟨g,0,none⟩) d.cols cap,.bool false]) (fun v w' => ∃ g cap,v = .agg #[.slice (some ⟨g,0,none⟩) d.cols cap,.bool false]∧RcAt w' ⟨some ⟨g,0,none⟩,List.replicate d.cols (blankC b),cap,false⟩) (by simp) (by kernel_rfl) rfl (fun v w1 w2 ⟨g,cap,hv,hr⟩ hb => ⟨g,cap,hv,hr.below hb⟩) (StabN.call 62 #[.pointer (some ⟨q.D,0,none⟩),.agg #[.int .i64 b.k,.int .i64 b.n]] _ _ (by rfl) ?_ (fun w' hS => ?_)) ?_
 · intro w'
   go_simp
 · refine (HBK.out w' (HS2.out.post hS.1)).mono ?_
   rintro e w3 ⟨g1,cap,rfl,hc,hb⟩
   exact ⟨_,rfl,⟨⟨g1,cap,rfl⟩,g1,cap,rfl,hc⟩,hb⟩
 rintro v ⟨g1,cap,rfl⟩
 simp only [Act.put,List.setIfInBounds_toArray,List.set_cons_zero,List.set_cons_succ]
 refine AtN.done (by kernel_rfl) (fun w' hS => ?_)
 obtain ⟨⟨hb1,-,-,-⟩,g1',cap',hv',hrc'⟩:=hS
 simp only [Value.agg.injEq,List.cons.injEq,Array.mk.injEq,Value.slice.injEq,Option.some.injEq,Addr.mk.injEq,and_true,true_and] at hv'
 obtain ⟨rfl,rfl⟩:=hv'
 have HI2:=Hd (HIN.out w' ⟨some ⟨g1,0,none⟩,List.replicate d.cols (blankC b),cap,false⟩ (HS2.out.post hb1) hrc' (by simp))
 simp only [List.length_replicate] at HI2
 clear hb1 hrc' y3 c0 c1
 go_wp2_with (first
  | (go_at_call 128;(with_reducible refine HI2.out.mono ?_);rintro e w4 ⟨rfl,hs⟩;have HS4:=Hd hs;clear hs)
  | (go_at_call 80;first
      | (have hpv:=HS5.out;clear hpv;(with_reducible refine (HP2.out _ _ HS5.out).mono ?_);rintro e w6 ⟨rfl,hs⟩;have HS6:=Hd hs;clear hs)
      | ((with_reducible refine (HP1.out _ _ HS4.out).mono ?_);rintro e w5 ⟨rfl,hs⟩;have HS5:=Hd hs;clear hs)))
 go_end0
 exact ⟨rfl,HS6.out.pre HB.out⟩
set_option maxHeartbeats 3200000 in
theorem rdDown_any (h:DcO base w q d) (top bottom:Nat) (b:Col) (h1:top ≤ bottom) (h2:d.base + bottom < d.L.length) (hL:d.L.length ≤ 900000) (ht:d.told.length ≤ 999990) :
 Calls Tryz.prog 87 #[.pointer (some ⟨q.D,0,none⟩),.int .i64 top,.int .i64 bottom,.agg #[.int .i64 b.k,.int .i64 b.n]] w (DcPost base w q (dcDown d top bottom b)):=by
 have hc2:=h.cols2
 have hc3:=h.cols1000
 obtain ⟨W,hW⟩:∃ W,w.alloc (.cells #[.int .i64 b.k,.int .i64 b.n] 32) = W:=⟨_,rfl⟩
 have hb0:Below w.heap.size w W:=by rw [← hW];exact below_allocs (Below.refl _ _) _
 have HN:=Hd (show W.heap[w.heap.size]? = some (.cells #[.int .i64 b.k,.int .i64 b.n] 32 (0,0)) from by rw [← hW];exact hp_new rfl)
 have HB:=Hd hb0
 have HX:w.heap.size ∉ dcX q:=fun hx => by have:=h.lt _ hx;omega
 have H0:=Hd (h.below hb0).res
 obtain ⟨kf,hkf⟩:∃ kf:Nat,kf = d.base + bottom:=⟨_,rfl⟩
 obtain ⟨ks,hks⟩:∃ ks:Nat,ks = d.base + top:=⟨_,rfl⟩
 have hkfI:(d.base:Int) + (bottom:Int) = (kf:Int):=by omega
 have hksI:(d.base:Int) + (top:Int) = (ks:Int):=by omega
 have hwf:IntKind.i64.wrap (kf:Int) = (kf:Int):=IntWalk.i64_in _ (by omega)
 have hws:IntKind.i64.wrap (ks:Int) = (ks:Int):=IntWalk.i64_in _ (by omega)
 have hwt:IntKind.i64.wrap ((top:Int) + 1) = (top:Int) + 1:=IntWalk.i64_in _ (by omega)
 have hwb:IntKind.i64.wrap ((bottom:Int) + 1) = (bottom:Int) + 1:=IntWalk.i64_in _ (by omega)
 have HRM:=Hd (remove_then H0.out kf (by omega) (by omega) (by omega))
 have hl1:(dcRemove d kf).L.length = d.L.length - 1:=by show (d.L.take kf ++ d.L.drop (kf + 1)).length = _;simp;omega
 have HBK:Hid (∀ w1,DcRes base W q (dcRemove d kf) w1→Calls Tryz.prog 62 #[.pointer (some ⟨q.D,0,none⟩),.agg #[.int .i64 b.k,.int .i64 b.n]] w1 (BlankPost d.cols b w1)):=Hd (fun w1 hs => blank_then hs b)
 have HIN:Hid (∀ w1 (r:Rh),DcRes base W q (dcRemove d kf) w1→RcAt w1 r→r.cs.length = d.cols→Calls Tryz.prog 128 #[.pointer (some ⟨q.D,0,none⟩),.int .i64 ks,.agg #[.slice r.A r.cs.length r.cap,.bool r.cont]] w1 (DcPost base W q (dcInsert (dcRemove d kf) ks (roOf r)))):=Hd (fun w1 r hs hr hrl => insert_then hs ks (by rw [hl1];omega) r hr hrl (by rw [hl1];omega) (by show (d.told ++ _).length ≤ _;simp;omega))
 have hl2:∀ r,(dcInsert (dcRemove d kf) ks r).L.length = d.L.length:=fun r => by show ((dcRemove d kf).L.take ks ++ (r :: (dcRemove d kf).L.drop ks)).length = _;simp [hl1];omega
 have HP1:Hid (∀ w1 r,DcRes base W q (dcInsert (dcRemove d kf) ks r) w1→Calls Tryz.prog 80 #[.pointer (some ⟨q.D,0,none⟩),.int .i64 ((top:Int) + 1)] w1 (DcPost base W q (dcPart (dcInsert (dcRemove d kf) ks r) ((top:Int) + 1)))):=Hd (fun w1 r hs => dpart_then hs (by rw [hl2];omega) (by rw [hl2];show d.base ≤ _;omega) _)
 have HP2:Hid (∀ w1 r,DcRes base W q (dcPart (dcInsert (dcRemove d kf) ks r) ((top:Int) + 1)) w1→Calls Tryz.prog 80 #[.pointer (some ⟨q.D,0,none⟩),.int .i64 ((bottom:Int) + 1)] w1 (DcPost base W q (dcPart (dcPart (dcInsert (dcRemove d kf) ks r) ((top:Int) + 1)) ((bottom:Int) + 1)))):=Hd (fun w1 r hs => dpart_then hs (by rw [(dcPart_len _ _).1,hl2];omega) (by rw [(dcPart_len _ _).1,(dcPart_len _ _).2.1,hl2];show d.base ≤ _;omega) _)
 obtain ⟨b0,-⟩:=at_ HN.out 0 _ rfl
 obtain ⟨b1,-⟩:=at_ HN.out 1 _ rfl
 have HB0:=Hd b0
 have HB1:=Hd b1
 have y1:=H0.out.baseC
 have HG:Hid (dcDown d top bottom b = dcPart (dcPart (dcInsert (dcRemove d kf) ks (blankR d.cols b)) ((top:Int) + 1)) ((bottom:Int) + 1)):=Hd (by rw [hkf,hks];rfl)
 rw [HG.out]
 have HCC:=Hd (And.intro hc2 hc3)
 clear hb0 h hkf hks hl1 hl2 h2
 have HWW:=Hd hW
 clear hW
 go_enter Tryz.func87,Tryz.ntmps87
 go_upto_region 1 with fail
 rw [HWW.out]
 clear HWW
 go_upto_region 2 with (go_at_call 129;(with_reducible refine HRM.out.mono ?_);rintro e w2 ⟨rfl,hs⟩;have HS2:=Hd hs;have y2:=hs.baseC;have c0:=hs.hold HX HB0.out;have c1:=hs.hold HX HB1.out;clear hs y1 b0 b1)
 have y3:w2.cell? ⟨q.D,1,none⟩ = some (.int .i64 d.base):=y2
 clear y2
 refine wp_region_n 10 (fun w' => Below w2.heap.size w2 w'∧w'.cell? ⟨q.D,1,none⟩ = some (.int .i64 d.base)∧w'.cell? ⟨w.heap.size,0,none⟩ = some (.int .i64 b.k)∧w'.cell? ⟨w.heap.size,1,none⟩ = some (.int .i64 b.n)) (by kernel_rfl) (by kernel_rfl) (fun w1 w2 hS hb => ⟨below_tail hS.1 hb,holda hb hS.2.1,holda hb hS.2.2.1,holda hb hS.2.2.2⟩) ⟨(Below.refl _ _).drew,y3,c0,c1⟩ ?_
 refine AtN.go 0 ?_
 iterate 9 (refine AtC.take (o:=⟨_,_,_,_,_,_⟩) (v:=?_) (by kernel_rfl) rfl (by simp) (by kernel_rfl) (by kernel_rfl) ?_ ?_;rotate_left;(focus (first | exact StabN.skip (by rfl) | (refine StabN.val (by rfl) ?_;intro w' hS;obtain ⟨_,_,_,_⟩:=hS;go_simp;first | done | with_reducible rfl)));simp only [Act.put,List.setIfInBounds_toArray,List.set_cons_zero,List.set_cons_succ])
 refine AtC.back ?_
 refine AtN.one 9 (o:=⟨_,_,_,_,_,_⟩) (fun v => ∃ g cap,v = .agg #[.slice (some ⟨g,0,none⟩) d.cols cap,.bool false]) (fun v w' => ∃ g cap,v = .agg #[.slice (some ⟨g,0,none⟩) d.cols cap,.bool false]∧RcAt w' ⟨some ⟨g,0,none⟩,List.replicate d.cols (blankC b),cap,false⟩) (by simp) (by kernel_rfl) rfl (fun v w1 w2 ⟨g,cap,hv,hr⟩ hb => ⟨g,cap,hv,hr.below hb⟩) (StabN.call 62 #[.pointer (some ⟨q.D,0,none⟩),.agg #[.int .i64 b.k,.int .i64 b.n]] _ _ (by rfl) ?_ (fun w' hS => ?_)) ?_
 · intro w'
   go_simp
 · refine (HBK.out w' (HS2.out.post hS.1)).mono ?_
   rintro e w3 ⟨g1,cap,rfl,hc,hb⟩
   exact ⟨_,rfl,⟨⟨g1,cap,rfl⟩,g1,cap,rfl,hc⟩,hb⟩
 rintro v ⟨g1,cap,rfl⟩
 simp only [Act.put,List.setIfInBounds_toArray,List.set_cons_zero,List.set_cons_succ]
 refine AtN.done (by kernel_rfl) (fun w' hS => ?_)
 obtain ⟨⟨hb1,-,-,-⟩,g1',cap',hv',hrc'⟩:=hS
 simp only [Value.agg.injEq,List.cons.injEq,Array.mk.injEq,Value.slice.injEq,Option.some.injEq,Addr.mk.injEq,and_true,true_and] at hv'
 obtain ⟨rfl,rfl⟩:=hv'
 have HI2:=Hd (HIN.out w' ⟨some ⟨g1,0,none⟩,List.replicate d.cols (blankC b),cap,false⟩ (HS2.out.post hb1) hrc' (by simp))
 simp only [List.length_replicate] at HI2
 clear hb1 hrc' y3 c0 c1
 go_wp2_with (first
  | (go_at_call 128;(with_reducible refine HI2.out.mono ?_);rintro e w4 ⟨rfl,hs⟩;have HS4:=Hd hs;clear hs)
  | (go_at_call 80;first
      | (have hpv:=HS5.out;clear hpv;(with_reducible refine (HP2.out _ _ HS5.out).mono ?_);rintro e w6 ⟨rfl,hs⟩;have HS6:=Hd hs;clear hs)
      | ((with_reducible refine (HP1.out _ _ HS4.out).mono ?_);rintro e w5 ⟨rfl,hs⟩;have HS5:=Hd hs;clear hs)))
 go_end0
 exact ⟨rfl,HS6.out.pre HB.out⟩
end
section
variable {base:Nat} {w w1:World} {q:Dv} {d d1:Dc}
set_option maxHeartbeats 3200000 in
theorem rdUp_zero (h:DcO base w q d) (bottom:Nat) (b:Col) (h2:d.base + bottom < d.L.length) (hL:d.L.length ≤ 900000) (ht:d.told.length ≤ 999990) (hroom:d.room ≤ 1000000) :
 Calls Tryz.prog 86 #[.pointer (some ⟨q.D,0,none⟩),.int .i64 (0:Nat),.int .i64 bottom,.agg #[.int .i64 b.k,.int .i64 b.n]] w (DcPost base w q (dcUp d 0 bottom b)):=by
 have hc2:=h.cols2
 have hc3:=h.cols1000
 obtain ⟨W,hW⟩:∃ W,w.alloc (.cells #[.int .i64 b.k,.int .i64 b.n] 32) = W:=⟨_,rfl⟩
 have hb0:Below w.heap.size w W:=by rw [← hW];exact below_allocs (Below.refl _ _) _
 have HN:=Hd (show W.heap[w.heap.size]? = some (.cells #[.int .i64 b.k,.int .i64 b.n] 32 (0,0)) from by rw [← hW];exact hp_new rfl)
 have HB:=Hd hb0
 have HX:w.heap.size ∉ dcX q:=fun hx => by have:=h.lt _ hx;omega
 have H0:=Hd (h.below hb0).res
 obtain ⟨k0,hk0⟩:∃ k0:Nat,k0 = d.base + bottom:=⟨_,rfl⟩
 obtain ⟨ks,hks⟩:∃ ks:Nat,ks = d.base + bottom + 1:=⟨_,rfl⟩
 obtain ⟨nb,hnb⟩:∃ nb:Nat,nb = d.base + 1:=⟨_,rfl⟩
 have hk0I:(d.base:Int) + (bottom:Int) = (k0:Int):=by omega
 have hksI:(k0:Int) + 1 = (ks:Int):=by omega
 have hnbI:(d.base:Int) + 1 = (nb:Int):=by omega
 have hw0:IntKind.i64.wrap (k0:Int) = (k0:Int):=IntWalk.i64_in _ (by omega)
 have hws:IntKind.i64.wrap (ks:Int) = (ks:Int):=IntWalk.i64_in _ (by omega)
 have hwn:IntKind.i64.wrap (nb:Int) = (nb:Int):=IntWalk.i64_in _ (by omega)
 have hwb:IntKind.i64.wrap ((bottom:Int) + 1) = (bottom:Int) + 1:=IntWalk.i64_in _ (by omega)
 have HBK:Hid (∀ w1,Below W.heap.size W w1→Calls Tryz.prog 62 #[.pointer (some ⟨q.D,0,none⟩),.agg #[.int .i64 b.k,.int .i64 b.n]] w1 (BlankPost d.cols b w1)):=Hd (fun w1 hs => blank_then (H0.out.post hs) b)
 have HIN:Hid (∀ w1 (r:Rh),DcRes base W q d w1→RcAt w1 r→r.cs.length = d.cols→Calls Tryz.prog 128 #[.pointer (some ⟨q.D,0,none⟩),.int .i64 ks,.agg #[.slice r.A r.cs.length r.cap,.bool r.cont]] w1 (DcPost base W q (dcInsert d ks (roOf r)))):=Hd (fun w1 r hs hr hrl => insert_then hs ks (by omega) r hr hrl (by omega) (by omega))
 obtain ⟨d2,hd2⟩:∃ d2:Dc,d2 = { dcInsert d ks (blankR d.cols b) with base:=nb }:=⟨_,rfl⟩
 have hl2:d2.L.length = d.L.length + 1:=by rw [hd2];show (d.L.take ks ++ (_ :: d.L.drop ks)).length = _;simp;omega
 have hb2:d2.base = nb:=by rw [hd2]
 have hr2:d2.room = d.room:=by rw [hd2];rfl
 have ht2:d2.told.length = d.told.length + 1:=by rw [hd2];show (d.told ++ _).length = _;simp
 have HST:Hid (∀ w1,DcRes base W q (dcInsert d ks (blankR d.cols b)) w1→DcRes base W q d2 (w1.setCell ⟨q.D,1,none⟩ (.int .i64 nb))):=Hd (fun w1 ⟨q1,e1,g1,hm1,hx1⟩ => by
  have:=DcRes.trans ⟨e1,hm1,hx1⟩ (g1.renum 1 (by decide) (.int .i64 nb) { dcInsert d ks (blankR d.cols b) with base:=nb } rfl rfl rfl g1.gone0 rfl)
  rw [hd2,← e1];exact this)
 have HP1:Hid (∀ w1,DcRes base W q d2 w1→Calls Tryz.prog 80 #[.pointer (some ⟨q.D,0,none⟩),.int .i64 ((bottom:Int) + 1)] w1 (DcPost base W q (dcPart d2 ((bottom:Int) + 1)))):=Hd (fun w1 hs => dpart_then hs (by omega) (by omega) _)
 obtain ⟨p1,p2,p3,p4,p5⟩:=dcPart_len d2 ((bottom:Int) + 1)
 have HG:Hid (dcUp d 0 bottom b = if (dcPart d2 ((bottom:Int) + 1)).room < (dcPart d2 ((bottom:Int) + 1)).base then dcEvict (dcPart d2 ((bottom:Int) + 1)) 1 else dcPart d2 ((bottom:Int) + 1)):=Hd (by rw [hd2,hnb,hks];unfold dcUp;rw [if_pos rfl];rfl)
 rw [HG.out]
 generalize hd3:dcPart d2 ((bottom:Int) + 1) = d3 at HP1 p1 p2 p3 p4 p5 ⊢
 obtain ⟨RS,hRS⟩:∃ RS,RS = (if d3.room < d3.base then dcEvict d3 1 else d3):=⟨_,rfl⟩
 rw [← hRS]
 have HRS:=Hd hRS
 clear hRS
 have hrb:d3.room = d.room∧d3.base = nb:=⟨p5.trans hr2,p2.trans hb2⟩
 have HEV:Hid (∀ w1,DcRes base W q d3 w1→Calls Tryz.prog 91 #[.pointer (some ⟨q.D,0,none⟩),.int .i64 1] w1 (DcPost base W q (dcEvict d3 1))):=Hd (fun w1 hs => by
  have:=evict_then hs 1 (by omega) (by omega) (by omega) (by rw [p3];omega)
  exact this)
 obtain ⟨b0,-⟩:=at_ HN.out 0 _ rfl
 obtain ⟨b1,-⟩:=at_ HN.out 1 _ rfl
 have HB0:=Hd b0
 have HB1:=Hd b1
 have y1:=H0.out.baseC
 have HRB:=Hd hrb
 have hrI:(d.room:Int) ≤ 1000000:=by omega
 clear hb0 h hk0 hks hl2 h2 hd2 hb2 hr2 ht2 p1 p2 p3 p4 p5 hd3 hrb hnb HG
 have HWW:=Hd hW
 clear hW
 go_enter Tryz.func86,Tryz.ntmps86
 go_upto_region 1 with fail
 rw [HWW.out]
 clear HWW
 go_upto_region 2 with fail
 refine wp_region_n 11 (fun w' => Below W.heap.size W w'∧w'.cell? ⟨q.D,1,none⟩ = some (.int .i64 d.base)∧w'.cell? ⟨w.heap.size,0,none⟩ = some (.int .i64 b.k)∧w'.cell? ⟨w.heap.size,1,none⟩ = some (.int .i64 b.n)) (by kernel_rfl) (by kernel_rfl) (fun w1 w2 hS hb => ⟨below_tail hS.1 hb,holda hb hS.2.1,holda hb hS.2.2.1,holda hb hS.2.2.2⟩) ⟨(Below.refl _ _).drew,y1,b0,b1⟩ ?_
 refine AtN.go 0 ?_
 iterate 10 (refine AtC.take (o:=⟨_,_,_,_,_,_⟩) (v:=?_) (by kernel_rfl) rfl (by simp) (by kernel_rfl) (by kernel_rfl) ?_ ?_;rotate_left;(focus (first | exact StabN.skip (by rfl) | (refine StabN.val (by rfl) ?_;intro w' hS;obtain ⟨_,_,_,_⟩:=hS;go_simp;first | done | with_reducible rfl)));simp only [Act.put,List.setIfInBounds_toArray,List.set_cons_zero,List.set_cons_succ])
 refine AtC.back ?_
 refine AtN.one 10 (o:=⟨_,_,_,_,_,_⟩) (fun v => ∃ g cap,v = .agg #[.slice (some ⟨g,0,none⟩) d.cols cap,.bool false]) (fun v w' => ∃ g cap,v = .agg #[.slice (some ⟨g,0,none⟩) d.cols cap,.bool false]∧RcAt w' ⟨some ⟨g,0,none⟩,List.replicate d.cols (blankC b),cap,false⟩) (by simp) (by kernel_rfl) rfl (fun v w1 w2 ⟨g,cap,hv,hr⟩ hb => ⟨g,cap,hv,hr.below hb⟩) (StabN.call 62 #[.pointer (some ⟨q.D,0,none⟩),.agg #[.int .i64 b.k,.int .i64 b.n]] _ _ (by rfl) ?_ (fun w' hS => ?_)) ?_
 · intro w'
   go_simp
 · refine (HBK.out w' hS.1).mono ?_
   rintro e w3 ⟨g1,cap,rfl,hc,hb⟩
   exact ⟨_,rfl,⟨⟨g1,cap,rfl⟩,g1,cap,rfl,hc⟩,hb⟩
 rintro v ⟨g1,cap,rfl⟩
 simp only [Act.put,List.setIfInBounds_toArray,List.set_cons_zero,List.set_cons_succ]
 refine AtN.done (by kernel_rfl) (fun w' hS => ?_)
 obtain ⟨⟨hb1,-,-,-⟩,g1',cap',hv',hrc'⟩:=hS
 simp only [Value.agg.injEq,List.cons.injEq,Array.mk.injEq,Value.slice.injEq,Option.some.injEq,Addr.mk.injEq,and_true,true_and] at hv'
 obtain ⟨rfl,rfl⟩:=hv'
 have HI2:=Hd (HIN.out w' ⟨some ⟨g1,0,none⟩,List.replicate d.cols (blankC b),cap,false⟩ (H0.out.post hb1) hrc' (by simp))
 simp only [List.length_replicate] at HI2
 clear hb1 hrc' y1 b0 b1
 go_upto_region 3 with (go_at_call 128;(with_reducible refine HI2.out.mono ?_);rintro e w4 ⟨rfl,hs⟩;have HS4:=Hd hs;have z1:w4.cell? ⟨q.D,1,none⟩ = some (.int .i64 d.base):=hs.baseC;have z1f:=hs.baseF;clear hs)
 have HS5:=Hd (HST.out w4 HS4.out)
 go_upto_region 4 with fail
 clear z1 z1f
 generalize World.setCell _ _ _ = W5 at HS5 ⊢
 go_upto_region 5 with (go_at_call 80;(with_reducible refine (HP1.out _ HS5.out).mono ?_);rintro e w6 ⟨rfl,hs⟩;have HS6:=Hd hs;have z1:=hs.baseC;have z3:=hs.roomC;rw [HRB.out.2] at z1;rw [HRB.out.1] at z3;clear hs)
 refine wp_region_u 8 (fun w' => Below w6.heap.size w6 w'∧w'.cell? ⟨q.D,1,none⟩ = some (.int .i64 nb)∧w'.cell? ⟨q.D,3,none⟩ = some (.int .i64 d.room)) (by kernel_rfl) (by kernel_rfl) ?_ ?_
 · exact ⟨(Below.refl _ _).drew,z1,z3⟩
 simp only [List.take_succ_cons,List.take_zero,List.drop_succ_cons,List.drop_zero]
 repeat (
  (first
   | refine seqU_skip (by rfl) ?_
   | (refine seqU_val ?_ (by rfl) ?_ ?_;rotate_left;(focus (intro w' hS;obtain ⟨_,_,_⟩:=hS;go_simp;first | done | with_reducible rfl))))
  simp only [Act.put,List.setIfInBounds_toArray,List.set_cons_zero,List.set_cons_succ])
 refine seqU_nil (fun w' hS => ?_)
 have HS7:=Hd (HS6.out.post hS.1)
 clear hS z1 z3
 by_cases hev:d.room < nb
 · have hevI:(d.room:Int) < (nb:Int):=by omega
   go_wp2_with (go_at_call 91;(with_reducible refine (HEV.out _ HS7.out).mono ?_);rintro e w8 ⟨rfl,hs⟩;have HS8:=Hd hs;clear hs)
   go_end0
   rw [HRS.out,if_pos (by rw [HRB.out.1,HRB.out.2];exact hev)]
   exact ⟨rfl,HS8.out.pre HB.out⟩
 · have hevI:¬ (d.room:Int) < (nb:Int):=by omega
   go_wp2
   go_end0
   rw [HRS.out,if_neg (by rw [HRB.out.1,HRB.out.2];exact hev)]
   exact ⟨rfl,HS7.out.pre HB.out⟩
set_option maxHeartbeats 3200000 in
theorem rdUp_any (h:DcO base w q d) (top bottom:Nat) (b:Col) (h1:top ≤ bottom) (h2:d.base + bottom < d.L.length) (hL:d.L.length ≤ 900000) (ht:d.told.length ≤ 999990) (hroom:d.room ≤ 1000000) :
 Calls Tryz.prog 86 #[.pointer (some ⟨q.D,0,none⟩),.int .i64 top,.int .i64 bottom,.agg #[.int .i64 b.k,.int .i64 b.n]] w (DcPost base w q (dcUp d top bottom b)):=by
 rcases Nat.eq_zero_or_pos top with h0 | h0
 · subst h0
   exact rdUp_zero h bottom b h2 hL ht hroom
 have hb0:Below w.heap.size w (w.alloc (.cells #[.int .i64 b.k,.int .i64 b.n] 32)):=below_allocs (Below.refl _ _) _
 have HC:=Hd (rdCut_any (h.below hb0) top bottom b h1 h2 hL ht)
 have HB:=Hd hb0
 have HU:Hid (dcUp d top bottom b = dcCut d top bottom b):=Hd (by unfold dcUp;rw [if_neg (by omega)])
 have h0I:¬ (top:Int) = 0:=by omega
 have h0b:((top:Int) == 0) = false:=beq_eq_false_iff_ne.2 h0I
 rw [HU.out]
 have HN:=Hd (show (w.alloc (.cells #[.int .i64 b.k,.int .i64 b.n] 32)).heap[w.heap.size]? = some (.cells #[.int .i64 b.k,.int .i64 b.n] 32 (0,0)) from hp_new rfl)
 clear h hb0
 go_enter Tryz.func86,Tryz.ntmps86
 go_wp2_with (go_at_call 88;(with_reducible refine HC.out.mono ?_);rintro e w2 ⟨rfl,hs⟩;have HS:=Hd hs;clear hs)
 go_end0
 exact ⟨rfl,HS.out.pre HB.out⟩
theorem rdForget_any (h:DcO base w q d) (h2:d.base < d.L.length) (hL:d.L.length ≤ 900000) (ht:d.told.length ≤ 999990) :
 Calls Tryz.prog 44 #[.pointer (some ⟨q.D,0,none⟩)] w (DcPost base w q (dcForget d)):=by
 have y1:=h.res.baseC
 have H:=Hd h.res
 by_cases h0:0 < d.base
 · have h0I:(0:Int) < (d.base:Int):=by omega
   have HU:Hid (dcForget d = dcPart (dcEvict d d.base) (0:Int)):=Hd (by unfold dcForget;rw [if_pos h0])
   have HEV:=Hd (evict_then H.out d.base (Nat.le_refl _) h2 (by omega) (by omega))
   have HP:Hid (∀ w1,DcRes base w q (dcEvict d d.base) w1→Calls Tryz.prog 80 #[.pointer (some ⟨q.D,0,none⟩),.int .i64 0] w1 (DcPost base w q (dcPart (dcEvict d d.base) (0:Int)))):=Hd (fun w1 hs => dpart_then hs (by show (d.L.drop _).length ≤ _;simp;omega) (by show d.base - d.base ≤ _;omega) 0)
   rw [HU.out]
   clear h
   go_enter Tryz.func44,Tryz.ntmps44
   go_wp2_with (first
    | (go_at_call 91;(with_reducible refine HEV.out.mono ?_);rintro e w2 ⟨rfl,hs⟩;have HS:=Hd hs;clear hs)
    | (go_at_call 80;(with_reducible refine (HP.out _ HS.out).mono ?_);rintro e w3 ⟨rfl,hs⟩;have HS3:=Hd hs;clear hs))
   go_end0
   exact ⟨rfl,HS3.out⟩
 · have h0I:¬ (0:Int) < (d.base:Int):=by omega
   have HU:Hid (dcForget d = d):=Hd (by unfold dcForget;rw [if_neg h0])
   rw [HU.out]
   clear h
   go_enter Tryz.func44,Tryz.ntmps44
   go_wp2
   go_end0
   exact ⟨rfl,H.out⟩
end
section
variable {base:Nat} {w w1:World} {q:Dv} {d d1:Dc}
theorem dcIn_row (h:DcO base w q d) {y:Int} (hin:dcIn d y = true):∃ (k:Nat) (r:Rh),y = (k:Int)∧q.S[d.base + k]? = some r∧RcAt w r∧r.cs.length = d.cols:=by
 have hy:0 ≤ y∧y < dcRows d:=by unfold dcIn at hin;simpa using hin
 have hl:=h.len
 unfold dcRows at hy
 have hlt:d.base + y.toNat < q.S.length:=by omega
 exact ⟨y.toNat,q.S[d.base + y.toNat],by omega,List.getElem?_eq_getElem hlt,h.rows _ (List.getElem_mem hlt)⟩
set_option maxHeartbeats 3200000 in
theorem rdErase_any (h:DcO base w q d) (y x z:Int) (b:Col) (hbs:d.base ≤ d.L.length) (hL:d.L.length ≤ 900000) (hy1:-9223372036854775808 ≤ y) :
 Calls Tryz.prog 35 #[.pointer (some ⟨q.D,0,none⟩),.int .i64 y,.int .i64 x,.int .i64 z,.agg #[.int .i64 b.k,.int .i64 b.n]] w (DcPost base w q (dcErase d y x z b)):=by
 have hc2:=h.cols2
 have hc3:=h.cols1000
 obtain ⟨W,hW⟩:∃ W,w.alloc (.cells #[.int .i64 b.k,.int .i64 b.n] 32) = W:=⟨_,rfl⟩
 have hb0:Below w.heap.size w W:=by rw [← hW];exact below_allocs (Below.refl _ _) _
 have HN:=Hd (show W.heap[w.heap.size]? = some (.cells #[.int .i64 b.k,.int .i64 b.n] 32 (0,0)) from by rw [← hW];exact hp_new rfl)
 have HB:=Hd hb0
 have HX:w.heap.size ∉ dcX q:=fun hx => by have:=h.lt _ hx;omega
 have h0:=h.below hb0
 have H0:=Hd h0.res
 have HIN:=Hd (rdIn_any h0 (by omega) hbs y)
 have HWW:=Hd hW
 clear hW
 cases hin:dcIn d y with
 | false =>
   rw [hin] at HIN
   have HC:=Hd (show dcErase d y x z b = d from by unfold dcErase;rw [hin];rfl)
   rw [HC.out]
   clear h h0 hb0 hc2 hc3
   go_enter Tryz.func35,Tryz.ntmps35
   go_upto_region 1 with fail
   rw [HWW.out]
   clear HWW
   go_wp2_with (go_at_call 28;refine HIN.out.mono ?_;rintro e w1 ⟨rfl,hb⟩;have HB1:=Hd hb;clear hb)
   go_end0
   exact ⟨rfl,(H0.out.post HB1.out).pre HB.out⟩
 | true =>
   rw [hin] at HIN
   obtain ⟨k,r,rfl,hr,hrc,hrl⟩:=dcIn_row h0 hin
   have hkL:d.base + k < d.L.length:=by have:=(List.getElem?_eq_some_iff.1 hr).1;rwa [h0.len] at this
   have HC:Hid (dcErase d k x z b = if x < d.cols∧(d.cols:Int) ≤ z then (if x < 1 then dcPart (dcPart (dcRow d k (fun l => eraseL l x z b)) ((k:Int) + 1)) k else dcPart (dcRow d k (fun l => eraseL l x z b)) ((k:Int) + 1)) else dcRow d k (fun l => eraseL l x z b)):=Hd (by unfold dcErase;rw [hin,if_pos rfl])
   have hdr:dcRow d k (fun l => eraseL l x z b) = { d with L:=d.L.modify (d.base + k) (fun r => { r with cs:=eraseL r.cs x z b }) }:=by unfold dcRow;rw [hin,if_pos rfl,Int.toNat_natCast]
   generalize dcErase d k x z b = RES at HC ⊢
   have HOF:Hid (∀ w1,Below W.heap.size W w1→Calls Tryz.prog 31 #[.pointer (some ⟨q.D,0,none⟩),.int .i64 k] w1 fun e w' => e = .returned (.slice r.A r.cs.length r.cap)∧Below w1.heap.size w1 w'):=Hd (fun w1 hb => rdOf_any (h0.below hb) k hr (by omega))
   have HER:Hid (∀ w1,Below W.heap.size W w1→Calls Tryz.prog 79 #[.slice r.A r.cs.length r.cap,.int .i64 x,.int .i64 z,.agg #[.int .i64 b.k,.int .i64 b.n]] w1 (WithPost (eraseL r.cs x z b) w1)):=Hd (fun w1 hb => rErase_any r.A r.cs r.cap x z b w1 (hrc.below hb).2.2.1 (by omega) hrc.1)
   have HCE:Hid (∀ (w1:World) (g cap:Nat),Below W.heap.size W w1→RcAt w1 ⟨some ⟨g,0,none⟩,eraseL r.cs x z b,cap,r.cont⟩→Calls Tryz.prog 29 #[.pointer (some ⟨q.D,0,none⟩),.int .i64 k,.slice (some ⟨g,0,none⟩) r.cs.length cap] w1 (DcPost base W q (dcRow d k (fun l => eraseL l x z b)))):=Hd (fun w1 g cap hb hc => (rdCells_any (h0.below hb) k hr (by omega) (some ⟨g,0,none⟩) cap (fun l => eraseL l x z b) (eraseL_len _ _ _ _) hc).mono (fun e w2 hh => by rw [hdr];exact ⟨hh.1,hh.2.pre hb⟩))
   have hln:∀ (e:Dc),e.L.length = d.L.length→e.base = d.base→e.L.length ≤ 1000000∧e.base ≤ e.L.length:=fun e h1 h2 => by omega
   have hdl:(dcRow d k (fun l => eraseL l x z b)).L.length = d.L.length∧(dcRow d k (fun l => eraseL l x z b)).base = d.base∧(dcRow d k (fun l => eraseL l x z b)).cols = d.cols:=by rw [hdr];exact ⟨by simp,rfl,rfl⟩
   generalize dcRow d k (fun l => eraseL l x z b) = d1 at HC HCE hdr hdl
   have HP1:Hid (∀ w1,DcRes base W q d1 w1→Calls Tryz.prog 80 #[.pointer (some ⟨q.D,0,none⟩),.int .i64 ((k:Int) + 1)] w1 (DcPost base W q (dcPart d1 ((k:Int) + 1)))):=Hd (fun w1 hs => dpart_then hs (by omega) (by omega) _)
   have HP2:Hid (∀ w1,DcRes base W q (dcPart d1 ((k:Int) + 1)) w1→Calls Tryz.prog 80 #[.pointer (some ⟨q.D,0,none⟩),.int .i64 k] w1 (DcPost base W q (dcPart (dcPart d1 ((k:Int) + 1)) k))):=Hd (fun w1 hs => by
    obtain ⟨p1,p2,-⟩:=dcPart_len d1 ((k:Int) + 1)
    exact dpart_then hs (by omega) (by omega) _)
   have HRC:=Hd (And.intro hrc.1 hrc.2.1)
   have HDC:=Hd hdl.2.2
   have hwk:IntKind.i64.wrap ((k:Int) + 1) = (k:Int) + 1:=IntWalk.i64_in _ (by omega)
   obtain ⟨b0,-⟩:=at_ HN.out 0 _ rfl
   obtain ⟨b1,-⟩:=at_ HN.out 1 _ rfl
   have HB0:=Hd b0
   have HB1:=Hd b1
   clear h h0 hb0 hin hr hrc hdr hdl hln hbs hrl hc2 hc3 hkL hy1
   go_enter Tryz.func35,Tryz.ntmps35
   go_upto_region 1 with fail
   rw [HWW.out]
   clear HWW b0 b1
   go_upto_region 2 with (go_at_call 28;refine HIN.out.mono ?_;rintro e w1 ⟨rfl,hb⟩;have HBI:=Hd hb;have b0:=holda hb HB0.out;have b1:=holda hb HB1.out;clear hb)
   refine wp_region_n 9 (fun w' => Below w1.heap.size w1 w'∧w'.cell? ⟨w.heap.size,0,none⟩ = some (.int .i64 b.k)∧w'.cell? ⟨w.heap.size,1,none⟩ = some (.int .i64 b.n)) (by kernel_rfl) (by kernel_rfl) (fun w1 w2 hS hb => ⟨below_tail hS.1 hb,holda hb hS.2.1,holda hb hS.2.2⟩) ⟨(Below.refl _ _).drew,b0,b1⟩ ?_
   refine AtN.go 0 ?_
   iterate 4 (refine AtC.take (o:=⟨_,_,_,_,_,_⟩) (v:=?_) (by kernel_rfl) rfl (by simp) (by kernel_rfl) (by kernel_rfl) ?_ ?_;rotate_left;(focus (first | exact StabN.skip (by rfl) | (refine StabN.val (by rfl) ?_;intro w' hS;obtain ⟨_,_,_⟩:=hS;go_simp;first | done | with_reducible rfl)));simp only [Act.put,List.setIfInBounds_toArray,List.set_cons_zero,List.set_cons_succ])
   refine AtC.back ?_
   refine AtN.go 5 ?_
   iterate 3 (refine AtC.take (o:=⟨_,_,_,_,_,_⟩) (v:=?_) (by kernel_rfl) rfl (by simp) (by kernel_rfl) (by kernel_rfl) ?_ ?_;rotate_left;(focus (first | exact StabN.skip (by rfl) | (refine StabN.val (by rfl) ?_;intro w' hS;obtain ⟨_,_,_⟩:=hS;go_simp;first | done | with_reducible rfl)));simp only [Act.put,List.setIfInBounds_toArray,List.set_cons_zero,List.set_cons_succ])
   refine AtC.back ?_
   refine AtN.take 4 (o:=⟨_,_,_,_,_,_⟩) (v:=.slice r.A r.cs.length r.cap) (by kernel_rfl) rfl (by simp) (by kernel_rfl) (by kernel_rfl) (StabN.call1 31 #[.pointer (some ⟨q.D,0,none⟩),.int .i64 k] (.slice r.A r.cs.length r.cap) (by rfl) (by intro w';go_simp;done) (fun w' hS => HOF.out _ (below_tail HBI.out hS.1))) ?_
   simp only [Act.put,List.setIfInBounds_toArray,List.set_cons_zero,List.set_cons_succ]
   refine AtN.one 8 (o:=⟨_,_,_,_,_,_⟩) (fun v => ∃ g cap,v = .slice (some ⟨g,0,none⟩) r.cs.length cap) (fun v w' => ∃ g cap,v = .slice (some ⟨g,0,none⟩) r.cs.length cap∧RcAt w' ⟨some ⟨g,0,none⟩,eraseL r.cs x z b,cap,r.cont⟩) (by simp) (by kernel_rfl) rfl (fun v w1 w2 ⟨g,cap,hv,hr⟩ hb => ⟨g,cap,hv,hr.below hb⟩) (StabN.call 79 #[.slice r.A r.cs.length r.cap,.int .i64 x,.int .i64 z,.agg #[.int .i64 b.k,.int .i64 b.n]] _ _ (by rfl) ?_ (fun w' hS => ?_)) ?_
   · intro w'
     go_simp
   · refine (HER.out w' (below_tail HBI.out hS.1)).mono ?_
     rintro e w3 ⟨g1,cap,rfl,hc,hb⟩
     rw [eraseL_len]
     exact ⟨_,rfl,⟨⟨g1,cap,rfl⟩,g1,cap,rfl,.of_own hc (by rw [eraseL_len];exact HRC.out.1) (HRC.out.2.erase _ _ _) _⟩,hb⟩
   rintro v ⟨g1,cap,rfl⟩
   simp only [Act.put,List.setIfInBounds_toArray,List.set_cons_zero,List.set_cons_succ]
   refine AtN.done (by kernel_rfl) (fun w' hS => ?_)
   obtain ⟨⟨hb1,-,-⟩,g1',cap',hv',hrc'⟩:=hS
   simp only [Value.slice.injEq,Option.some.injEq,Addr.mk.injEq,and_true,true_and] at hv'
   obtain ⟨rfl,rfl⟩:=hv'
   have HCE2:=Hd (HCE.out w' g1 cap (below_tail HBI.out hb1) hrc')
   clear hb1 hrc' b0 b1
   go_upto_region 3 with (go_at_call 29;(with_reducible refine HCE2.out.mono ?_);rintro e w4 ⟨rfl,hs⟩;have HS4:=Hd hs;have z2:=hs.colsC;rw [HDC.out] at z2;clear hs)
   by_cases hl1:x < d.cols
   rotate_left
   · go_wp2
     go_end0
     rw [HC.out,if_neg (by omega)]
     exact ⟨rfl,HS4.out.pre HB.out⟩
   by_cases hl2:(d.cols:Int) ≤ z
   rotate_left
   · have hl2':¬ z ≥ (d.cols:Int):=hl2
     go_wp2
     go_end0
     rw [HC.out,if_neg (by omega)]
     exact ⟨rfl,HS4.out.pre HB.out⟩
   by_cases hl3:x < 1
   · go_wp2_with (go_at_call 80;first
      | (have hpv:=HS5.out;clear hpv;(with_reducible refine (HP2.out _ HS5.out).mono ?_);rintro e w6 ⟨rfl,hs⟩;have HS6:=Hd hs;clear hs)
      | ((with_reducible refine (HP1.out _ HS4.out).mono ?_);rintro e w5 ⟨rfl,hs⟩;have HS5:=Hd hs;clear hs))
     go_end0
     rw [HC.out,if_pos ⟨by omega,hl2⟩,if_pos hl3]
     exact ⟨rfl,HS6.out.pre HB.out⟩
   · go_wp2_with (go_at_call 80;((with_reducible refine (HP1.out _ HS4.out).mono ?_);rintro e w5 ⟨rfl,hs⟩;have HS5:=Hd hs;clear hs))
     go_end0
     rw [HC.out,if_pos ⟨by omega,hl2⟩,if_neg (by omega)]
     exact ⟨rfl,HS5.out.pre HB.out⟩
theorem scroll_do {rows cols room:Nat} {g:Pg} (hg:PgInv rows cols room g) (hrows:rows ≤ 1000) (hroom:room ≤ 100000) (ht:g.told.length ≤ 900000) (b:Col) (t bo:Nat) (htb:t ≤ bo) (hbo:bo < g.scr.length) (how fid:Nat) (F:Nat→Nat→Pg→Pg)
 (hhow:(how = 0∧fid = 86∧F = fun t bo g => upP g t bo b) ∨ (how = 1∧fid = 87∧F = fun t bo g => downP g t bo b) ∨ (how = 2∧fid = 88∧F = fun t bo g => cutP g t bo b))
 (i:Nat) (hi:i ≤ 1000) (hs:DcRes base w q (dcOf (iterP (F t bo) i g)) w1) :
 Calls Tryz.prog fid #[.pointer (some ⟨q.D,0,none⟩),.int .i64 t,.int .i64 bo,.agg #[.int .i64 b.k,.int .i64 b.n]] w1 (DcPost base w q (dcOf (iterP (F t bo) (i + 1) g))):=by
 have hC:Calm F:=by
  rcases hhow with ⟨-,-,rfl⟩ | ⟨-,-,rfl⟩ | ⟨-,-,rfl⟩
  · exact calm_up b
  · exact calm_down b
  · exact calm_cut b
 have hP:∀ g',PgInv rows cols room g'→PgInv rows cols room (F t bo g'):=fun g' h' => by
  have hbo':bo < g'.scr.length:=by have:=hg.hrows;have:=h'.hrows;omega
  rcases hhow with ⟨-,-,rfl⟩ | ⟨-,-,rfl⟩ | ⟨-,-,rfl⟩
  · exact h'.up htb hbo' b
  · exact h'.down htb hbo' b
  · exact h'.cut htb hbo' b
 have hg':=PgInv.iter (f:=F t bo) hP i hg
 obtain ⟨hl,htl⟩:=iter_calm hC htb i g hbo
 show Calls _ _ _ _ (DcPost base w q (dcOf (F t bo (iterP (F t bo) i g))))
 generalize iterP (F t bo) i g = g1 at hs hg' hl htl
 have hr1:=hg'.hrows
 have hr2:=hg'.hroom
 have hr3:=hg'.hhist
 have hb1:bo < g1.scr.length:=by omega
 have hL:(dcOf g1).L.length ≤ 900000:=by show (g1.hist ++ g1.scr).length ≤ _;simp;omega
 have h2:(dcOf g1).base + bo < (dcOf g1).L.length:=by show g1.hist.length + bo < (g1.hist ++ g1.scr).length;simp;omega
 have htt:(dcOf g1).told.length ≤ 999990:=by show g1.told.length ≤ _;omega
 rcases hhow with ⟨-,rfl,rfl⟩ | ⟨-,rfl,rfl⟩ | ⟨-,rfl,rfl⟩
 · show Calls _ _ _ _ (DcPost base w q (dcOf (upP g1 t bo b)))
   rw [← dcOf_up g1 t bo b htb hb1 (by omega)]
   exact dc_then hs fun q1 e h => by rw [← e];exact rdUp_any h t bo b htb h2 hL htt (by show g1.room ≤ _;omega)
 · show Calls _ _ _ _ (DcPost base w q (dcOf (downP g1 t bo b)))
   rw [← dcOf_down g1 t bo b htb hb1]
   exact dc_then hs fun q1 e h => by rw [← e];exact rdDown_any h t bo b htb h2 hL htt
 · show Calls _ _ _ _ (DcPost base w q (dcOf (cutP g1 t bo b)))
   rw [← dcOf_cut g1 t bo b htb hb1]
   exact dc_then hs fun q1 e h => by rw [← e];exact rdCut_any h t bo b htb h2 hL htt
set_option maxHeartbeats 3200000 in
theorem rdScroll_any {rows cols room:Nat} {g:Pg} (h:DcO base w q (dcOf g)) (hg:PgInv rows cols room g) (hrows:rows ≤ 1000) (hroom:room ≤ 100000) (ht:g.told.length ≤ 900000) (top bottom n:Int) (b:Col) (how fid:Nat) (F:Nat→Nat→Pg→Pg)
 (hhow:(how = 0∧fid = 86∧F = fun t bo g => upP g t bo b) ∨ (how = 1∧fid = 87∧F = fun t bo g => downP g t bo b) ∨ (how = 2∧fid = 88∧F = fun t bo g => cutP g t bo b)) :
 Calls Tryz.prog 41 #[.pointer (some ⟨q.D,0,none⟩),.int .i64 top,.int .i64 bottom,.int .i64 n,.agg #[.int .i64 b.k,.int .i64 b.n],.int .i64 how] w (DcPost base w q (dcOf (timesP g top bottom n F))):=by
 obtain ⟨W,hW⟩:∃ W,w.alloc (.cells #[.int .i64 b.k,.int .i64 b.n] 32) = W:=⟨_,rfl⟩
 have hb0:Below w.heap.size w W:=by rw [← hW];exact below_allocs (Below.refl _ _) _
 have HN:=Hd (show W.heap[w.heap.size]? = some (.cells #[.int .i64 b.k,.int .i64 b.n] 32 (0,0)) from by rw [← hW];exact hp_new rfl)
 have HB:=Hd hb0
 have HX:w.heap.size ∉ dcX q:=fun hx => by have:=h.lt _ hx;omega
 have h0:=h.below hb0
 have H0:=Hd h0.res
 have hr1:=hg.hrows
 have hr2:=hg.hroom
 have hr3:=hg.hhist
 have hL:(dcOf g).L.length ≤ 1000000:=by show (g.hist ++ g.scr).length ≤ _;simp;omega
 have hbs:(dcOf g).base ≤ (dcOf g).L.length:=by show g.hist.length ≤ (g.hist ++ g.scr).length;simp
 have HI1:=Hd (rdIn_any h0 hL hbs top)
 have HI2:=Hd (fun w1 hb => rdIn_any (h0.below (w':=w1) hb) hL hbs bottom)
 rw [dcOf_in] at HI1
 have HI2:Hid (∀ w1,Below W.heap.size W w1→Calls Tryz.prog 28 #[.pointer (some ⟨q.D,0,none⟩),.int .i64 bottom] w1 fun e w' => e = .returned (.bool (inP g bottom))∧Below w1.heap.size w1 w'):=Hd (fun w1 hb => by have:=HI2.out w1 hb;rwa [dcOf_in] at this)
 have HIT:=Hd (show inP g top = decide (0 ≤ top∧top < g.scr.length) from by unfold inP;rw [Bool.decide_and])
 have HIB:=Hd (show inP g bottom = decide (0 ≤ bottom∧bottom < g.scr.length) from by unfold inP;rw [Bool.decide_and])
 have HV:=Hd (show timesP g top bottom n F = if inP g top && inP g bottom && decide (top ≤ bottom) then iterP (F top.toNat bottom.toNat) (min n.toNat (bottom - top + 1).toNat) g else g from rfl)
 have HWW:=Hd hW
 have HHOW:=Hd hhow
 have hhr:how = 0 ∨ how = 1 ∨ how = 2:=by omega
 generalize timesP g top bottom n F = RES at HV ⊢
 generalize inP g top = bt at HI1 HIT HV
 generalize inP g bottom = bb at HI2 HIB HV
 obtain ⟨b0,-⟩:=at_ HN.out 0 _ rfl
 obtain ⟨b1,-⟩:=at_ HN.out 1 _ rfl
 have HB0:=Hd b0
 have HB1:=Hd b1
 clear h h0 hW hb0 hL hbs hhow b0 b1
 cases bt with
 | false =>
   have HE:Hid (RES = g):=Hd (by rw [HV.out];rfl)
   go_enter Tryz.func41,Tryz.ntmps41
   go_upto_region 1 with fail
   rw [HWW.out]
   clear HWW
   go_wp2_with (go_at_call 28;refine HI1.out.mono ?_;rintro e w1 ⟨rfl,hb⟩;have HB2:=Hd hb;clear hb)
   go_end0
   rw [HE.out]
   exact ⟨rfl,(H0.out.post HB2.out).pre HB.out⟩
 | true =>
   cases bb with
   | false =>
     have HE:Hid (RES = g):=Hd (by rw [HV.out];rfl)
     go_enter Tryz.func41,Tryz.ntmps41
     go_upto_region 1 with fail
     rw [HWW.out]
     clear HWW
     go_wp2_with (go_at_call 28;first
      | (have hpv:=HB2.out;clear hpv;(with_reducible refine (HI2.out _ HB2.out).mono ?_);rintro e w2 ⟨rfl,hb⟩;have HB3:=Hd (below_tail HB2.out hb);clear hb)
      | ((with_reducible refine HI1.out.mono ?_);rintro e w1 ⟨rfl,hb⟩;have HB2:=Hd hb;clear hb))
     go_end0
     rw [HE.out]
     exact ⟨rfl,(H0.out.post HB3.out).pre HB.out⟩
   | true =>
     have hti:0 ≤ top∧top < g.scr.length:=by have:=HIT.out;simpa using this
     have hbi:0 ≤ bottom∧bottom < g.scr.length:=by have:=HIB.out;simpa using this
     by_cases htb:top ≤ bottom
     rotate_left
     · have htb':bottom < top:=by omega
       have HE:Hid (RES = g):=Hd (by rw [HV.out,if_neg (by simp;omega)])
       clear hti hbi
       go_enter Tryz.func41,Tryz.ntmps41
       go_upto_region 1 with fail
       rw [HWW.out]
       clear HWW
       go_wp2_with (go_at_call 28;first
        | (have hpv:=HB2.out;clear hpv;(with_reducible refine (HI2.out _ HB2.out).mono ?_);rintro e w2 ⟨rfl,hb⟩;have HB3:=Hd (below_tail HB2.out hb);clear hb)
        | ((with_reducible refine HI1.out.mono ?_);rintro e w1 ⟨rfl,hb⟩;have HB2:=Hd hb;clear hb))
       go_end0
       rw [HE.out]
       exact ⟨rfl,(H0.out.post HB3.out).pre HB.out⟩
     · obtain ⟨t,rfl⟩:∃ t:Nat,top = (t:Int):=⟨top.toNat,by omega⟩
       obtain ⟨bo,rfl⟩:∃ bo:Nat,bottom = (bo:Int):=⟨bottom.toNat,by omega⟩
       have htb1:t ≤ bo:=by omega
       have hbo:bo < g.scr.length:=by omega
       have htb':¬ (bo:Int) < (t:Int):=by omega
       have hdt:decide (bo < t) = false:=decide_eq_false (by omega)
       obtain ⟨df,hdf⟩:∃ df:Nat,df = bo - t:=⟨_,rfl⟩
       have hdfI:(bo:Int) - (t:Int) = (df:Int):=by omega
       have hwd:IntKind.i64.wrap (df:Int) = (df:Int):=IntWalk.i64_in _ (by omega)
       obtain ⟨m,hm⟩:∃ m:Nat,m = min n.toNat (df + 1):=⟨_,rfl⟩
       have HE:Hid (RES = iterP (F t bo) m g):=Hd (by rw [HV.out,if_pos (by simp;omega),Int.toNat_natCast,Int.toNat_natCast,hm,hdfI,show ((df:Int) + 1).toNat = df + 1 by omega])
       have hm1k:m ≤ 1000:=by omega
       have HDO:Hid (∀ (i:Nat) (w1:World),i < m→DcRes base W q (dcOf (iterP (F t bo) i g)) w1→Calls Tryz.prog fid #[.pointer (some ⟨q.D,0,none⟩),.int .i64 t,.int .i64 bo,.agg #[.int .i64 b.k,.int .i64 b.n]] w1 (DcPost base W q (dcOf (iterP (F t bo) (i + 1) g)))):=Hd (fun i w1 hi hs => scroll_do hg hrows hroom ht b t bo htb1 hbo how fid F HHOW.out i (by omega) hs)
       have HM:=Hd hm
       clear hti hbi hdf hm htb1 hbo HV hg
       have hfid:(how = 0∧fid = 86) ∨ (how = 1∧fid = 87) ∨ (how = 2∧fid = 88):=by
        rcases HHOW.out with ⟨a,b,-⟩ | ⟨a,b,-⟩ | ⟨a,b,-⟩
        · exact .inl ⟨a,b⟩
        · exact .inr (.inl ⟨a,b⟩)
        · exact .inr (.inr ⟨a,b⟩)
       clear hhr HHOW
       rcases hfid with ⟨rfl,rfl⟩ | ⟨rfl,rfl⟩ | ⟨rfl,rfl⟩
       all_goals
        go_enter Tryz.func41,Tryz.ntmps41
        go_upto_region 1 with fail
        rw [HWW.out]
        clear HWW
        go_wp2_with (go_at_call 28;first
         | (have hpv:=HB2.out;clear hpv;(with_reducible refine (HI2.out _ HB2.out).mono ?_);rintro e w2 ⟨rfl,hb⟩;have HB3:=Hd (below_tail HB2.out hb);clear hb)
         | ((with_reducible refine HI1.out.mono ?_);rintro e w1 ⟨rfl,hb⟩;have HB2:=Hd hb;clear hb))
        go_loopw [12] (fun s12 wr => ∃ i:Nat,s12 = .int .i64 i∧i ≤ m∧DcRes base W q (dcOf (iterP (F t bo) i g)) wr) (fun s12 _ => m - (intOf s12).toNat)
        case atStart => exact ⟨0,rfl,Nat.zero_le _,H0.out.post HB3.out⟩
        case round =>
         obtain ⟨i,rfl,hi,hs⟩:=hrel
         have HS:=Hd hs
         have b0:=hs.hold HX HB0.out
         have b1:=hs.hold HX HB1.out
         clear hs
         have hik:(i:Int) ≤ 1000:=by omega
         by_cases hlt:i < m
         · have hc1:(i:Int) < n:=by have:=HM.out;omega
           have hc2:(i:Int) ≤ (df:Int):=by have:=HM.out;omega
           go_wp2_with (first
            | (go_at_call 86;(with_reducible refine (HDO.out _ _ hlt HS.out).mono ?_);rintro e w4 ⟨rfl,hs⟩;have HS4:=Hd hs;clear hs)
            | (go_at_call 87;(with_reducible refine (HDO.out _ _ hlt HS.out).mono ?_);rintro e w4 ⟨rfl,hs⟩;have HS4:=Hd hs;clear hs)
            | (go_at_call 88;(with_reducible refine (HDO.out _ _ hlt HS.out).mono ?_);rintro e w4 ⟨rfl,hs⟩;have HS4:=Hd hs;clear hs))
           go_roundw
           case rel => exact ⟨i + 1,by go_num,by omega,HS4.out⟩
           case measure => simp [intOf];omega
         · by_cases hc1:(i:Int) < n
           · have hc2:¬ (i:Int) ≤ (df:Int):=by have:=HM.out;omega
             go_wp2
             go_end0
             rw [HE.out,show m = i by omega]
             exact ⟨rfl,HS.out.pre HB.out⟩
           · go_wp2
             go_end0
             rw [HE.out,show m = i by omega]
             exact ⟨rfl,HS.out.pre HB.out⟩
end
section
variable {base:Nat} {w w1:World} {q:Dv} {d d1:Dc}
theorem DcO.grown {vs':Value} {r:Rh} (h:DcO base w q d) (ho:w1.ownsRow base 50 2 vs' (q.S.length + 1) (flat encRh (q.S ++ [r]))) (hm:Mod q.vl.ownBlock.toList w w1) (hv:∀ b,vs'.ownBlock = some b→q.vl.ownBlock = some b ∨ w.heap.size ≤ b)
 (hr:RcAt w1 r) (hrl:r.cs.length = d.cols):DcRes base w q { d with L:=d.L ++ [roOf r] } (w1.setCell ⟨q.D,0,none⟩ vs'):=by
 have hvs:∀ b,q.vl.ownBlock = some b→∃ cur:Array Value,w.heap[b]? = some (.cells cur 50 (0,0)):=fun b hb => own_block h.own hb
 have hPv:q.D ∉ q.vl.ownBlock.toList:=fun hb => by
  obtain ⟨cur,hc⟩:=hvs _ (Option.mem_toList.1 hb)
  exact block_ne h.blk hc (by decide) rfl
 have hPl:=(Array.getElem?_eq_some_iff.1 h.blk).1
 have hm2:Mod (q.D :: q.vl.ownBlock.toList) w (w1.setCell ⟨q.D,0,none⟩ vs'):=(hm.mono (fun b hb => by simp [Option.mem_toList.1 hb])).setCell (a:=⟨q.D,0,none⟩) (.inl (by simp)) _
 have hX:NoCel w (q.D :: q.vl.ownBlock.toList):=fun b hb cs f he => by
  refine h.nocel b ?_ cs f he
  rcases List.mem_cons.1 hb with rfl | hb
  · simp [dcX]
  · simp [dcX,Option.mem_toList.1 hb]
 have hblk:=whole_set (cs:=[q.vl,.int .i64 d.base,.int .i64 d.cols,.int .i64 d.room,.int .u64 (d.gone % 18446744073709551616),q.vt]) ((hm.block q.D hPl hPv).trans h.blk) 0 vs' (cs':=[vs',.int .i64 d.base,.int .i64 d.cols,.int .i64 d.room,.int .u64 (d.gone % 18446744073709551616),q.vt]) rfl
 have hM1:Mod [q.D] w1 (w1.setCell ⟨q.D,0,none⟩ vs'):=(Mod.refl [q.D] w1).setCell (a:=⟨q.D,0,none⟩) (.inl (by simp)) vs'
 have hN1:NoCel w1 [q.D]:=fun b hb cs f he => by
  rw [List.mem_singleton.1 hb,hm.block q.D hPl hPv] at he
  exact block_ne h.blk he (by decide) rfl
 refine ⟨{ q with vl:=vs',S:=q.S ++ [r] },rfl,⟨hblk,h.hb,?_,owns_mod h.told hm2 (fun b hb hx => ?_),?_,fun x hx => ?_,h.cols2,h.cols1000,h.gone0⟩,hm2.mono (fun b hb => ?_),fun b hb => ?_⟩
 · have:=owns_mod ho hM1 (fun b hb hx => by
    have e:=List.mem_singleton.1 hx
    rcases hv b hb with h1 | h1
    · exact hPv (by rw [← e];simp [h1])
    · omega)
   simpa using this
 · obtain ⟨cur,hc⟩:=own_block h.told hb
   rcases List.mem_cons.1 hx with rfl | hx
   · exact block_ne h.blk hc (by decide) rfl
   · obtain ⟨cur2,hc2⟩:=hvs _ (Option.mem_toList.1 hx)
     exact block_ne hc2 hc (by decide) rfl
 · show (q.S ++ [r]).map roOf = d.L ++ [roOf r]
   rw [List.map_append,h.rl];rfl
 · rcases List.mem_append.1 (show x ∈ q.S ++ [r] from hx) with hx | hx
   · exact ⟨(h.rows x hx).1.mod hm2 hX,(h.rows x hx).2⟩
   · rw [List.mem_singleton.1 hx]
     exact ⟨hr.mod hM1 hN1,hrl⟩
 · rcases List.mem_cons.1 hb with rfl | hb
   · simp [dcX]
   · simp [dcX,Option.mem_toList.1 hb]
 · rcases List.mem_cons.1 hb with rfl | hb
   · exact .inl (by simp [dcX])
   rcases List.mem_append.1 hb with hb | hb
   · rcases hv b (Option.mem_toList.1 hb) with h1 | h1
     · exact .inl (by simp [dcX,h1])
     · exact .inr h1
   · exact .inl (by simp [dcX,Option.mem_toList.1 hb])
def newD (cols lines i:Nat):Dc:=⟨List.replicate i (blankR cols zeroCol),0,cols,lines,0,[]⟩
def NewDPost (cols lines rows:Nat) (w:World) (e:Ending) (w':World):Prop :=
 ∃ q,e = .returned (.pointer (some ⟨q.D,0,none⟩))∧DcO w.heap.size w' q (newD cols lines rows)∧Below w.heap.size w w'
set_option maxHeartbeats 3200000 in
theorem rNew_any (rows cols lines:Nat) (w:World) (hr2:rows ≤ 1000) (hc1:2 ≤ cols) (hc2:cols ≤ 1000) (hl:lines ≤ 100000) :
 Calls Tryz.prog 27 #[.int .i64 rows,.int .i64 cols,.int .i64 lines] w (NewDPost cols lines rows w):=by
 obtain ⟨j0,hj,gz0,gz1,gz2⟩:=info_parts info_rowz
 have hc3:=hc2
 obtain ⟨q,hq⟩:∃ q:Dv,q = ⟨w.heap.size,.slice none 0 0,.slice none 0 0,[]⟩:=⟨_,rfl⟩
 obtain ⟨W,hW⟩:∃ W,w.alloc (.cells #[.slice none 0 0,.int .i64 0,.int .i64 cols,.int .i64 lines,.int .u64 0,.slice none 0 0] 45) = W:=⟨_,rfl⟩
 have hb0:Below w.heap.size w W:=by rw [← hW];exact below_allocs (Below.refl _ _) _
 have HB:=Hd hb0
 have h0:DcO w.heap.size W q (newD cols lines 0):=by
  rw [hq]
  refine ⟨by rw [← hW];exact hp_new rfl,Nat.le_refl _,World.ownsRow_nil _ _ _ _,World.ownsRow_nil _ _ _ _,rfl,(fun r hr => by cases hr),hc1,hc2,Int.le_refl _⟩
 have HQD:=Hd (show q.D = w.heap.size from by rw [hq])
 have H0:=Hd h0.res
 have hdx:∀ x ∈ dcX q,w.heap.size ≤ x:=by
  rw [hq];intro x hx
  simp [dcX,Value.ownBlock] at hx
  omega
 have HDX:=Hd hdx
 have HW:=Hd hW
 clear h0 hW hb0 hq hdx
 go_enter Tryz.func27,Tryz.ntmps27
 go_upto_region 2 with fail
 rw [HW.out,← HQD.out]
 go_wp2_with fail
 go_loopw [8] (fun s8 wr => ∃ i:Nat,s8 = .int .i64 i∧i ≤ rows∧DcRes w.heap.size W q (newD cols lines i) wr) (fun s8 _ => rows - (intOf s8).toNat)
 case atStart => exact ⟨0,rfl,Nat.zero_le _,H0.out⟩
 case round =>
  obtain ⟨i,rfl,hi,hs⟩:=hrel
  have HS:=Hd hs
  obtain ⟨q1,e1,hq1,hm1,hx1⟩:=hs
  obtain ⟨A1,c1,hv1⟩:=row_form hq1.own
  have hl1:q1.S.length = i:=by rw [hq1.len];simp [newD]
  obtain ⟨⟨x1,x1f⟩,-,⟨x2,-⟩,-,-,-⟩:=hq1.cells
  rw [e1] at x1 x1f x2
  rw [hv1,hl1] at x1
  have HM:=Hd hl1
  have hbw:w.heap.size ≤ wr.heap.size:=by have:=hq1.lt q1.D (by simp [dcX]);omega
  have hPl:=lt_of_cell x2
  have x2':wr.cell? ⟨q.D,2,none⟩ = some (.int .i64 cols):=x2
  by_cases hlt:i < rows
  rotate_left
  · have hltI:¬ (i:Int) < (rows:Int):=by omega
    obtain rfl:i = rows:=by omega
    have HQ:=Hd (And.intro hq1 (And.intro e1 (And.intro hm1 hx1)))
    clear hl1 hq1 hm1 hx1 hv1 e1 x2
    go_wp2
    go_ret
    exact ⟨q1,by rw [HQ.out.2.1];rfl,HQ.out.1,HB.out.trans (HQ.out.2.2.1.below HDX.out HB.out.size)⟩
  · have hltI:(i:Int) < (rows:Int):=by omega
    have HQ:=Hd hq1
    have HE:=Hd (And.intro e1 (And.intro hm1 hx1))
    have HV:=Hd (show q1.vl = .slice A1 i c1 from by rw [hv1,hl1])
    have hm1000:i + 1 ≤ 1000:=by omega
    have HBK:Hid (∀ w',Below wr.heap.size wr w'→Calls Tryz.prog 62 #[.pointer (some ⟨q.D,0,none⟩),.agg #[.int .i64 0,.int .i64 0]] w' (BlankPost cols zeroCol w')):=Hd (fun w' hb => blank_then (HS.out.post hb) zeroCol)
    clear hl1 hq1 hm1 hx1 hv1 HS x2 e1
    go_upto_region 5 with fail
    refine Go.RL.wp_region_l 12 (fun w' => (w'.cell? ⟨q.D,0,none⟩ = some (.slice A1 i c1)∧w'.frozen? ⟨q.D,0,none⟩ = false)∧w'.cell? ⟨q.D,2,none⟩ = some (.int .i64 cols)) (fun w' => Below wr.heap.size wr w') (by kernel_rfl) (by kernel_rfl) ⟨⟨x1,x1f⟩,x2'⟩ ((Below.refl _ _).drew) ?_
    refine Go.RL.AtL.go 0 ?_
    iterate 7 (refine Go.RL.AtK.take (o:=⟨_,_,_,_,_,_⟩) (v:=?_) (by kernel_rfl) rfl (by simp) (by kernel_rfl) (by kernel_rfl) ?_ ?_;rotate_left;(focus (refine Go.RL.Pure.val (by rfl) ?_;intro w' hI;obtain ⟨⟨_,_⟩,_⟩:=hI;go_simp;first | done | with_reducible rfl));simp only [Act.put,List.setIfInBounds_toArray,List.set_cons_zero,List.set_cons_succ])
    refine Go.RL.AtK.back ?_
    refine Go.RL.AtL.one 7 (o:=⟨_,_,_,_,_,_⟩) (fun v => ∃ g1 cap,v = .agg #[.slice (some ⟨g1,0,none⟩) cols cap,.bool false]) (fun v w' => ∃ g1 cap,v = .agg #[.slice (some ⟨g1,0,none⟩) cols cap,.bool false]∧Below wr.heap.size wr w'∧RcAt w' ⟨some ⟨g1,0,none⟩,List.replicate cols (blankC zeroCol),cap,false⟩) (by simp) (by kernel_rfl) rfl
     (Go.RL.StabL.call 62 #[.pointer (some ⟨q.D,0,none⟩),.agg #[.int .i64 0,.int .i64 0]] _ _ (by rfl) ?_ (fun w' hI hS => ?_)) ?_
    · intro w'
      go_simp
    · refine (HBK.out w' hS).mono ?_
      rintro e w3 ⟨g1,cap,rfl,hr,hb⟩
      exact ⟨_,rfl,⟨g1,cap,rfl⟩,⟨hold hb hI.1,holda hb hI.2⟩,g1,cap,rfl,below_tail hS hb,hr⟩
    rintro v ⟨g1,cap,rfl⟩
    simp only [Act.put,List.setIfInBounds_toArray,List.set_cons_zero,List.set_cons_succ]
    refine Go.RL.AtL.one 8 (o:=⟨_,_,_,_,_,_⟩) (fun v => ∃ k,v = .slice (some ⟨k,0,none⟩) 1 1) (fun v w' => ∃ k,v = .slice (some ⟨k,0,none⟩) 1 1∧Below wr.heap.size wr w'∧RcAt w' ⟨some ⟨g1,0,none⟩,List.replicate cols (blankC zeroCol),cap,false⟩∧w'.heap[k]? = some (.cells #[.slice (some ⟨g1,0,none⟩) cols cap,.bool false] 50 (0,0))) (by simp) (by kernel_rfl) rfl (Go.RL.StabL.op _ _ (by rfl) (fun w' hI hS => ?_)) ?_
    · obtain ⟨g1',cap',hv',hb,hrc⟩:=hS
      simp only [Value.agg.injEq,Array.mk.injEq,List.cons.injEq,Value.slice.injEq,Option.some.injEq,Addr.mk.injEq,and_true,true_and] at hv'
      obtain ⟨rfl,rfl⟩:=hv'
      have hb2:=below_allocs (Below.refl w'.heap.size w') (.cells #[.slice (some ⟨g1,0,none⟩) cols cap,.bool false] 50)
      exact ⟨.slice (some ⟨w'.heap.size,0,none⟩) 1 1,w'.alloc (.cells #[.slice (some ⟨g1,0,none⟩) cols cap,.bool false] 50),by go_simp,⟨_,rfl⟩,⟨hold hb2 hI.1,holda hb2 hI.2⟩,_,rfl,below_tail hb hb2,hrc.below hb2,hp_new rfl⟩
    rintro v ⟨k,rfl⟩
    simp only [Act.put,List.setIfInBounds_toArray,List.set_cons_zero,List.set_cons_succ]
    refine Go.RL.AtL.one 9 (o:=⟨some 27,.call { callee:=.builtin .append,args:=#[.tmp 22,.tmp 26],argTypes:=#[42,42] },42,_,_,none⟩) (fun v => ∃ g' c',v = .slice (some ⟨g',0,none⟩) (i + 1) c') (fun v w' => w'.ownsRow w.heap.size 50 2 v (i + 1) (flat encRh (q1.S ++ [⟨some ⟨g1,0,none⟩,List.replicate cols (blankC zeroCol),cap,false⟩]))∧Mod q1.vl.ownBlock.toList wr w'∧(∀ b,v.ownBlock = some b→q1.vl.ownBlock = some b ∨ wr.heap.size ≤ b)∧RcAt w' ⟨some ⟨g1,0,none⟩,List.replicate cols (blankC zeroCol),cap,false⟩) (by simp) (by kernel_rfl) rfl (Go.RL.StabL.op _ _ (by rfl) (fun w' hI hS => ?_)) ?_
    · obtain ⟨k',hv',hb,hrc,hk⟩:=hS
      simp only [Value.slice.injEq,Option.some.injEq,Addr.mk.injEq,and_true,true_and] at hv'
      subst hv'
      have hown:=(HQ.out.below hb).own
      rw [HM.out] at hown
      obtain ⟨v',w3,hr3,ho3,hg3,-,hn3⟩:=run_append_own_at (P:=Tryz.prog) w' w.heap.size 42 42 50 j0 _ 2 32 Tryz.underlying42 hj gz0 gz1 gz2 rfl (by decide) q1.vl i (flat encRh q1.S) hown ⟨k,0,none⟩ 1 1 (encRh ⟨some ⟨g1,0,none⟩,List.replicate cols (blankC zeroCol),cap,false⟩) rfl (fun j u hj => by
       rw [add_lit',Nat.zero_add]
       exact (at_ hk j u (by simpa [encRh] using hj)).1) (encRh_one _) (by simp only [maxLen];omega) (by omega) (Nat.le_trans hbw hb.size)
      obtain ⟨g',c',rfl⟩:=own_form ho3 (by omega)
      have hvs:∀ b,q1.vl.ownBlock = some b→b < wr.heap.size:=fun b hb => (HQ.out.own.lt b hb).2
      have hMg:Mod q1.vl.ownBlock.toList w' w3:=Mod.of_grown hg3 (fun b hb => by simp [hb])
      have hPn:q.D ∉ q1.vl.ownBlock.toList:=fun hx => by
       obtain ⟨cur,hc⟩:=own_block HQ.out.own (Option.mem_toList.1 hx)
       have:=HQ.out.blk
       rw [HE.out.1] at this
       exact block_ne this hc (by decide) rfl
      have hNC:NoCel w' q1.vl.ownBlock.toList:=fun b hb' cs f he => by
       obtain ⟨cur,hc⟩:=own_block hown (Option.mem_toList.1 hb')
       exact block_ne hc he (by decide) rfl
      refine ⟨_,w3,exec_append _ _ _ rfl _ _ _ rfl rfl (by rw [HV.out] at hr3;exact hr3),⟨g',c',rfl⟩,⟨hMg.hold hPn hI.1,hMg.cell hPn hI.2⟩,?_,(Mod.of_below (X:=q1.vl.ownBlock.toList) hb).trans hMg (fun b hb => .inl hb),fun b hb' => ?_,hrc.mod hMg hNC⟩
      · rw [flat_append];exact ho3
      · rcases hn3 with h3 | h3
        · exact .inl (by rw [← h3];exact hb')
        · rw [h3] at hb';injection hb' with hb';exact .inr (by have:=hb.size;omega)
    rintro v ⟨g',c',rfl⟩
    simp only [Act.put,List.setIfInBounds_toArray,List.set_cons_zero,List.set_cons_succ]
    refine Go.RL.AtL.go 10 ?_
    iterate 2 (refine Go.RL.AtK.take (o:=⟨_,_,_,_,_,_⟩) (v:=?_) (by kernel_rfl) rfl (by simp) (by kernel_rfl) (by kernel_rfl) ?_ ?_;rotate_left;(focus (refine Go.RL.Pure.val (by rfl) ?_;intro w' hI;obtain ⟨⟨_,_⟩,_⟩:=hI;go_simp;first | done | with_reducible rfl));simp only [Act.put,List.setIfInBounds_toArray,List.set_cons_zero,List.set_cons_succ])
    refine Go.RL.AtK.back ?_
    refine Go.RL.AtL.done (by kernel_rfl) (fun w' hI hS => ?_)
    obtain ⟨hs1,hs2,hs3,hs4⟩:=hS
    rw [← HM.out] at hs1
    have HG:=Hd (HQ.out.grown hs1 hs2 hs3 hs4 (by simp [newD]))
    rw [HM.out,HE.out.1] at HG
    obtain ⟨⟨z1,z1f⟩,-⟩:=hI
    clear hs1 hs2 hs3 hs4 x1 x1f x2'
    go_wp2
    go_roundw
    case rel =>
     refine ⟨i + 1,by go_num,by omega,?_⟩
     have:=DcRes.trans ⟨HE.out.1,HE.out.2.1,HE.out.2.2⟩ HG.out
     unfold newD
     rw [List.replicate_succ']
     exact this
    case measure => simp [intOf];omega
theorem newD_dcOf (rows cols lines:Nat):newD cols lines rows = dcOf (newP rows cols lines):=by unfold newD newP dcOf;rfl
end
end Go.Proofs.YtffdblmdelgkaaaGreat
