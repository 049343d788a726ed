/- Joined by a tool of this claim out of smaller texts. Conditions: as stated. -/
import Derived.Test.YtaefcahblmopfaaGreatDoorDp23
set_option linter.unusedVariables false
set_option linter.unusedSimpArgs false
set_option maxRecDepth 100000
open Go.Lib renaming hid → Hd
namespace Go.Proofs.YtaefcahblmopfaaGreatDoor
open Go.RowKit
section
variable {P:Program}
theorem results_cell_tt' {fn:Func} {p u u2:Tmp} {ty:TypeId} (h:fn.results = #[.cell p ty,.tmp u,.tmp u2]) (tmps:Array Value) (w:World) :
 (results fn tmps).run P w = ((asAddr (tmps.getD p undef)).run P w).andThen fun a w1 => ((loadVar ty a).run P w1).andThen fun v w2 => .ok (.tuple #[v,tmps.getD u undef,tmps.getD u2 undef]) w2:=by
 simp only [results,h]
 simp [Sem.run_bind,Result.andThen]
theorem ret_cell_tt {fn:Func} {u u2 p:Tmp} {ty:TypeId} {d:TypeDesc} (hr:fn.results = #[.cell p ty,.tmp u,.tmp u2]) (tmps:Array Value) (w:World) (b:Nat) (cs:List Value) (hp:tmps.getD p undef = .pointer (some ⟨b,0,none⟩)) (h:w.rangeAt b 0 cs)
 (hu:P.underlying ty = some d) (hd:d.isRow = true) (hi:(P.info? ty).map (·.size) = some cs.length):(results fn tmps).run P w = .ok (.tuple #[.agg cs.toArray,tmps.getD u undef,tmps.getD u2 undef]) w:=by
 rw [results_cell_tt' hr,hp]
 have:=run_loadVar_mid (P:=P) w b 0 ty cs _ h hu hd hi
 simp only [asAddr,Sem.run_pure,Result.andThen_ok,this]
end
theorem FlOk.ite {c:Prop} [Decidable c] {a b:Int} (ha:FlOk a) (hb:FlOk b):FlOk (if c then a else b):=by
 by_cases h:c
 · rw [if_pos h];exact ha
 · rw [if_neg h];exact hb
theorem FlOk.flags {f:Int} (h:FlOk f) (v:Int) (g:List Int):FlOk (flagsA f v g):=by
 unfold flagsA
 repeat' (first | (with_reducible exact h) | (with_reducible refine FlOk.ite ?_ ?_) | (with_reducible refine FlOk.with ?_ _ (by decide) _))
def accN (l:List Int):Int:=l.foldl (fun n x => 256 * n + max 0 x) 0
def b3V (g:List Int):Option Col:=if ∀ x ∈ g,x ≤ 255 then some (if g.length = 1 then ⟨1,accN g⟩ else ⟨2,accN g⟩) else none
def ocK (c:Option Col):Int:=(c.getD ⟨0,0⟩).k
def ocN (c:Option Col):Int:=(c.getD ⟨0,0⟩).n
def OcPost (c:Option Col) (w:World) (e:Ending) (w':World):Prop:=e = .returned (.tuple #[.agg #[.int .i64 (ocK c),.int .i64 (ocN c)],.bool c.isSome])∧Below w.heap.size w w'
theorem shl8_or {n x:Int} (h0:0 ≤ n) (h1:n < 16777216) (x0:0 ≤ x) (x1:x < 256):bits .or .i64 (n * 256) x = 256 * n + x:=by
 obtain ⟨a,rfl⟩:=Int.eq_ofNat_of_zero_le h0
 obtain ⟨b,rfl⟩:=Int.eq_ofNat_of_zero_le x0
 have ha:a < 16777216:=by omega
 have hb:b < 256:=by omega
 have e1:(((a:Int) * 256)) = ((a * 256:Nat):Int):=by simp
 have key:(BitVec.ofInt 64 ((a:Int) * 256) ||| BitVec.ofInt 64 (b:Int)).toNat = a * 256 + b:=by
  rw [e1,BitVec.ofInt_natCast,BitVec.ofInt_natCast,BitVec.toNat_or,BitVec.toNat_ofNat,BitVec.toNat_ofNat,Nat.mod_eq_of_lt (by omega),Nat.mod_eq_of_lt (by omega)]
  rw [show a * 256 = a <<< 8 by rw [Nat.shiftLeft_eq],← Nat.shiftLeft_add_eq_or_of_lt (by omega:b < 2 ^ 8)]
 have e2:bits .or .i64 ((a:Int) * 256) (b:Int) = IntKind.i64.wrap (((BitVec.ofInt 64 ((a:Int) * 256) ||| BitVec.ofInt 64 (b:Int)).toNat:Nat):Int):=rfl
 rw [e2,key,IntWalk.i64_in _ (by omega)]
 omega
theorem accN_succ {g:List Int} {i:Nat} (hi:i < g.length):accN (g.take (i + 1)) = 256 * accN (g.take i) + max 0 (g.getD i 0):=by
 unfold accN
 rw [List.take_succ_eq_append_getElem hi,List.foldl_append]
 simp only [List.foldl_cons,List.foldl_nil]
 rw [List.getD_eq_getElem?_getD,List.getElem?_eq_getElem hi]
 rfl
theorem accN_bound {g:List Int} (hg:∀ x ∈ g,x ≤ 255) (h3:g.length ≤ 3):0 ≤ accN g∧accN g < 16777216:=by
 unfold accN
 match g,h3 with
 | [],_ => exact ⟨by decide,by decide⟩
 | [a],_ => have:=hg a (by simp);simp only [List.foldl_cons,List.foldl_nil];omega
 | [a,b],_ => have:=hg a (by simp);have:=hg b (by simp);simp only [List.foldl_cons,List.foldl_nil];omega
 | [a,b,c],_ => have:=hg a (by simp);have:=hg b (by simp);have:=hg c (by simp);simp only [List.foldl_cons,List.foldl_nil];omega
section
variable {w:World}
theorem abyte3_any {B:Option Addr} {g:List Int} (hG:GrAt encZ 1 w B g) (ca:Nat) (h3:g.length ≤ 3):Calls Tryz.prog 384 #[.slice B g.length ca] w (OcPost (b3V g) w):=by
 have HGE:Hid (∀ i,i < g.length→∃ b off,B = some ⟨b,off,none⟩∧w.cell? ⟨b,off + i,none⟩ = some (.int .i64 (g.getD i 0))):=Hd (fun i hi => gr_num hG hi)
 obtain ⟨W,hW⟩:∃ W,w.alloc (.cells #[.int .i64 0,.int .i64 0] 61) = W:=⟨_,rfl⟩
 have hb:Below w.heap.size w W:=by rw [← hW];exact below_allocs (Below.refl _ _) _
 have hc:W.heap[w.heap.size]? = some (.cells #[.int .i64 0,.int .i64 0] 61 (0,0)):=by rw [← hW];exact hp_new rfl
 have HB:=Hd hb
 have HC:=Hd hc
 have HW:=Hd hW
 obtain ⟨c0,f0⟩:=at_ hc 0 (.int .i64 0) rfl
 obtain ⟨c1,f1⟩:=at_ hc 1 (.int .i64 0) rfl
 obtain ⟨K,hK⟩:∃ K,g.length = K:=⟨_,rfl⟩
 rw [hK] at h3 HGE ⊢
 have HK:=Hd hK
 obtain ⟨co,hco⟩:∃ co,b3V g = co:=⟨_,rfl⟩
 rw [hco]
 have HV:=Hd hco
 clear hG hb hc hW hK hco
 go_enter Tryz.func384,Tryz.ntmps384
 go_upto_region 1 with fail
 rw [HW.out]
 go_wp2_with fail
 go_loopw [4,9] (fun s4 s9 wr => ∃ i:Nat,s4 = .int .i64 (accN (g.take i))∧s9 = .int .i64 i∧i ≤ K∧(∀ x ∈ g.take i,x ≤ 255)∧W = wr) (fun _ s9 _ => K - (intOf s9).toNat)
 case atStart => exact ⟨0,rfl,rfl,Nat.zero_le _,fun x hx => by simp at hx,rfl⟩
 case round =>
  obtain ⟨i,rfl,rfl,hi,hall,rfl⟩:=hrel
  have hwi:IntKind.i64.wrap ((i:Int) + 1) = (i:Int) + 1:=IntWalk.i64_in _ (by omega)
  have hbn:=accN_bound (g:=g.take i) hall (by simp;omega)
  by_cases hlt:i < K
  rotate_left
  · obtain rfl:i = K:=by omega
    have hltI:¬ (i:Int) < (i:Int):=by omega
    have ht:g.take i = g:=List.take_of_length_le (by rw [HK.out];exact Nat.le_refl _)
    rw [ht] at hall hbn ⊢
    have hv:b3V g = some (if g.length = 1 then ⟨1,accN g⟩ else ⟨2,accN g⟩):=by unfold b3V;rw [if_pos hall]
    obtain ⟨N,hN⟩:∃ N,accN g = N:=⟨_,rfl⟩
    rw [hN,HK.out] at hv
    have HVV:=Hd (HV.out.symm.trans hv)
    rw [hN]
    clear hall hbn hv ht hN
    by_cases h1:i = 1
    · subst h1
      go_wp2
      have hz:=whole_set (whole_set HC.out 0 (.int .i64 1) rfl) 1 (.int .i64 N) rfl
      exact bodyPost_ret (ret_cell_tmp rfl _ _ w.heap.size [.int .i64 1,.int .i64 N] rfl (range_new hz) Tryz.underlying61 rfl info_color) rfl ⟨by rw [HVV.out];rfl,below_set (below_set HB.out (Nat.le_refl _) _) (Nat.le_refl _) _⟩
    · have h1q:((i:Int) == 1) = false:=beq_eq_false_iff_ne.2 (by omega)
      have h1I:¬ (i:Int) = 1:=by omega
      go_wp2
      have hz:=whole_set (whole_set HC.out 0 (.int .i64 2) rfl) 1 (.int .i64 N) rfl
      exact bodyPost_ret (ret_cell_tmp rfl _ _ w.heap.size [.int .i64 2,.int .i64 N] rfl (range_new hz) Tryz.underlying61 rfl info_color) rfl ⟨by rw [HVV.out,if_neg h1];rfl,below_set (below_set HB.out (Nat.le_refl _) _) (Nat.le_refl _) _⟩
  · have hltI:(i:Int) < (K:Int):=by omega
    obtain ⟨b,off,hBe,hcell⟩:=HGE.out i hlt
    subst hBe
    have hcell2:=holda HB.out hcell
    have hsu:=accN_succ (g:=g) (i:=i) (by rw [HK.out];exact hlt)
    obtain ⟨x,hx⟩:∃ x,g.getD i 0 = x:=⟨_,rfl⟩
    obtain ⟨n,hn⟩:∃ n,accN (g.take i) = n:=⟨_,rfl⟩
    rw [hx,hn] at hsu
    rw [hn] at hbn ⊢
    rw [hx] at hcell2
    have HSU:=Hd hsu
    have HXG:=Hd hx
    have HALL:=Hd hall
    clear hsu hx hn hall hcell
    by_cases hgt:255 < x
    · have hv:b3V g = none:=by
       unfold b3V
       rw [if_neg]
       intro h
       have:=h x (by rw [← HXG.out,List.getD_eq_getElem?_getD,List.getElem?_eq_getElem (by rw [HK.out];exact hlt)];exact List.getElem_mem _)
       omega
      have HVV:=Hd (HV.out.symm.trans hv)
      clear hv
      go_wp2
      have hz:=whole_set (whole_set HC.out 0 (.int .i64 0) rfl) 1 (.int .i64 0) rfl
      exact bodyPost_ret (ret_cell_tmp rfl _ _ w.heap.size [.int .i64 0,.int .i64 0] rfl (range_new hz) Tryz.underlying61 rfl info_color) rfl ⟨by rw [HVV.out];rfl,below_set (below_set HB.out (Nat.le_refl _) _) (Nat.le_refl _) _⟩
    · have hwn:IntKind.i64.wrap (n * 256) = n * 256:=IntWalk.i64_in _ (by omega)
      have HOR:=Hd (shl8_or hbn.1 hbn.2 (x:=max 0 x) (by omega) (by omega))
      have HMX:Hid ((if 0 < x then x else 0) = max 0 x):=Hd (by split <;> omega)
      have hsh:(Op.shift .shl .i64 n .u64 8).run Tryz.prog W = .ok (.int .i64 (n * 256)) W:=by
       have e:=shift_shl .i64 .u64 n 8 (by decide) (by decide)
       rw [e]
       show Result.ok (Value.int .i64 (IntKind.i64.wrap (n * 2 ^ (8:Int).toNat))) W = _
       rw [show n * 2 ^ (8:Int).toNat = n * 256 from rfl,hwn]
      go_wp2
      go_roundw
      case rel =>
       refine ⟨i + 1,?_,by go_num,by omega,?_,by first | rfl | trivial⟩
       · rw [HSU.out,HMX.out,HOR.out]
       · intro y hy
         rw [List.take_succ_eq_append_getElem (by rw [HK.out];exact hlt)] at hy
         rcases List.mem_append.1 hy with hy | hy
         · exact HALL.out y hy
         · rw [List.mem_singleton.1 hy]
           have:g[i]'(by rw [HK.out];exact hlt) = x:=by rw [← HXG.out,List.getD_eq_getElem?_getD,List.getElem?_eq_getElem (by rw [HK.out];exact hlt)];rfl
           omega
      case measure => simp [intOf];omega
end
def insV (g:List Int):Option Col:=if g.getD 1 0 = 5∧g.length = 3 then b3V [g.getD 2 0] else if g.getD 1 0 = 2∧(g.length = 5 ∨ g.length = 6) then b3V (g.drop (g.length - 3)) else none
theorem gr_drop {w:World} {b off k:Nat} {g:List Int} (h:GrAt encZ 1 w (some ⟨b,off,none⟩) g):GrAt encZ 1 w (some ⟨b,off + k,none⟩) (g.drop k):=fun h0 => by
 have hl:k < g.length:=by simp at h0;omega
 obtain ⟨b',off',hA,hg⟩:=h (by omega)
 injection hA with hA
 injection hA with h1 h2
 subst h1 h2
 refine ⟨b,off + k,rfl,fun i x hi j v hv => ?_⟩
 rw [List.getElem?_drop] at hi
 have:=hg (k + i) x hi j v hv
 rw [Nat.mul_one] at this ⊢
 rw [show off + k + i + j = off + (k + i) + j by omega]
 exact this
section
variable {w:World}
set_option maxHeartbeats 3200000 in
theorem ainside_any {B:Option Addr} {g:List Int} (hG:GrAt encZ 1 w B g) (ca:Nat) (h1:1 < g.length) (h8:g.length ≤ 8) (hca:g.length ≤ ca):Calls Tryz.prog 360 #[.slice B g.length ca] w (OcPost (insV g) w):=by
 obtain ⟨b,off,rfl,hc1⟩:=gr_num hG h1
 have HGG:=Hd hG
 obtain ⟨W,hW⟩:∃ W,w.alloc (.cells #[.int .i64 0,.int .i64 0] 61) = W:=⟨_,rfl⟩
 have hb:Below w.heap.size w W:=by rw [← hW];exact below_allocs (Below.refl _ _) _
 have hcz:W.heap[w.heap.size]? = some (.cells #[.int .i64 0,.int .i64 0] 61 (0,0)):=by rw [← hW];exact hp_new rfl
 have HB:=Hd hb
 have HC:=Hd hcz
 have HW:=Hd hW
 have hc1':=holda hb hc1
 obtain ⟨co,hco⟩:∃ co,insV g = co:=⟨_,rfl⟩
 rw [hco]
 have HV:=Hd hco
 clear hb hcz hW hc1 hco
 by_cases hA:g.getD 1 0 = 5∧g.length = 3
 · obtain ⟨ha1,ha2⟩:=hA
   obtain ⟨b',off',hbe,hc2⟩:=gr_num hG (i:=2) (by omega)
   injection hbe with hbe
   injection hbe with e1 e2
   subst e1 e2
   have hc2':=holda HB.out hc2
   have HVV:Hid (co = b3V [g.getD 2 0]):=Hd (by rw [← HV.out];unfold insV;rw [if_pos ⟨ha1,ha2⟩])
   rw [ha1] at hc1'
   rw [ha2]
   obtain ⟨x,hx⟩:∃ x,g.getD 2 0 = x:=⟨_,rfl⟩
   rw [hx] at hc2' HVV
   have H3:Hid (∀ W2,Below W.heap.size W W2→Calls Tryz.prog 384 #[.slice (some ⟨W2.heap.size,0,none⟩) 1 1] (W2.alloc (.cells #[.int .i64 x] 3)) (OcPost co (W2.alloc (.cells #[.int .i64 x] 3)))):=Hd (fun W2 hb2 => by
    rw [HVV.out]
    refine abyte3_any (B:=some ⟨W2.heap.size,0,none⟩) (g:=[x]) (fun _ => ⟨W2.heap.size,0,rfl,fun i y hi j v hv => ?_⟩) 1 (by simp)
    have hi0:i = 0:=by have:=(List.getElem?_eq_some_iff.1 hi).1;simpa using this
    subst hi0
    obtain rfl:x = y:=by simpa using hi
    have hj0:j = 0:=by have:=(List.getElem?_eq_some_iff.1 hv).1;simpa [encZ] using this
    subst hj0
    obtain rfl:Value.int .i64 x = v:=by simpa [encZ] using hv
    exact (at_ (hp_new (W:=W2) (b:=W2.heap.size) (o:=.cells #[.int .i64 x] 3) rfl) 0 _ rfl).1)
   clear hG h1 h8 hca ha1 ha2 hc2 hx
   go_enter Tryz.func360,Tryz.ntmps360
   go_upto_region 1 with fail
   rw [HW.out]
   go_upto_region 2 with fail
   have hbx:=below_allocs (Below.refl W.heap.size W) (.cells #[.int .i64 x] 3)
   have HBX:=Hd hbx
   clear hbx
   refine wp_region_lit ?_
   refine wpList_valG (.slice (some ⟨b,off,none⟩) 3 ca) (by rfl) (by rfl) ?_
   simp only [Act.put,List.setIfInBounds_toArray,List.set_cons_zero,List.set_cons_succ]
   refine wpList_valG (.pointer (some ⟨b,off + 2,none⟩)) (by rfl) (by go_simp) ?_
   simp only [Act.put,List.setIfInBounds_toArray,List.set_cons_zero,List.set_cons_succ]
   refine wpList_valG (.int .i64 x) (by rfl) (by go_simp) ?_
   simp only [Act.put,List.setIfInBounds_toArray,List.set_cons_zero,List.set_cons_succ]
   refine wpList_actG (.slice (some ⟨W.heap.size,0,none⟩) 1 1) (W.alloc (.cells #[.int .i64 x] 3)) (by rfl) (by go_simp) ?_
   simp only [Act.put,List.setIfInBounds_toArray,List.set_cons_zero,List.set_cons_succ]
   refine wpList_callS rfl 384 #[.slice (some ⟨W.heap.size,0,none⟩) 1 1] (by go_simp) (H3.out W (Below.refl _ _)) (.tuple #[.agg #[.int .i64 (ocK co),.int .i64 (ocN co)],.bool co.isSome]) (fun e w' h => h.1) ?_
   rintro w5 ⟨-,hb5⟩
   have HB5:=Hd hb5
   clear hb5
   have hb6:=below_tail HBX.out HB5.out
   have hz6:=(hb6.block _ (lt_of_heap HC.out)).trans HC.out
   have hbz:=below_tail HB.out hb6
   obtain ⟨z0,z0f⟩:=at_ hz6 0 (.int .i64 0) rfl
   obtain ⟨z1,z1f⟩:=at_ hz6 1 (.int .i64 0) rfl
   have HZ6:=Hd hz6
   have HBZ:=Hd hbz
   clear hb6 hz6 hbz hc1' hc2'
   simp only [Act.put,List.setIfInBounds_toArray,List.set_cons_zero,List.set_cons_succ]
   go_wp2
   have hz:=whole_set (whole_set HZ6.out 0 (.int .i64 (ocK co)) rfl) 1 (.int .i64 (ocN co)) rfl
   exact bodyPost_ret (ret_cell_tmp rfl _ _ w.heap.size [.int .i64 (ocK co),.int .i64 (ocN co)] rfl (range_new hz) Tryz.underlying61 rfl info_color) rfl ⟨rfl,below_set (below_set HBZ.out (Nat.le_refl _) _) (Nat.le_refl _) _⟩
 have hA':g.getD 1 0 ≠ 5 ∨ (g.getD 1 0 = 5∧g.length ≠ 3):=by omega
 obtain ⟨v1,hv1⟩:∃ v1,g.getD 1 0 = v1:=⟨_,rfl⟩
 obtain ⟨L,hL⟩:∃ L,g.length = L:=⟨_,rfl⟩
 by_cases hBc:v1 = 2∧(L = 5 ∨ L = 6)
 · obtain ⟨hb1,hb2⟩:=hBc
   have HVV:Hid (co = b3V (g.drop (L - 3))):=Hd (by rw [← HV.out];unfold insV;rw [if_neg hA,hv1,hL,if_pos ⟨hb1,hb2⟩])
   obtain ⟨M,hM⟩:∃ M,L = M + 3:=⟨L - 3,by omega⟩
   have hMI:(L:Int) - 3 = (M:Int):=by omega
   have hwM:IntKind.i64.wrap (M:Int) = (M:Int):=IntWalk.i64_in _ (by omega)
   have H3:Hid (Calls Tryz.prog 384 #[.slice (some ⟨b,off + M,none⟩) 3 (ca - M)] W (OcPost co W)):=Hd (by
    rw [HVV.out,show L - 3 = M by omega]
    have:=abyte3_any (w:=W) (g:=g.drop M) (gr_drop (HGG.out.below HB.out)) (ca - M) (by simp;omega)
    rw [show (g.drop M).length = 3 by simp;omega] at this
    exact this)
   rw [hL] at h1 h8 hca ⊢
   rw [hv1,hb1] at hc1'
   have hge:M ≤ L:=by omega
   have hLc:L ≤ ca:=hca
   have hL3:L - M = 3:=by omega
   have hML:(M:Int) ≤ (L:Int):=by omega
   have hLca:(L:Int) ≤ (ca:Int):=by omega
   have hor:(L == 5) = true ∨ ((L == 5) = false∧(L == 6) = true):=by
    rcases hb2 with rfl | rfl
    · exact .inl rfl
    · exact .inr ⟨rfl,rfl⟩
   subst hb1
   clear hG hA hA' hv1 hL hMI h1 h8
   rcases hb2 with rfl | rfl
   · obtain rfl:M = 2:=by omega
     have hwk:IntKind.i64.wrap (2:Int) = 2:=IntWalk.i64_in _ (by omega)
     have h2c:2 ≤ ca:=by omega
     have hnc:¬ ca = 2:=by omega
     have h2cI:(2:Int) ≤ (ca:Int):=by omega
     have hncI:¬ (ca:Int) = 2:=by omega
     go_enter Tryz.func360,Tryz.ntmps360
     go_upto_region 1 with fail
     rw [HW.out]
     go_upto_region 4 with fail
     refine wp_region_lit ?_
     refine wpList_valG (.slice (some ⟨b,off,none⟩) 5 ca) (by rfl) (by rfl) ?_
     simp only [Act.put,List.setIfInBounds_toArray,List.set_cons_zero,List.set_cons_succ]
     refine wpList_valG (.slice (some ⟨b,off,none⟩) 5 ca) (by rfl) (by rfl) ?_
     simp only [Act.put,List.setIfInBounds_toArray,List.set_cons_zero,List.set_cons_succ]
     refine wpList_valG (.int .i64 5) (by rfl) (by go_simp) ?_
     simp only [Act.put,List.setIfInBounds_toArray,List.set_cons_zero,List.set_cons_succ]
     refine wpList_valG (.int .i64 2) (by rfl) (by go_simp) ?_
     simp only [Act.put,List.setIfInBounds_toArray,List.set_cons_zero,List.set_cons_succ]
     refine wpList_valG (.slice (some ⟨b,off + 2,none⟩) 3 (ca - 2)) (by rfl) (by go_simp) ?_
     simp only [Act.put,List.setIfInBounds_toArray,List.set_cons_zero,List.set_cons_succ]
     refine wpList_callS rfl 384 #[.slice (some ⟨b,off + 2,none⟩) 3 (ca - 2)] (by go_simp) H3.out (.tuple #[.agg #[.int .i64 (ocK co),.int .i64 (ocN co)],.bool co.isSome]) (fun e w' h => h.1) ?_
     rintro w5 ⟨-,hb5⟩
     have HB5:=Hd hb5
     clear hb5
     have hz6:=(HB5.out.block _ (lt_of_heap HC.out)).trans HC.out
     have hbz:=below_tail HB.out HB5.out
     obtain ⟨z0,z0f⟩:=at_ hz6 0 (.int .i64 0) rfl
     obtain ⟨z1,z1f⟩:=at_ hz6 1 (.int .i64 0) rfl
     have HZ6:=Hd hz6
     have HBZ:=Hd hbz
     clear hz6 hbz hc1'
     simp only [Act.put,List.setIfInBounds_toArray,List.set_cons_zero,List.set_cons_succ]
     go_wp2
     have hz:=whole_set (whole_set HZ6.out 0 (.int .i64 (ocK co)) rfl) 1 (.int .i64 (ocN co)) rfl
     exact bodyPost_ret (ret_cell_tmp rfl _ _ w.heap.size [.int .i64 (ocK co),.int .i64 (ocN co)] rfl (range_new hz) Tryz.underlying61 rfl info_color) rfl ⟨rfl,below_set (below_set HBZ.out (Nat.le_refl _) _) (Nat.le_refl _) _⟩
   · obtain rfl:M = 3:=by omega
     have hwk:IntKind.i64.wrap (3:Int) = 3:=IntWalk.i64_in _ (by omega)
     have h2c:3 ≤ ca:=by omega
     have hnc:¬ ca = 3:=by omega
     have h2cI:(3:Int) ≤ (ca:Int):=by omega
     have hncI:¬ (ca:Int) = 3:=by omega
     go_enter Tryz.func360,Tryz.ntmps360
     go_upto_region 1 with fail
     rw [HW.out]
     go_upto_region 4 with fail
     refine wp_region_lit ?_
     refine wpList_valG (.slice (some ⟨b,off,none⟩) 6 ca) (by rfl) (by rfl) ?_
     simp only [Act.put,List.setIfInBounds_toArray,List.set_cons_zero,List.set_cons_succ]
     refine wpList_valG (.slice (some ⟨b,off,none⟩) 6 ca) (by rfl) (by rfl) ?_
     simp only [Act.put,List.setIfInBounds_toArray,List.set_cons_zero,List.set_cons_succ]
     refine wpList_valG (.int .i64 6) (by rfl) (by go_simp) ?_
     simp only [Act.put,List.setIfInBounds_toArray,List.set_cons_zero,List.set_cons_succ]
     refine wpList_valG (.int .i64 3) (by rfl) (by go_simp) ?_
     simp only [Act.put,List.setIfInBounds_toArray,List.set_cons_zero,List.set_cons_succ]
     refine wpList_valG (.slice (some ⟨b,off + 3,none⟩) 3 (ca - 3)) (by rfl) (by go_simp) ?_
     simp only [Act.put,List.setIfInBounds_toArray,List.set_cons_zero,List.set_cons_succ]
     refine wpList_callS rfl 384 #[.slice (some ⟨b,off + 3,none⟩) 3 (ca - 3)] (by go_simp) H3.out (.tuple #[.agg #[.int .i64 (ocK co),.int .i64 (ocN co)],.bool co.isSome]) (fun e w' h => h.1) ?_
     rintro w5 ⟨-,hb5⟩
     have HB5:=Hd hb5
     clear hb5
     have hz6:=(HB5.out.block _ (lt_of_heap HC.out)).trans HC.out
     have hbz:=below_tail HB.out HB5.out
     obtain ⟨z0,z0f⟩:=at_ hz6 0 (.int .i64 0) rfl
     obtain ⟨z1,z1f⟩:=at_ hz6 1 (.int .i64 0) rfl
     have HZ6:=Hd hz6
     have HBZ:=Hd hbz
     clear hz6 hbz hc1'
     simp only [Act.put,List.setIfInBounds_toArray,List.set_cons_zero,List.set_cons_succ]
     go_wp2
     have hz:=whole_set (whole_set HZ6.out 0 (.int .i64 (ocK co)) rfl) 1 (.int .i64 (ocN co)) rfl
     exact bodyPost_ret (ret_cell_tmp rfl _ _ w.heap.size [.int .i64 (ocK co),.int .i64 (ocN co)] rfl (range_new hz) Tryz.underlying61 rfl info_color) rfl ⟨rfl,below_set (below_set HBZ.out (Nat.le_refl _) _) (Nat.le_refl _) _⟩
 · have HVV:Hid (co = none):=Hd (by rw [← HV.out];unfold insV;rw [if_neg hA,hv1,hL,if_neg hBc])
   obtain ⟨z0,z0f⟩:=at_ HC.out 0 (.int .i64 0) rfl
   obtain ⟨z1,z1f⟩:=at_ HC.out 1 (.int .i64 0) rfl
   rw [hv1] at hc1' hA'
   rw [hL] at hA' h1 h8 hca ⊢
   clear hG hv1 hL hA HGG
   have h31:(v1 == 5) = false ∨ (v1 = 5∧((L:Int) == 3) = false∧¬ (L:Int) = 3):=by
    rcases hA' with h | ⟨h,h'⟩
    · exact .inl (beq_eq_false_iff_ne.2 h)
    · exact .inr ⟨h,beq_eq_false_iff_ne.2 (by omega),by omega⟩
   have h32:(v1 == 2) = false ∨ (v1 = 2∧(((L:Int) == 5) = false∧((L:Int) == 6) = false)∧¬ L = 5∧¬ L = 6):=by
    by_cases h:v1 = 2
    · exact .inr ⟨h,⟨beq_eq_false_iff_ne.2 (by omega),beq_eq_false_iff_ne.2 (by omega)⟩,by omega,by omega⟩
    · exact .inl (beq_eq_false_iff_ne.2 h)
   clear hA' hBc
   rcases h31 with h31 | ⟨rfl,h31,h31'⟩
   · rcases h32 with h32 | ⟨rfl,⟨h32,h33⟩,h34,h35⟩
     · go_enter Tryz.func360,Tryz.ntmps360
       go_upto_region 1 with fail
       rw [HW.out]
       go_wp2
       have hz:=whole_set (whole_set HC.out 0 (.int .i64 0) rfl) 1 (.int .i64 0) rfl
       exact bodyPost_ret (ret_cell_tmp rfl _ _ w.heap.size [.int .i64 0,.int .i64 0] rfl (range_new hz) Tryz.underlying61 rfl info_color) rfl ⟨by rw [HVV.out];rfl,below_set (below_set HB.out (Nat.le_refl _) _) (Nat.le_refl _) _⟩
     · go_enter Tryz.func360,Tryz.ntmps360
       go_upto_region 1 with fail
       rw [HW.out]
       go_wp2
       have hz:=whole_set (whole_set HC.out 0 (.int .i64 0) rfl) 1 (.int .i64 0) rfl
       exact bodyPost_ret (ret_cell_tmp rfl _ _ w.heap.size [.int .i64 0,.int .i64 0] rfl (range_new hz) Tryz.underlying61 rfl info_color) rfl ⟨by rw [HVV.out];rfl,below_set (below_set HB.out (Nat.le_refl _) _) (Nat.le_refl _) _⟩
   · clear h32
     go_enter Tryz.func360,Tryz.ntmps360
     go_upto_region 1 with fail
     rw [HW.out]
     go_wp2
     have hz:=whole_set (whole_set HC.out 0 (.int .i64 0) rfl) 1 (.int .i64 0) rfl
     exact bodyPost_ret (ret_cell_tmp rfl _ _ w.heap.size [.int .i64 0,.int .i64 0] rfl (range_new hz) Tryz.underlying61 rfl info_color) rfl ⟨by rw [HVV.out];rfl,below_set (below_set HB.out (Nat.le_refl _) _) (Nat.le_refl _) _⟩
end
theorem gr_of_own2 {α:Type} {enc:α→List Value} {K:Nat} (hl:∀ x,(enc x).length = K) {w:World} {base:Nat} {e:TypeId} {A:Option Addr} {n c:Nat} {X:List α} (h:w.ownsRow base e K (.slice A n c) X.length (flat enc X)):GrAt enc K w A X:=fun h0 => by
 obtain ⟨g,c',hv⟩:=own_form h h0
 simp only [Value.slice.injEq] at hv
 obtain ⟨rfl,rfl,rfl⟩:=hv
 refine ⟨g,0,rfl,fun i x hi j v hj => ?_⟩
 rw [Nat.zero_add]
 exact (owns_hold h (i:=i * K + j) (by rw [flat_at2 hl X i x j hi (by have:=(List.getElem?_eq_some_iff.1 hj).1;rw [hl] at this;exact this)];exact hj)).1
theorem info_int:(Tryz.prog.info? 3).map (fun i => (i.zero,i.size,i.bytes)) = some (some (.int .i64 0),1,8):=by kernel_rfl
def needV (G:List (List Int)) (i:Nat):Nat:=if fstG G (i + 1) = 5 then 1 else if fstG G (i + 1) = 2 then 3 else 0
def valsV (G:List (List Int)) (i n:Nat):List Int:=(List.range n).map (fun k => fstG G (i + 2 + k))
theorem valsV_len (G:List (List Int)) (i n:Nat):(valsV G i n).length = n:=by unfold valsV;simp
theorem valsV_succ (G:List (List Int)) (i n:Nat):valsV G i (n + 1) = valsV G i n ++ [fstG G (i + 2 + n)]:=by unfold valsV;rw [List.range_succ,List.map_append];rfl
def behV (G:List (List Int)) (i:Nat):Option Col × Int :=
 if G.length ≤ i + 1 + needV G i then (none,(G.length:Int) - 1 - i) else if needV G i = 0 then (none,1) else (b3V (valsV G i (needV G i)),1 + (needV G i:Int))
def BehPost (c:Option Col × Int) (w:World) (e:Ending) (w':World):Prop:=e = .returned (.tuple #[.agg #[.int .i64 (ocK c.1),.int .i64 (ocN c.1)],.bool c.1.isSome,.int .i64 c.2])∧Below w.heap.size w w'
section
variable {w:World} {A:Option Addr} {H:List Gh}
set_option maxHeartbeats 6400000 in
theorem abehind_any (hG:GsAt w A H) (ca i:Nat) (hi:i < H.length) (hz:H.length ≤ 1000):Calls Tryz.prog 361 #[.slice A H.length ca,.int .i64 i] w (BehPost (behV (gsOf H) i) w):=by
 obtain ⟨j0,hj,gz0,gz1,gz2⟩:=info_parts info_int
 obtain ⟨W,hW⟩:∃ W,w.alloc (.cells #[.int .i64 0,.int .i64 0] 61) = W:=⟨_,rfl⟩
 have hb:Below w.heap.size w W:=by rw [← hW];exact below_allocs (Below.refl _ _) _
 have hcz:W.heap[w.heap.size]? = some (.cells #[.int .i64 0,.int .i64 0] 61 (0,0)):=by rw [← hW];exact hp_new rfl
 have hlW:w.heap.size < W.heap.size:=lt_of_heap hcz
 have HB:=Hd hb
 have HC:=Hd hcz
 have HW:=Hd hW
 have HLW:=Hd hlW
 have HGW:Hid (∀ W',Below W.heap.size W W'→∀ k:Nat,Calls Tryz.prog 358 #[.slice A H.length ca,.int .i64 k] W' fun e w' => e = .returned (.int .i64 (fstG (gsOf H) k))∧W' = w'):=Hd (fun W' hb' k => afirst_any (hG.below (below_tail hb hb')) ca k (by omega))
 have hgl:(gsOf H).length = H.length:=by unfold gsOf;simp
 obtain ⟨co,hco⟩:∃ co,behV (gsOf H) i = co:=⟨_,rfl⟩
 rw [hco]
 have hbe:co = if H.length ≤ i + 1 + needV (gsOf H) i then (none,(H.length:Int) - 1 - i) else if needV (gsOf H) i = 0 then (none,1) else (b3V (valsV (gsOf H) i (needV (gsOf H) i)),1 + (needV (gsOf H) i:Int)):=by rw [← hco];unfold behV;rw [hgl]
 have HV:=Hd hbe
 generalize gsOf H = G at HGW HV
 obtain ⟨L,hL⟩:∃ L,H.length = L:=⟨_,rfl⟩
 rw [hL] at HGW HV hi hz ⊢
 have hi1:(i:Int) + 1 = ((i + 1:Nat):Int):=by omega
 obtain ⟨i1,hi1e⟩:∃ i1:Nat,i1 = i + 1:=⟨_,rfl⟩
 have hi1I:(i:Int) + 1 = (i1:Int):=by omega
 have hw1:IntKind.i64.wrap (i1:Int) = (i1:Int):=IntWalk.i64_in _ (by omega)
 have HF1:=Hd (HGW.out W (Below.refl _ _) i1)
 obtain ⟨v1,hv1⟩:∃ v1,fstG G i1 = v1:=⟨_,rfl⟩
 rw [hv1] at HF1
 have HN:Hid (needV G i = if v1 = 5 then 1 else if v1 = 2 then 3 else 0):=Hd (by unfold needV;rw [← hi1e,hv1])
 have HI1:=Hd hi1e
 clear hG hb hcz hW hlW hgl hco hbe hL hi1 hi1e hv1
 have cend:∀ W5,Below W.heap.size W W5→∀ (c:Option Col) (n:Int),co = (c,n)→∀ W6,W6 = (W5.setCell ⟨w.heap.size,0,none⟩ (.int .i64 (ocK c))).setCell ⟨w.heap.size,1,none⟩ (.int .i64 (ocN c))→W6.rangeAt w.heap.size 0 [.int .i64 (ocK co.1),.int .i64 (ocN co.1)]∧Below w.heap.size w W6:=fun W5 hb5 c n hc W6 h6 => by
  have hz:=(hb5.block _ HLW.out).trans HC.out
  rw [hc,h6]
  exact ⟨range_new (whole_set (whole_set hz 0 (.int .i64 (ocK c)) rfl) 1 (.int .i64 (ocN c)) rfl),below_set (below_set (below_tail HB.out (below_tail (Below.refl _ _) hb5)) (Nat.le_refl _) _) (Nat.le_refl _) _⟩
 have HEND:=Hd cend
 clear cend
 by_cases h5:v1 = 5
 · subst h5
   have HNV:Hid (needV G i = 1):=Hd (by rw [HN.out];rw [if_pos rfl])
   have hwn:IntKind.i64.wrap ((i1:Int) + 1) = (i1:Int) + 1:=IntWalk.i64_in _ (by omega)
   by_cases hle:L ≤ i1 + 1
   · have hleI:(L:Int) ≤ (i1:Int) + 1:=by omega
     have hwL:IntKind.i64.wrap ((L:Int) - 1) = (L:Int) - 1:=IntWalk.i64_in _ (by omega)
     have hwL2:IntKind.i64.wrap ((L:Int) - 1 - (i:Int)) = (L:Int) - 1 - (i:Int):=IntWalk.i64_in _ (by omega)
     have HVV:Hid (co = (none,(L:Int) - 1 - i)):=Hd (by rw [HV.out,HNV.out,if_pos (by have:=HI1.out;omega)])
     clear hle
     have hz5:=(((Below.refl W.heap.size W).block _ HLW.out)).trans HC.out
     obtain ⟨z0,z0f⟩:=at_ hz5 0 (.int .i64 0) rfl
     obtain ⟨z1,z1f⟩:=at_ hz5 1 (.int .i64 0) rfl
     clear hz5
     go_enter Tryz.func361,Tryz.ntmps361
     go_upto_region 1 with fail
     rw [HW.out]
     go_wp2_with (go_at_call 358;(with_reducible refine HF1.out.mono ?_);rintro e w2 ⟨rfl,rfl⟩)
     obtain ⟨hr,hbe⟩:=HEND.out W (Below.refl _ _) none (((L:Int) - 1 - i)) HVV.out _ rfl
     exact bodyPost_ret (ret_cell_tt rfl _ _ w.heap.size [.int .i64 (ocK co.1),.int .i64 (ocN co.1)] rfl hr Tryz.underlying61 rfl info_color) rfl ⟨by rw [HVV.out];rfl,hbe⟩
   · have hleI:¬ (L:Int) ≤ (i1:Int) + 1:=by omega
     have HVV:Hid (co = (b3V (valsV G i 1),1 + (1:Int))):=Hd (by rw [HV.out,HNV.out,if_neg (by have:=HI1.out;omega),if_neg (by decide)];rfl)
     clear hle
     go_enter Tryz.func361,Tryz.ntmps361
     go_upto_region 1 with fail
     rw [HW.out]
     go_wp2_with (go_at_call 358;(with_reducible refine HF1.out.mono ?_);rintro e w2 ⟨rfl,rfl⟩)
     go_loopw [8,37] (fun s8 s37 wr => ∃ k:Nat,s37 = .int .i64 k∧k ≤ 1∧wr.ownsRow W.heap.size 3 1 s8 k (flat encZ (valsV G i k))∧Below W.heap.size W wr) (fun _ s37 _ => 1 - (intOf s37).toNat)
     case atStart => exact ⟨0,rfl,Nat.zero_le _,World.ownsRow_nil _ _ _ _,Below.refl _ _⟩
     case round =>
      obtain ⟨k,rfl,hk,hO,hB⟩:=hrel
      obtain ⟨bx,rfl⟩:∃ bx:Value × Unit,u8 = bx.1:=⟨(u8,()),rfl⟩
      have HO:=Hd hO
      have HBk:=Hd hB
      have hwk:IntKind.i64.wrap ((k:Int) + 1) = (k:Int) + 1:=IntWalk.i64_in _ (by omega)
      have hwi2:IntKind.i64.wrap ((i:Int) + 2) = (i:Int) + 2:=IntWalk.i64_in _ (by omega)
      obtain ⟨j,hje⟩:∃ j:Nat,j = i + 2 + k:=⟨_,rfl⟩
      have hjI:(i:Int) + 2 + (k:Int) = (j:Int):=by omega
      have hwj:IntKind.i64.wrap (j:Int) = (j:Int):=IntWalk.i64_in _ (by omega)
      have HJ:=Hd hje
      clear hO hB hje
      by_cases hlt:k < 1
      · have hltI:(k:Int) < 1:=by omega
        have HFJ:=Hd (HGW.out wr HBk.out j)
        obtain ⟨vj,hvj⟩:∃ vj,fstG G j = vj:=⟨_,rfl⟩
        rw [hvj] at HFJ
        have HVJ:Hid (valsV G i (k + 1) = valsV G i k ++ [vj]):=Hd (by rw [valsV_succ,← hvj,HJ.out])
        clear hvj
        have HSZ:=Hd HBk.out.size
        go_upto_region 15 with fail
        refine wp_region_lit ?_
        refine wpList_valG (bx.1) (by rfl) (by rfl) ?_
        simp only [Act.put,List.setIfInBounds_toArray,List.set_cons_zero,List.set_cons_succ]
        refine wpList_valG (.slice A L ca) (by rfl) (by rfl) ?_
        simp only [Act.put,List.setIfInBounds_toArray,List.set_cons_zero,List.set_cons_succ]
        refine wpList_valG (.int .i64 i) (by rfl) (by rfl) ?_
        simp only [Act.put,List.setIfInBounds_toArray,List.set_cons_zero,List.set_cons_succ]
        refine wpList_valG (.int .i64 ((i:Int) + 2)) (by rfl) (by go_simp) ?_
        simp only [Act.put,List.setIfInBounds_toArray,List.set_cons_zero,List.set_cons_succ]
        refine wpList_valG (.int .i64 k) (by rfl) (by rfl) ?_
        simp only [Act.put,List.setIfInBounds_toArray,List.set_cons_zero,List.set_cons_succ]
        refine wpList_valG (.int .i64 j) (by rfl) (by go_simp) ?_
        simp only [Act.put,List.setIfInBounds_toArray,List.set_cons_zero,List.set_cons_succ]
        refine wpList_callS rfl 358 #[.slice A L ca,.int .i64 j] (by go_simp) HFJ.out (.int .i64 vj) (fun e w' h => h.1) ?_
        rintro w5 ⟨-,rfl⟩
        simp only [Act.put,List.setIfInBounds_toArray,List.set_cons_zero,List.set_cons_succ]
        have HO3:=Hd (owns_mod HO.out (Mod.of_below (X:=[]) (below_allocs (Below.refl wr.heap.size wr) (.cells #[.int .i64 vj] 3))) (fun _ _ h => by cases h))
        have HBX:=Hd (below_allocs HBk.out (.cells #[.int .i64 vj] 3))
        refine wpList_actG (.slice (some ⟨wr.heap.size,0,none⟩) 1 1) (wr.alloc (.cells #[.int .i64 vj] 3)) (by rfl) (by go_simp) ?_
        simp only [Act.put,List.setIfInBounds_toArray,List.set_cons_zero,List.set_cons_succ]
        refine wpList_append_g (o:=⟨some 48,_,_,_,_,_⟩) rfl (.tmp 40) (.tmp 47) 241 rfl W.heap.size 3 j0 _ 1 8 Tryz.underlying241 hj gz0 gz1 gz2 rfl (by decide) bx.1 k (flat encZ (valsV G i k)) rfl HO3.out ⟨wr.heap.size,0,none⟩ 1 1 [.int .i64 vj] rfl rfl (fun j u hj => by rw [add_lit',Nat.zero_add];exact (at_ (hp_new rfl) j u (by simpa using hj)).1) (encZ_one _) (by simp only [maxLen];omega) (by omega) (by have:=HSZ.out;simp at *;omega) ?_
        intro v' w7 ho hg hv'
        have HO7:Hid (w7.ownsRow W.heap.size 3 1 v' (k + 1) (flat encZ (valsV G i (k + 1)))):=Hd (by rw [HVJ.out,flat_append];exact ho)
        have HB7:=Hd (HBX.out.grown hg HBX.out.size (fun b hb => (World.ownsRow.lt (show World.ownsRow _ _ _ _ _ _ _ from HO3.out) b hb).1))
        simp only [Act.put,List.setIfInBounds_toArray,List.set_cons_zero,List.set_cons_succ]
        clear ho hg hv'
        go_wp2
        go_roundw
        case rel => exact ⟨k + 1,by go_num,by omega,HO7.out,HB7.out⟩
        case measure => simp [intOf];omega
      · have hltI:¬ (k:Int) < 1:=by omega
        obtain rfl:k = 1:=by omega
        obtain ⟨A8,c8,hv8⟩:=row_form HO.out
        obtain ⟨bv,bu⟩:=bx
        simp only at hv8
        subst hv8
        have H3:Hid (Calls Tryz.prog 384 #[.slice A8 1 c8] wr (OcPost (b3V (valsV G i 1)) wr)):=Hd (by
         have hgr:=gr_of_own2 (X:=valsV G i 1) encZ_len (by rw [valsV_len];exact HO.out)
         have:=abyte3_any hgr c8 (by rw [valsV_len];omega)
         rw [valsV_len] at this
         exact this)
        obtain ⟨cc,hcc⟩:∃ cc,b3V (valsV G i 1) = cc:=⟨_,rfl⟩
        rw [hcc] at H3 HVV
        clear hcc
        go_upto_region 18 with (go_at_call 384;(with_reducible refine H3.out.mono ?_);rintro e w6 ⟨rfl,hb6⟩;have HB6:=Hd (below_tail HBk.out hb6);clear hb6)
        generalize hW7:World.alloc _ _ = W7
        have hb7:Below w6.heap.size w6 W7:=by rw [← hW7];exact below_allocs (Below.refl _ _) _
        have hc7:W7.heap[w6.heap.size]? = some (.cells #[.int .i64 (ocK cc),.int .i64 (ocN cc)] 61 (0,0)):=by rw [← hW7];exact hp_new rfl
        have HB7:=Hd (below_tail HB6.out hb7)
        obtain ⟨d0,-⟩:=at_ hc7 0 (.int .i64 (ocK cc)) rfl
        obtain ⟨d1,-⟩:=at_ hc7 1 (.int .i64 (ocN cc)) rfl
        clear hW7 hb7 hc7
        have hz5:=((HB7.out.block _ HLW.out)).trans HC.out
        obtain ⟨z0,z0f⟩:=at_ hz5 0 (.int .i64 0) rfl
        obtain ⟨z1,z1f⟩:=at_ hz5 1 (.int .i64 0) rfl
        clear hz5
        go_wp2
        obtain ⟨hr,hbe⟩:=HEND.out W7 HB7.out cc ((1 + (1:Int))) HVV.out _ rfl
        exact bodyPost_ret (ret_cell_tt rfl _ _ w.heap.size [.int .i64 (ocK co.1),.int .i64 (ocN co.1)] rfl hr Tryz.underlying61 rfl info_color) rfl ⟨by rw [HVV.out];rfl,hbe⟩
 have e5:(v1 == 5) = false:=beq_eq_false_iff_ne.2 h5
 by_cases h2:v1 = 2
 · subst h2
   clear h5 e5
   have HNV:Hid (needV G i = 3):=Hd (by rw [HN.out];rw [if_neg (by decide),if_pos rfl])
   have hwn:IntKind.i64.wrap ((i1:Int) + 3) = (i1:Int) + 3:=IntWalk.i64_in _ (by omega)
   by_cases hle:L ≤ i1 + 3
   · have hleI:(L:Int) ≤ (i1:Int) + 3:=by omega
     have hwL:IntKind.i64.wrap ((L:Int) - 1) = (L:Int) - 1:=IntWalk.i64_in _ (by omega)
     have hwL2:IntKind.i64.wrap ((L:Int) - 1 - (i:Int)) = (L:Int) - 1 - (i:Int):=IntWalk.i64_in _ (by omega)
     have HVV:Hid (co = (none,(L:Int) - 1 - i)):=Hd (by rw [HV.out,HNV.out,if_pos (by have:=HI1.out;omega)])
     clear hle
     have hz5:=(((Below.refl W.heap.size W).block _ HLW.out)).trans HC.out
     obtain ⟨z0,z0f⟩:=at_ hz5 0 (.int .i64 0) rfl
     obtain ⟨z1,z1f⟩:=at_ hz5 1 (.int .i64 0) rfl
     clear hz5
     go_enter Tryz.func361,Tryz.ntmps361
     go_upto_region 1 with fail
     rw [HW.out]
     go_wp2_with (go_at_call 358;(with_reducible refine HF1.out.mono ?_);rintro e w2 ⟨rfl,rfl⟩)
     obtain ⟨hr,hbe⟩:=HEND.out W (Below.refl _ _) none (((L:Int) - 1 - i)) HVV.out _ rfl
     exact bodyPost_ret (ret_cell_tt rfl _ _ w.heap.size [.int .i64 (ocK co.1),.int .i64 (ocN co.1)] rfl hr Tryz.underlying61 rfl info_color) rfl ⟨by rw [HVV.out];rfl,hbe⟩
   · have hleI:¬ (L:Int) ≤ (i1:Int) + 3:=by omega
     have HVV:Hid (co = (b3V (valsV G i 3),1 + (3:Int))):=Hd (by rw [HV.out,HNV.out,if_neg (by have:=HI1.out;omega),if_neg (by decide)];rfl)
     clear hle
     go_enter Tryz.func361,Tryz.ntmps361
     go_upto_region 1 with fail
     rw [HW.out]
     go_wp2_with (go_at_call 358;(with_reducible refine HF1.out.mono ?_);rintro e w2 ⟨rfl,rfl⟩)
     go_loopw [8,37] (fun s8 s37 wr => ∃ k:Nat,s37 = .int .i64 k∧k ≤ 3∧wr.ownsRow W.heap.size 3 1 s8 k (flat encZ (valsV G i k))∧Below W.heap.size W wr) (fun _ s37 _ => 3 - (intOf s37).toNat)
     case atStart => exact ⟨0,rfl,Nat.zero_le _,World.ownsRow_nil _ _ _ _,Below.refl _ _⟩
     case round =>
      obtain ⟨k,rfl,hk,hO,hB⟩:=hrel
      obtain ⟨bx,rfl⟩:∃ bx:Value × Unit,u8 = bx.1:=⟨(u8,()),rfl⟩
      have HO:=Hd hO
      have HBk:=Hd hB
      have hwk:IntKind.i64.wrap ((k:Int) + 1) = (k:Int) + 1:=IntWalk.i64_in _ (by omega)
      have hwi2:IntKind.i64.wrap ((i:Int) + 2) = (i:Int) + 2:=IntWalk.i64_in _ (by omega)
      obtain ⟨j,hje⟩:∃ j:Nat,j = i + 2 + k:=⟨_,rfl⟩
      have hjI:(i:Int) + 2 + (k:Int) = (j:Int):=by omega
      have hwj:IntKind.i64.wrap (j:Int) = (j:Int):=IntWalk.i64_in _ (by omega)
      have HJ:=Hd hje
      clear hO hB hje
      by_cases hlt:k < 3
      · have hltI:(k:Int) < 3:=by omega
        have HFJ:=Hd (HGW.out wr HBk.out j)
        obtain ⟨vj,hvj⟩:∃ vj,fstG G j = vj:=⟨_,rfl⟩
        rw [hvj] at HFJ
        have HVJ:Hid (valsV G i (k + 1) = valsV G i k ++ [vj]):=Hd (by rw [valsV_succ,← hvj,HJ.out])
        clear hvj
        have HSZ:=Hd HBk.out.size
        go_upto_region 15 with fail
        refine wp_region_lit ?_
        refine wpList_valG (bx.1) (by rfl) (by rfl) ?_
        simp only [Act.put,List.setIfInBounds_toArray,List.set_cons_zero,List.set_cons_succ]
        refine wpList_valG (.slice A L ca) (by rfl) (by rfl) ?_
        simp only [Act.put,List.setIfInBounds_toArray,List.set_cons_zero,List.set_cons_succ]
        refine wpList_valG (.int .i64 i) (by rfl) (by rfl) ?_
        simp only [Act.put,List.setIfInBounds_toArray,List.set_cons_zero,List.set_cons_succ]
        refine wpList_valG (.int .i64 ((i:Int) + 2)) (by rfl) (by go_simp) ?_
        simp only [Act.put,List.setIfInBounds_toArray,List.set_cons_zero,List.set_cons_succ]
        refine wpList_valG (.int .i64 k) (by rfl) (by rfl) ?_
        simp only [Act.put,List.setIfInBounds_toArray,List.set_cons_zero,List.set_cons_succ]
        refine wpList_valG (.int .i64 j) (by rfl) (by go_simp) ?_
        simp only [Act.put,List.setIfInBounds_toArray,List.set_cons_zero,List.set_cons_succ]
        refine wpList_callS rfl 358 #[.slice A L ca,.int .i64 j] (by go_simp) HFJ.out (.int .i64 vj) (fun e w' h => h.1) ?_
        rintro w5 ⟨-,rfl⟩
        simp only [Act.put,List.setIfInBounds_toArray,List.set_cons_zero,List.set_cons_succ]
        have HO3:=Hd (owns_mod HO.out (Mod.of_below (X:=[]) (below_allocs (Below.refl wr.heap.size wr) (.cells #[.int .i64 vj] 3))) (fun _ _ h => by cases h))
        have HBX:=Hd (below_allocs HBk.out (.cells #[.int .i64 vj] 3))
        refine wpList_actG (.slice (some ⟨wr.heap.size,0,none⟩) 1 1) (wr.alloc (.cells #[.int .i64 vj] 3)) (by rfl) (by go_simp) ?_
        simp only [Act.put,List.setIfInBounds_toArray,List.set_cons_zero,List.set_cons_succ]
        refine wpList_append_g (o:=⟨some 48,_,_,_,_,_⟩) rfl (.tmp 40) (.tmp 47) 241 rfl W.heap.size 3 j0 _ 1 8 Tryz.underlying241 hj gz0 gz1 gz2 rfl (by decide) bx.1 k (flat encZ (valsV G i k)) rfl HO3.out ⟨wr.heap.size,0,none⟩ 1 1 [.int .i64 vj] rfl rfl (fun j u hj => by rw [add_lit',Nat.zero_add];exact (at_ (hp_new rfl) j u (by simpa using hj)).1) (encZ_one _) (by simp only [maxLen];omega) (by omega) (by have:=HSZ.out;simp at *;omega) ?_
        intro v' w7 ho hg hv'
        have HO7:Hid (w7.ownsRow W.heap.size 3 1 v' (k + 1) (flat encZ (valsV G i (k + 1)))):=Hd (by rw [HVJ.out,flat_append];exact ho)
        have HB7:=Hd (HBX.out.grown hg HBX.out.size (fun b hb => (World.ownsRow.lt (show World.ownsRow _ _ _ _ _ _ _ from HO3.out) b hb).1))
        simp only [Act.put,List.setIfInBounds_toArray,List.set_cons_zero,List.set_cons_succ]
        clear ho hg hv'
        go_wp2
        go_roundw
        case rel => exact ⟨k + 1,by go_num,by omega,HO7.out,HB7.out⟩
        case measure => simp [intOf];omega
      · have hltI:¬ (k:Int) < 3:=by omega
        obtain rfl:k = 3:=by omega
        obtain ⟨A8,c8,hv8⟩:=row_form HO.out
        obtain ⟨bv,bu⟩:=bx
        simp only at hv8
        subst hv8
        have H3:Hid (Calls Tryz.prog 384 #[.slice A8 3 c8] wr (OcPost (b3V (valsV G i 3)) wr)):=Hd (by
         have hgr:=gr_of_own2 (X:=valsV G i 3) encZ_len (by rw [valsV_len];exact HO.out)
         have:=abyte3_any hgr c8 (by rw [valsV_len];omega)
         rw [valsV_len] at this
         exact this)
        obtain ⟨cc,hcc⟩:∃ cc,b3V (valsV G i 3) = cc:=⟨_,rfl⟩
        rw [hcc] at H3 HVV
        clear hcc
        go_upto_region 18 with (go_at_call 384;(with_reducible refine H3.out.mono ?_);rintro e w6 ⟨rfl,hb6⟩;have HB6:=Hd (below_tail HBk.out hb6);clear hb6)
        generalize hW7:World.alloc _ _ = W7
        have hb7:Below w6.heap.size w6 W7:=by rw [← hW7];exact below_allocs (Below.refl _ _) _
        have hc7:W7.heap[w6.heap.size]? = some (.cells #[.int .i64 (ocK cc),.int .i64 (ocN cc)] 61 (0,0)):=by rw [← hW7];exact hp_new rfl
        have HB7:=Hd (below_tail HB6.out hb7)
        obtain ⟨d0,-⟩:=at_ hc7 0 (.int .i64 (ocK cc)) rfl
        obtain ⟨d1,-⟩:=at_ hc7 1 (.int .i64 (ocN cc)) rfl
        clear hW7 hb7 hc7
        have hz5:=((HB7.out.block _ HLW.out)).trans HC.out
        obtain ⟨z0,z0f⟩:=at_ hz5 0 (.int .i64 0) rfl
        obtain ⟨z1,z1f⟩:=at_ hz5 1 (.int .i64 0) rfl
        clear hz5
        go_wp2
        obtain ⟨hr,hbe⟩:=HEND.out W7 HB7.out cc ((1 + (3:Int))) HVV.out _ rfl
        exact bodyPost_ret (ret_cell_tt rfl _ _ w.heap.size [.int .i64 (ocK co.1),.int .i64 (ocN co.1)] rfl hr Tryz.underlying61 rfl info_color) rfl ⟨by rw [HVV.out];rfl,hbe⟩
 have e2:(v1 == 2) = false:=beq_eq_false_iff_ne.2 h2
 have HNV:Hid (needV G i = 0):=Hd (by rw [HN.out];rw [if_neg h5,if_neg h2])
 have hwn:IntKind.i64.wrap ((i1:Int) + 0) = (i1:Int) + 0:=IntWalk.i64_in _ (by omega)
 by_cases hle:L ≤ i1 + 0
 · have hleI:(L:Int) ≤ (i1:Int) + 0:=by omega
   have hwL:IntKind.i64.wrap ((L:Int) - 1) = (L:Int) - 1:=IntWalk.i64_in _ (by omega)
   have hwL2:IntKind.i64.wrap ((L:Int) - 1 - (i:Int)) = (L:Int) - 1 - (i:Int):=IntWalk.i64_in _ (by omega)
   have HVV:Hid (co = (none,(L:Int) - 1 - i)):=Hd (by rw [HV.out,HNV.out,if_pos (by have:=HI1.out;omega)])
   clear hle
   have hz5:=(((Below.refl W.heap.size W).block _ HLW.out)).trans HC.out
   obtain ⟨z0,z0f⟩:=at_ hz5 0 (.int .i64 0) rfl
   obtain ⟨z1,z1f⟩:=at_ hz5 1 (.int .i64 0) rfl
   clear hz5
   go_enter Tryz.func361,Tryz.ntmps361
   go_upto_region 1 with fail
   rw [HW.out]
   go_wp2_with (go_at_call 358;(with_reducible refine HF1.out.mono ?_);rintro e w2 ⟨rfl,rfl⟩)
   obtain ⟨hr,hbe⟩:=HEND.out W (Below.refl _ _) none (((L:Int) - 1 - i)) HVV.out _ rfl
   exact bodyPost_ret (ret_cell_tt rfl _ _ w.heap.size [.int .i64 (ocK co.1),.int .i64 (ocN co.1)] rfl hr Tryz.underlying61 rfl info_color) rfl ⟨by rw [HVV.out];rfl,hbe⟩
 · have hleI:¬ (L:Int) ≤ (i1:Int) + 0:=by omega
   have HVV:Hid (co = (none,1)):=Hd (by rw [HV.out,HNV.out,if_neg (by have:=HI1.out;omega),if_pos rfl])
   clear hle
   have hz5:=(((Below.refl W.heap.size W).block _ HLW.out)).trans HC.out
   obtain ⟨z0,z0f⟩:=at_ hz5 0 (.int .i64 0) rfl
   obtain ⟨z1,z1f⟩:=at_ hz5 1 (.int .i64 0) rfl
   clear hz5
   go_enter Tryz.func361,Tryz.ntmps361
   go_upto_region 1 with fail
   rw [HW.out]
   go_wp2_with (go_at_call 358;(with_reducible refine HF1.out.mono ?_);rintro e w2 ⟨rfl,rfl⟩)
   obtain ⟨hr,hbe⟩:=HEND.out W (Below.refl _ _) none (1) HVV.out _ rfl
   exact bodyPost_ret (ret_cell_tt rfl _ _ w.heap.size [.int .i64 (ocK co.1),.int .i64 (ocN co.1)] rfl hr Tryz.underlying61 rfl info_color) rfl ⟨by rw [HVV.out];rfl,hbe⟩
end
end Go.Proofs.YtaefcahblmopfaaGreatDoor
