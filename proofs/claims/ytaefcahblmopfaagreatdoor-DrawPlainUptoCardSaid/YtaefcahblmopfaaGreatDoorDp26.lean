/- Joined by a tool of this claim out of smaller texts. Conditions: as stated. -/
import Derived.Test.YtaefcahblmopfaaGreatDoorDp25
set_option linter.unusedVariables false
set_option linter.unusedSimpArgs false
set_option maxRecDepth 100000
open Go.Lib renaming hid → Hd
namespace Go.Proofs.YtaefcahblmopfaaGreatDoor
open Go.RowKit
theorem pclean_any (n:Int) (w:World):Calls Tryz.prog 353 #[.int .i64 n] w fun e w' => e = .returned (.int .i64 (cleanN n))∧w = w':=by
 unfold cleanN
 go_enter Tryz.func353,Tryz.ntmps353
 go_wp2
 all_goals
  go_ret
  refine ⟨?_,rfl⟩
  show Ending.returned (Value.int .i64 _) = _
  congr 2
  first
   | omega
   | (rename_i h1 h2;rw [if_neg (by omega)] at h1;omega)
theorem own_cap {w:World} {base:Nat} {e:TypeId} {A:Option Addr} {n c k:Nat} {X:List Value} (h:w.ownsRow base e 1 (.slice A n c) k X):n ≤ c:=by
 obtain ⟨-,h | ⟨g,cap,cur,h1,h2,h3,h4,h5,h6,h7⟩⟩:=h
 · simp only [Value.slice.injEq] at h
   omega
 · simp only [Value.slice.injEq] at h1
   omega
def GrpPost (X:List Int) (w:World) (e:Ending) (w':World):Prop:=∃ b off c:Nat,e = .returned (.slice (some ⟨b,off,none⟩) X.length c)∧GrAt encZ 1 w' (some ⟨b,off,none⟩) X∧X.length ≤ c∧w.heap.size ≤ b∧b < w'.heap.size∧Below w.heap.size w w'
section
variable {w:World}
set_option maxHeartbeats 3200000 in
theorem pgroup_any {B:Option Addr} {g:List Int} (hG:GrAt encZ 1 w B g) (ca:Nat) (hca:g.length ≤ ca) (hz:g.length ≤ 1000000):Calls Tryz.prog 297 #[.slice B g.length ca] w (GrpPost (cleanG g) w):=by
 obtain ⟨j0,hj,gz0,gz1,gz2⟩:=info_parts info_int
 by_cases h0:g.length = 0
 · have hX:cleanG g = [-1]:=by unfold cleanG;rw [if_pos h0]
   rw [hX,h0]
   clear hG hX h0 hz hca
   go_enter Tryz.func297,Tryz.ntmps297
   go_wp2
   go_ret
   have hc:=hp_new (W:=w) (b:=w.heap.size) (o:=.cells #[.int .i64 (-1)] 3) rfl
   refine ⟨w.heap.size,0,1,rfl,fun _ => ⟨w.heap.size,0,rfl,fun i y hi j v hv => ?_⟩,Nat.le_refl _,Nat.le_refl _,lt_of_heap hc,below_allocs (Below.refl _ _) _⟩
   have hi0:i = 0:=by have:=(List.getElem?_eq_some_iff.1 hi).1;simpa using this
   subst hi0
   obtain rfl:(-1:Int) = y:=by simpa using hi
   have hj0:j = 0:=by have:=(List.getElem?_eq_some_iff.1 hv).1;simpa [encZ] using this
   subst hj0
   obtain rfl:Value.int .i64 (-1) = v:=by simpa [encZ] using hv
   exact (at_ hc 0 _ rfl).1
 · obtain ⟨b,off,rfl,-⟩:=gr_num hG (i:=0) (by omega)
   have HC:Hid (∀ i,i < g.length→w.cell? ⟨b,off + i,none⟩ = some (.int .i64 (g.getD i 0))):=Hd (fun i hi => by
    obtain ⟨b',off',h1,h2⟩:=gr_num hG hi
    injection h1 with h1
    injection h1 with e1 e2
    subst e1 e2
    exact h2)
   obtain ⟨X,hX⟩:∃ X:Nat→List Int,X = fun k => (g.take k).map cleanN:=⟨_,rfl⟩
   have HXS:Hid (∀ k,k < g.length→X (k + 1) = X k ++ [cleanN (g.getD k 0)]):=Hd (fun k hk => by rw [hX];simp only [];rw [List.take_succ_eq_append_getElem hk,List.map_append];congr 2;rw [List.getD_eq_getElem?_getD,List.getElem?_eq_getElem hk];rfl)
   have HX0:Hid (X 0 = []):=Hd (by rw [hX];rfl)
   have HXE:Hid (X (min g.length 8) = cleanG g∧(X (min g.length 8)).length = min g.length 8):=Hd (by
    have e:g.take (min g.length 8) = g.take 8:=by rw [Nat.min_comm,← List.take_take,List.take_length]
    rw [hX];unfold cleanG;rw [if_neg h0];exact ⟨by simp only [];rw [e],by simp⟩)
   rw [← HXE.out.1]
   obtain ⟨L,hL⟩:∃ L,g.length = L:=⟨_,rfl⟩
   rw [hL] at h0 HC HXS HXE hca hz ⊢
   obtain ⟨M,hM⟩:∃ M,min L 8 = M:=⟨_,rfl⟩
   rw [hM] at HXE ⊢
   have hmI:(if (8:Int) < (L:Int) then (8:Int) else (L:Int)) = (M:Int):=by by_cases h8:(8:Int) < (L:Int) <;> simp only [h8,if_true,if_false] <;> omega
   have h0q:((L:Int) == 0) = false:=beq_eq_false_iff_ne.2 (by omega)
   have hMI1:(0:Int) ≤ (M:Int):=by omega
   have hMI2:(M:Int) ≤ (ca:Int):=by omega
   have hM8:M ≤ 8:=by omega
   have hML:M ≤ L:=by omega
   have hM0:0 < M:=by omega
   have HM:=Hd (And.intro hM8 (And.intro hML (And.intro hca hM0)))
   clear hG hX hL hM h0 hz hM8 hML hca hM0
   go_enter Tryz.func297,Tryz.ntmps297
   go_upto_region 4 with fail
   refine wp_region_lit ?_
   refine wpList_valG (.slice (some ⟨b,off,none⟩) L ca) (by rfl) (by rfl) ?_
   simp only [Act.put,List.setIfInBounds_toArray,List.set_cons_zero,List.set_cons_succ]
   refine wpList_valG (.slice (some ⟨b,off,none⟩) L ca) (by rfl) (by rfl) ?_
   simp only [Act.put,List.setIfInBounds_toArray,List.set_cons_zero,List.set_cons_succ]
   refine wpList_valG (.int .i64 L) (by rfl) (by go_simp) ?_
   simp only [Act.put,List.setIfInBounds_toArray,List.set_cons_zero,List.set_cons_succ]
   refine wpList_valG (.int .i64 M) (by rfl) (by go_simp) ?_
   simp only [Act.put,List.setIfInBounds_toArray,List.set_cons_zero,List.set_cons_succ]
   refine wpList_valG (.slice (some ⟨b,off,none⟩) M ca) (by rfl) (by go_simp) ?_
   simp only [Act.put,List.setIfInBounds_toArray,List.set_cons_zero,List.set_cons_succ]
   refine wpList_valG (.int .i64 M) (by rfl) (by go_simp) ?_
   simp only [Act.put,List.setIfInBounds_toArray,List.set_cons_zero,List.set_cons_succ]
   refine wpList_valG (.int .i64 0) (by rfl) (by rfl) ?_
   simp only [Act.put,List.setIfInBounds_toArray,List.set_cons_zero,List.set_cons_succ]
   go_wp2_with fail
   go_loopw [3,16] (fun s3 s16 wr => ∃ k:Nat,s16 = .int .i64 k∧k ≤ M∧wr.ownsRow w.heap.size 3 1 s3 k (flat encZ (X k))∧Below w.heap.size w wr) (fun _ s16 _ => M - (intOf s16).toNat)
   case atStart => exact ⟨0,rfl,Nat.zero_le _,by rw [HX0.out];exact World.ownsRow_nil _ _ _ _,Below.refl _ _⟩
   case round =>
    obtain ⟨k,rfl,hk,hO,hB⟩:=hrel
    obtain ⟨bx,rfl⟩:∃ bx:Value × Unit,u3 = bx.1:=⟨(u3,()),rfl⟩
    have HO:=Hd hO
    have HB:=Hd hB
    have hwk:IntKind.i64.wrap ((k:Int) + 1) = (k:Int) + 1:=IntWalk.i64_in _ (by have:=HM.out.1;omega)
    clear hO hB
    by_cases hlt:k < M
    · have hltI:(k:Int) < (M:Int):=by omega
      have hcell:=holda HB.out (HC.out k (by have:=HM.out;omega))
      have HXK:=HXS.out k (by have:=HM.out;omega)
      obtain ⟨n,hn⟩:∃ n,g.getD k 0 = n:=⟨_,rfl⟩
      rw [hn] at hcell HXK
      have HP:=Hd (pclean_any n wr)
      have HXK:=Hd HXK
      obtain ⟨vj,hvj⟩:∃ vj,cleanN n = vj:=⟨_,rfl⟩
      rw [hvj] at HP HXK
      have HSZ:=Hd HB.out.size
      clear hn hvj
      go_upto_region 7 with fail
      refine wp_region_lit ?_
      refine wpList_valG (bx.1) (by rfl) (by rfl) ?_
      simp only [Act.put,List.setIfInBounds_toArray,List.set_cons_zero,List.set_cons_succ]
      refine wpList_valG (.int .i64 n) (by rfl) (by rfl) ?_
      simp only [Act.put,List.setIfInBounds_toArray,List.set_cons_zero,List.set_cons_succ]
      refine wpList_callS rfl 353 #[.int .i64 n] (by go_simp) HP.out (.int .i64 vj) (fun e w' h => h.1) ?_
      rintro w5 ⟨-,rfl⟩
      simp only [Act.put,List.setIfInBounds_toArray,List.set_cons_zero,List.set_cons_succ]
      have HO3:=Hd (owns_mod HO.out (Mod.of_below (X:=[]) (below_allocs (Below.refl wr.heap.size wr) (.cells #[.int .i64 vj] 3))) (fun _ _ h => by cases h))
      have HBX:=Hd (below_allocs HB.out (.cells #[.int .i64 vj] 3))
      refine wpList_actG (.slice (some ⟨wr.heap.size,0,none⟩) 1 1) (wr.alloc (.cells #[.int .i64 vj] 3)) (by rfl) (by go_simp) ?_
      simp only [Act.put,List.setIfInBounds_toArray,List.set_cons_zero,List.set_cons_succ]
      refine wpList_append_g (o:=⟨some 24,_,_,_,_,_⟩) rfl (.tmp 20) (.tmp 23) 241 rfl w.heap.size 3 j0 _ 1 8 Tryz.underlying241 hj gz0 gz1 gz2 rfl (by decide) bx.1 k (flat encZ (X k)) rfl HO3.out ⟨wr.heap.size,0,none⟩ 1 1 [.int .i64 vj] rfl rfl (fun j u hj => by rw [add_lit',Nat.zero_add];exact (at_ (hp_new rfl) j u (by simpa using hj)).1) (encZ_one _) (by simp only [maxLen];omega) (by omega) (by have:=HSZ.out;simp at *;omega) ?_
      intro v' w7 ho hg hv'
      have HO7:Hid (w7.ownsRow w.heap.size 3 1 v' (k + 1) (flat encZ (X (k + 1)))):=Hd (by rw [HXK.out,flat_append];exact ho)
      have HB7:=Hd (HBX.out.grown hg HBX.out.size (fun b hb => (World.ownsRow.lt (show World.ownsRow _ _ _ _ _ _ _ from HO3.out) b hb).1))
      simp only [Act.put,List.setIfInBounds_toArray,List.set_cons_zero,List.set_cons_succ]
      clear ho hg hv'
      go_wp2
      go_roundw
      case rel => exact ⟨k + 1,by go_num,by omega,HO7.out,HB7.out⟩
      case measure => simp [intOf];omega
    · have hltI:¬ (k:Int) < (M:Int):=by omega
      obtain rfl:k = M:=by omega
      obtain ⟨b8,c8,hv8⟩:=own_form HO.out HM.out.2.2.2
      obtain ⟨bv,bu⟩:=bx
      simp only at hv8
      subst hv8
      have hgr:=gr_of_own2 (X:=X k) encZ_len (by rw [HXE.out.2];exact HO.out)
      have hcc:=own_cap HO.out
      have hlt8:=World.ownsRow.lt (show World.ownsRow _ _ _ _ _ _ _ from HO.out) b8 rfl
      go_wp2
      go_ret
      exact ⟨b8,0,c8,by rw [HXE.out.2];rfl,hgr,by rw [HXE.out.2];exact hcc,hlt8.1,hlt8.2,HB.out⟩
end
theorem wpList_callE {P:Program} {ops:Array Oper} {rest:List Oper} {o:Oper} {a:Act} {w:World} {Q:Exit→Act→World→Prop} (hg:o.guard = none) (f:FuncId) (args:Array Value) (hrun:(execOp a.eval o).run P w = .ok (.enter f args) w)
 {R:Value→World→Prop} (hc:Calls P f args w (fun e w' => ∃ v,e = .returned v∧R v w')) (h:∀ v w',R v w'→wpList P ops Q rest (a.put o.dst v) w'):wpList P ops Q (o :: rest) a w:=by
 refine wpList_plain hg fun K hK => ?_
 unfold Oper.wp
 rw [hrun,Oper.upon_enter]
 refine hc.mono fun e w'' hh => ?_
 obtain ⟨v,rfl,hr⟩:=hh
 exact hK _ _ (h _ _ hr)
theorem info_ints:(Tryz.prog.info? 241).map (fun i => (i.zero,i.size,i.bytes)) = some (some (.slice none 0 0),1,24):=by kernel_rfl
def GhB (w:World) (v:Value) (h:Gh):Prop:=∃ b off,h.A = some ⟨b,off,none⟩∧GrAt encZ 1 w h.A h.g∧h.g.length ≤ h.cap∧b < w.heap.size∧v.ownBlock ≠ some b
def ClnPost (X:List (List Int)) (w:World) (e:Ending) (w':World):Prop:=∃ (A:Option Addr) (H:List Gh) (c:Nat),e = .returned (.slice A H.length c)∧GsAt w' A H∧gsOf H = X∧Below w.heap.size w w'
section
variable {w:World} {A:Option Addr} {H:List Gh}
set_option maxHeartbeats 3200000 in
theorem pClean_any (hG:GsAt w A H) (ca:Nat) (hca:H.length ≤ ca) (hz:H.length ≤ 1000000) (hzg:∀ h ∈ H,h.g.length ≤ 1000000):Calls Tryz.prog 200 #[.slice A H.length ca] w (ClnPost (cleanL (gsOf H)) w):=by
 obtain ⟨j0,hj,gz0,gz1,gz2⟩:=info_parts info_ints
 by_cases h0:H.length = 0
 · have hX:cleanL (gsOf H) = [[-1]]:=by unfold cleanL gsOf;rw [if_pos (by simpa using h0)]
   rw [hX,h0]
   clear hG hX h0 hz hca hzg
   go_enter Tryz.func200,Tryz.ntmps200
   go_wp2
   go_ret
   have hc:=hp_old (o:=.cells #[.slice (some ⟨w.heap.size,0,none⟩) 1 1] 241) (hp_new (W:=w) (b:=w.heap.size) (o:=.cells #[.int .i64 (-1)] 3) rfl)
   have hc2:=hp_new (W:=w.alloc (.cells #[.int .i64 (-1)] 3)) (b:=w.heap.size + 1) (o:=.cells #[.slice (some ⟨w.heap.size,0,none⟩) 1 1] 241) (by simp)
   refine ⟨some ⟨w.heap.size + 1,0,none⟩,[⟨some ⟨w.heap.size,0,none⟩,[-1],1⟩],1,by simp;try rfl,⟨fun _ => ⟨w.heap.size + 1,0,rfl,fun i y hi j v hv => ?_⟩,fun h hh => ?_⟩,rfl,below_allocs (below_allocs (Below.refl _ _) _) _⟩
   · have hi0:i = 0:=by have:=(List.getElem?_eq_some_iff.1 hi).1;simpa using this
     subst hi0
     obtain rfl:=Option.some.inj hi
     have hj0:j = 0:=by have:=(List.getElem?_eq_some_iff.1 hv).1;simpa [encGh] using this
     subst hj0
     obtain rfl:=Option.some.inj hv
     exact (at_ hc2 0 _ rfl).1
   · rw [List.mem_singleton.1 hh]
     refine ⟨fun _ => ⟨w.heap.size,0,rfl,fun i y hi j v hv => ?_⟩,Nat.le_refl _⟩
     have hi0:i = 0:=by have:=(List.getElem?_eq_some_iff.1 hi).1;simpa using this
     subst hi0
     obtain rfl:=Option.some.inj hi
     have hj0:j = 0:=by have:=(List.getElem?_eq_some_iff.1 hv).1;simpa [encZ] using this
     subst hj0
     obtain rfl:=Option.some.inj hv
     exact (at_ hc 0 _ rfl).1
 · obtain ⟨x0,b,off,-,rfl,-⟩:=hG.get (i:=0) (by omega)
   have hgl:(gsOf H).length = H.length:=by unfold gsOf;simp
   have HC:Hid (∀ i,i < H.length→∃ x:Gh,w.cell? ⟨b,off + i,none⟩ = some (.slice x.A x.g.length x.cap)∧(gsOf H).getD i [] = x.g∧(∀ W',Below w.heap.size w W'→Calls Tryz.prog 297 #[.slice x.A x.g.length x.cap] W' (GrpPost (cleanG x.g) W'))):=Hd (fun i hi => by
    obtain ⟨x,b',off',h1,h2,h3,⟨h4,h5⟩,h6⟩:=hG.get hi
    injection h2 with h2
    injection h2 with e1 e2
    subst e1 e2
    exact ⟨x,h3,h6,fun W' hb' => pgroup_any (h4.below hb') x.cap h5 (hzg x (List.mem_of_getElem? h1))⟩)
   obtain ⟨X,hX⟩:∃ X:Nat→List (List Int),X = fun k => ((gsOf H).take k).map cleanG:=⟨_,rfl⟩
   have HXS:Hid (∀ k,k < H.length→X (k + 1) = X k ++ [cleanG ((gsOf H).getD k [])]):=Hd (fun k hk => by
    have hk':k < (gsOf H).length:=by omega
    rw [hX];simp only [];rw [List.take_succ_eq_append_getElem hk',List.map_append];congr 2;rw [List.getD_eq_getElem?_getD,List.getElem?_eq_getElem hk'];rfl)
   have HX0:Hid (X 0 = []):=Hd (by rw [hX];rfl)
   have HXE:Hid (X (min H.length 32) = cleanL (gsOf H)):=Hd (by
    have e:(gsOf H).take (min H.length 32) = (gsOf H).take 32:=by rw [← hgl,Nat.min_comm,← List.take_take,List.take_length]
    rw [hX];unfold cleanL;rw [if_neg (by omega)];simp only [];rw [e])
   rw [← HXE.out]
   obtain ⟨L,hL⟩:∃ L,H.length = L:=⟨_,rfl⟩
   rw [hL] at h0 HC HXS hca hz ⊢
   generalize gsOf H = G at HC HXS
   obtain ⟨M,hM⟩:∃ M,min L 32 = M:=⟨_,rfl⟩
   rw [hM]
   have hmI:(if (32:Int) < (L:Int) then (32:Int) else (L:Int)) = (M:Int):=by by_cases h8:(32:Int) < (L:Int) <;> simp only [h8,if_true,if_false] <;> omega
   have h0q:((L:Int) == 0) = false:=beq_eq_false_iff_ne.2 (by omega)
   have hMI1:(0:Int) ≤ (M:Int):=by omega
   have hMI2:(M:Int) ≤ (ca:Int):=by omega
   have hM8:M ≤ 32:=by omega
   have hML:M ≤ L:=by omega
   have HM:=Hd (And.intro hM8 (And.intro hML hca))
   clear hG hX hL hM h0 hz hM8 hML hca HXE hgl hzg
   go_enter Tryz.func200,Tryz.ntmps200
   go_upto_region 4 with fail
   refine wp_region_lit ?_
   refine wpList_valG (.slice (some ⟨b,off,none⟩) L ca) (by rfl) (by rfl) ?_
   simp only [Act.put,List.setIfInBounds_toArray,List.set_cons_zero,List.set_cons_succ]
   refine wpList_valG (.slice (some ⟨b,off,none⟩) L ca) (by rfl) (by rfl) ?_
   simp only [Act.put,List.setIfInBounds_toArray,List.set_cons_zero,List.set_cons_succ]
   refine wpList_valG (.int .i64 L) (by rfl) (by go_simp) ?_
   simp only [Act.put,List.setIfInBounds_toArray,List.set_cons_zero,List.set_cons_succ]
   refine wpList_valG (.int .i64 M) (by rfl) (by go_simp) ?_
   simp only [Act.put,List.setIfInBounds_toArray,List.set_cons_zero,List.set_cons_succ]
   refine wpList_valG (.slice (some ⟨b,off,none⟩) M ca) (by rfl) (by go_simp) ?_
   simp only [Act.put,List.setIfInBounds_toArray,List.set_cons_zero,List.set_cons_succ]
   refine wpList_valG (.int .i64 M) (by rfl) (by go_simp) ?_
   simp only [Act.put,List.setIfInBounds_toArray,List.set_cons_zero,List.set_cons_succ]
   refine wpList_valG (.int .i64 0) (by rfl) (by rfl) ?_
   simp only [Act.put,List.setIfInBounds_toArray,List.set_cons_zero,List.set_cons_succ]
   go_wp2_with fail
   go_loopw [3,17] (fun s3 s17 wr => ∃ (k:Nat) (H':List Gh),s17 = .int .i64 k∧k ≤ M∧H'.length = k∧gsOf H' = X k∧wr.ownsRow w.heap.size 241 1 s3 k (flat encGh H')∧(∀ h ∈ H',GhB wr s3 h)∧Below w.heap.size w wr) (fun _ s17 _ => M - (intOf s17).toNat)
   case atStart => exact ⟨0,[],rfl,Nat.zero_le _,rfl,by rw [HX0.out];rfl,World.ownsRow_nil _ _ _ _,(fun h hh => by cases hh),Below.refl _ _⟩
   case round =>
    obtain ⟨k,H',rfl,hk,hHl,hHX,hO,hHB,hB⟩:=hrel
    obtain ⟨bx,rfl⟩:∃ bx:Value × Unit,u3 = bx.1:=⟨(u3,()),rfl⟩
    have HO:=Hd hO
    have HB:=Hd hB
    have HHB:=Hd hHB
    have HHX:=Hd (And.intro hHl hHX)
    have hwk:IntKind.i64.wrap ((k:Int) + 1) = (k:Int) + 1:=IntWalk.i64_in _ (by have:=HM.out.1;omega)
    clear hO hB hHB hHl hHX
    by_cases hlt:k < M
    · have hltI:(k:Int) < (M:Int):=by omega
      obtain ⟨x,hc,hx,hgr⟩:=HC.out k (by have:=HM.out;omega)
      have hcell:=holda HB.out hc
      have HXK:=Hd (HXS.out k (by have:=HM.out;omega))
      rw [hx] at HXK
      obtain ⟨C,hC⟩:∃ C,cleanG x.g = C:=⟨_,rfl⟩
      rw [hC] at HXK
      have HP:Hid (Calls Tryz.prog 297 #[.slice x.A x.g.length x.cap] wr (fun e w' => ∃ v,e = .returned v∧∃ b off c:Nat,v = .slice (some ⟨b,off,none⟩) C.length c∧GrAt encZ 1 w' (some ⟨b,off,none⟩) C∧C.length ≤ c∧wr.heap.size ≤ b∧b < w'.heap.size∧Below wr.heap.size wr w')):=Hd ((hgr wr HB.out).mono (fun e w' h => by rw [hC] at h;obtain ⟨b,off,c,h1,h2⟩:=h;exact ⟨_,h1,b,off,c,rfl,h2⟩))
      clear hc hx hgr hC
      go_upto_region 7 with fail
      refine wp_region_lit ?_
      refine wpList_valG (bx.1) (by rfl) (by rfl) ?_
      simp only [Act.put,List.setIfInBounds_toArray,List.set_cons_zero,List.set_cons_succ]
      refine wpList_valG (.slice x.A x.g.length x.cap) (by rfl) (by rfl) ?_
      simp only [Act.put,List.setIfInBounds_toArray,List.set_cons_zero,List.set_cons_succ]
      refine wpList_callE rfl 297 #[.slice x.A x.g.length x.cap] (by go_simp) HP.out ?_
      rintro v5 w5 ⟨b5,off5,c5,rfl,hg5,hl5,hge5,hlt5,hb5⟩
      simp only [Act.put,List.setIfInBounds_toArray,List.set_cons_zero,List.set_cons_succ]
      have hO5:=owns_mod HO.out (Mod.of_below (X:=[]) hb5) (fun _ _ h => by cases h)
      have HO3:=Hd (owns_mod hO5 (Mod.of_below (X:=[]) (below_allocs (Below.refl w5.heap.size w5) (.cells #[.slice (some ⟨b5,off5,none⟩) C.length c5] 241))) (fun _ _ h => by cases h))
      have HBX:=Hd (below_allocs (below_tail HB.out hb5) (.cells #[.slice (some ⟨b5,off5,none⟩) C.length c5] 241))
      have hlo:=World.ownsRow.lt (show World.ownsRow _ _ _ _ _ _ _ from HO.out)
      have hba:Below w5.heap.size w5 (w5.alloc (.cells #[.slice (some ⟨b5,off5,none⟩) C.length c5] 241)):=below_allocs (Below.refl _ _) _
      have HH8:Hid (∀ h ∈ H' ++ [⟨some ⟨b5,off5,none⟩,C,c5⟩],GhB (w5.alloc (.cells #[.slice (some ⟨b5,off5,none⟩) C.length c5] 241)) bx.1 h):=Hd (fun h hh => by
       rcases List.mem_append.1 hh with hh | hh
       · obtain ⟨b,off,h1,h2,h3,h4,h5⟩:=HHB.out h hh
         exact ⟨b,off,h1,(h2.below hb5).below hba,h3,Nat.lt_of_lt_of_le h4 (Nat.le_trans hb5.size hba.size),h5⟩
       · rw [List.mem_singleton.1 hh]
         exact ⟨b5,off5,rfl,hg5.below hba,hl5,Nat.lt_of_lt_of_le hlt5 hba.size,fun he => by have:=(hlo b5 he).2;omega⟩)
      have HSZ:=Hd (And.intro HB.out.size hb5.size)
      clear hO5 hlo hba hg5 hl5 hge5 hlt5 hb5
      refine wpList_actG (.slice (some ⟨w5.heap.size,0,none⟩) 1 1) (w5.alloc (.cells #[.slice (some ⟨b5,off5,none⟩) C.length c5] 241)) (by rfl) (by go_simp) ?_
      simp only [Act.put,List.setIfInBounds_toArray,List.set_cons_zero,List.set_cons_succ]
      refine wpList_append_g (o:=⟨some 25,_,_,_,_,_⟩) rfl (.tmp 21) (.tmp 24) 81 rfl w.heap.size 241 j0 _ 1 24 Tryz.underlying81 hj gz0 gz1 gz2 rfl (by decide) bx.1 k (flat encGh H') rfl HO3.out ⟨w5.heap.size,0,none⟩ 1 1 [.slice (some ⟨b5,off5,none⟩) C.length c5] rfl rfl (fun j u hj => by rw [add_lit',Nat.zero_add];exact (at_ (hp_new rfl) j u (by simpa using hj)).1) (encGh_one ⟨some ⟨b5,off5,none⟩,C,c5⟩) (by have:=HM.out.1;simp only [maxLen];omega) (by have:=HM.out.1;omega) (by have:=HSZ.out;simp at *;omega) ?_
      intro v' w7 ho hg hv'
      have HO7:Hid (w7.ownsRow w.heap.size 241 1 v' (k + 1) (flat encGh (H' ++ [⟨some ⟨b5,off5,none⟩,C,c5⟩]))):=Hd (by rw [flat_append];exact ho)
      have HB7:=Hd (HBX.out.grown hg HBX.out.size (fun b hb => (World.ownsRow.lt (show World.ownsRow _ _ _ _ _ _ _ from HO3.out) b hb).1))
      have HH9:Hid (∀ h ∈ H' ++ [⟨some ⟨b5,off5,none⟩,C,c5⟩],GhB w7 v' h):=Hd (fun h hh => by
       obtain ⟨b,off,h1,h2,h3,h4,h5⟩:=HH8.out h hh
       refine ⟨b,off,h1,?_,h3,Nat.lt_of_lt_of_le h4 hg.size,fun he => ?_⟩
       · rw [h1] at h2 ⊢
         exact gr_mod h2 (Mod.of_grown (X:=bx.1.ownBlock.toList) hg (fun b hb => by simp [hb])) (fun hm => h5 (by simpa using hm))
       · rcases hv' b he with h6 | h6
         · exact h5 h6
         · omega)
      simp only [Act.put,List.setIfInBounds_toArray,List.set_cons_zero,List.set_cons_succ]
      clear ho hg hv'
      go_wp2
      go_roundw
      case rel => exact ⟨k + 1,_,by go_num,by omega,by rw [List.length_append,HHX.out.1];rfl,by rw [HXK.out,← HHX.out.2];unfold gsOf;rw [List.map_append];rfl,HO7.out,HH9.out,HB7.out⟩
      case measure => simp [intOf];omega
    · have hltI:¬ (k:Int) < (M:Int):=by omega
      obtain rfl:k = M:=by omega
      obtain ⟨A8,c8,hv8⟩:=row_form HO.out
      obtain ⟨bv,bu⟩:=bx
      simp only at hv8
      subst hv8
      have hgr:=gr_of_own2 (X:=H') encGh_len (by rw [HHX.out.1];exact HO.out)
      go_wp2
      go_ret
      exact ⟨A8,H',c8,by rw [HHX.out.1];rfl,⟨hgr,fun h hh => by obtain ⟨b,off,h1,h2,h3,-⟩:=HHB.out h hh;exact ⟨h2,h3⟩⟩,HHX.out.2,HB.out⟩
end
def turnSc (s:Sc) (G:List (List Int)):Sc:={ s with pen:={ s.pen with at_:=turnA s.pen.at_ (cleanL G) } }
section
variable {base:Nat} {w:World} {v:Sv} {s:Sc}
set_option maxHeartbeats 1600000 in
theorem sTurn_any (h:ScO base w v s) (hf:FlOk s.pen.at_.fl) {A:Option Addr} {H:List Gh} (hG:GsAt w A H) (ca:Nat) (hca:H.length ≤ ca) (hz:H.length ≤ 1000000) (hzg:∀ h ∈ H,h.g.length ≤ 1000000) :
 Calls Tryz.prog 221 #[.pointer (some ⟨v.S,0,none⟩),.slice A H.length ca] w (ScPost base w v (turnSc s (gsOf H))):=by
 have HO:=Hd h
 have HC:Hid (∀ w',Below w.heap.size w w'→Calls Tryz.prog 200 #[.slice A H.length ca] w' (ClnPost (cleanL (gsOf H)) w')):=Hd (fun w' hb => pClean_any (hG.below hb) ca hca hz hzg)
 have HT:Hid (∀ w' (A1:Option Addr) (H1:List Gh) (c1:Nat),GsAt w' A1 H1→gsOf H1 = cleanL (gsOf H)→Calls Tryz.prog 306 #[.agg (aL s.pen.at_).toArray,.slice A1 H1.length c1] w' (SimpPost (turnA s.pen.at_ (cleanL (gsOf H))) w')):=Hd (fun w' A1 H1 c1 h1 h2 => by
  have hl:H1.length = (gsOf H1).length:=by unfold gsOf;simp
  rw [← h2]
  exact aTurn_any h1 c1 (by rw [h2];exact cleanL_ok _) (by rw [hl,h2];have:=(cleanL_len (gsOf H)).2;omega) s.pen.at_ hf)
 unfold turnSc
 obtain ⟨C,hC⟩:∃ C,cleanL (gsOf H) = C:=⟨_,rfl⟩
 rw [hC] at HC HT ⊢
 obtain ⟨a2,ha2⟩:∃ a2,turnA s.pen.at_ C = a2:=⟨_,rfl⟩
 rw [ha2] at HT ⊢
 obtain ⟨c0,-⟩:=at_ h.blk 0 (.int .i64 s.pen.at_.fk) rfl
 obtain ⟨c1,-⟩:=at_ h.blk 1 (.int .i64 s.pen.at_.fn) rfl
 obtain ⟨c2,-⟩:=at_ h.blk 2 (.int .i64 s.pen.at_.bk) rfl
 obtain ⟨c3,-⟩:=at_ h.blk 3 (.int .i64 s.pen.at_.bn) rfl
 obtain ⟨c4,-⟩:=at_ h.blk 4 (.int .i64 s.pen.at_.fl) rfl
 clear h hf hG hca hz hzg hC ha2
 go_enter Tryz.func221,Tryz.ntmps221
 go_upto_region 1 with fail
 refine Go.RL.wp_region_l 12 (fun w' => w'.cell? ⟨v.S,0,none⟩ = some (.int .i64 s.pen.at_.fk)∧w'.cell? ⟨v.S,1,none⟩ = some (.int .i64 s.pen.at_.fn)∧w'.cell? ⟨v.S,2,none⟩ = some (.int .i64 s.pen.at_.bk)∧w'.cell? ⟨v.S,3,none⟩ = some (.int .i64 s.pen.at_.bn)∧w'.cell? ⟨v.S,4,none⟩ = some (.int .i64 s.pen.at_.fl)) (fun w' => Below w.heap.size w w') (by kernel_rfl) (by kernel_rfl) ⟨c0,c1,c2,c3,c4⟩ ((Below.refl _ _).drew) ?_
 refine Go.RL.AtL.go 0 ?_
 iterate 7 (refine Go.RL.AtK.take (o:=⟨_,_,_,_,_,_⟩) (v:=?_) (by kernel_rfl) rfl (by simp) (by kernel_rfl) (by kernel_rfl) ?_ ?_;rotate_left;(focus (refine Go.RL.Pure.val (by rfl) ?_;intro w' hI;obtain ⟨_,_,_,_,_⟩:=hI;go_simp;first | done | with_reducible rfl));simp only [Act.put,List.setIfInBounds_toArray,List.set_cons_zero,List.set_cons_succ])
 refine Go.RL.AtK.back ?_
 refine Go.RL.AtL.one 7 (o:=⟨_,_,_,_,_,_⟩) (fun _ => True) (fun u w' => ∃ (A1:Option Addr) (H1:List Gh) (k1:Nat),u = .slice A1 H1.length k1∧GsAt w' A1 H1∧gsOf H1 = C∧Below w.heap.size w w') (by simp) (by kernel_rfl) rfl
  (Go.RL.StabL.call 200 #[.slice A H.length ca] _ _ (by rfl) ?_ (fun w' hI hS => ?_)) ?_
 · intro w'
   go_simp
 · refine (HC.out w' hS).mono ?_
   rintro e w3 ⟨A1,H1,k1,rfl,hg,hg2,hb⟩
   obtain ⟨h0,h1,h2,h3,h4⟩:=hI
   exact ⟨_,rfl,trivial,⟨holda hb h0,holda hb h1,holda hb h2,holda hb h3,holda hb h4⟩,A1,H1,k1,rfl,hg,hg2,below_tail hS hb⟩
 rintro v1 -
 simp only [Act.put,List.setIfInBounds_toArray,List.set_cons_zero,List.set_cons_succ]
 refine Go.RL.AtL.one 8 (o:=⟨_,_,_,_,_,_⟩) (fun u => u = .agg (aL a2).toArray) (fun _ w' => Below w.heap.size w w') (by simp) (by kernel_rfl) rfl
  (Go.RL.StabL.call 306 #[.agg (aL s.pen.at_).toArray,v1] _ _ (by rfl) ?_ (fun w' hI hS => ?_)) ?_
 · intro w'
   go_simp
   rfl
 · obtain ⟨A1,H1,k1,rfl,hg,hg2,hb1⟩:=hS
   refine (HT.out w' A1 H1 k1 hg hg2).mono ?_
   rintro e w3 ⟨rfl,hb⟩
   obtain ⟨h0,h1,h2,h3,h4⟩:=hI
   exact ⟨_,rfl,rfl,⟨holda hb h0,holda hb h1,holda hb h2,holda hb h3,holda hb h4⟩,below_tail hb1 hb⟩
 rintro v2 rfl
 simp only [Act.put,List.setIfInBounds_toArray,List.set_cons_zero,List.set_cons_succ]
 refine Go.RL.AtL.go 9 ?_
 iterate 3 (refine Go.RL.AtK.take (o:=⟨_,_,_,_,_,_⟩) (v:=?_) (by kernel_rfl) rfl (by simp) (by kernel_rfl) (by kernel_rfl) ?_ ?_;rotate_left;(focus (refine Go.RL.Pure.val (by rfl) ?_;intro w' hI;obtain ⟨_,_,_,_,_⟩:=hI;go_simp;first | done | with_reducible rfl));simp only [Act.put,List.setIfInBounds_toArray,List.set_cons_zero,List.set_cons_succ])
 refine Go.RL.AtK.back ?_
 refine Go.RL.AtL.done (by kernel_rfl) (fun w' hI hS => ?_)
 have hO:=HO.out.below hS
 simp only [List.drop_succ_cons,List.drop_zero]
 refine wpList_store_mid rfl 63 (.tmp 17) (.tmp 14) rfl (v.S) (0) ((aL a2).toArray) rfl rfl (hO.there (by show 0 + 5 ≤ 38;omega)) info_attr5 (all_oneCell_toArray (one5 _)) ?_
 simp only [Act.put]
 have hp:=hO.puts 0 (aL a2) (by show 0 + 5 ≤ 38;omega) (s':={ s with pen:={ s.pen with at_:=a2 } }) rfl rfl rfl
 have HP:=Hd hp
 have HS:=Hd hS
 clear hI hS hO hp c0 c1 c2 c3 c4
 go_wp2
 go_end0
 exact ⟨rfl,ScRes.pre HS.out ⟨v,rfl,rfl,rfl,HP.out.1,HP.out.2,fun _ hb => .inl hb⟩⟩
end
theorem evsG_append (ev:Tm→Ev→Tm) (t:Tm) (a b:List Ev):evsG ev t (a ++ b) = evsG ev (evsG ev t a) b:=by simp [evsG]
theorem EvsOk.left {ev:Tm→Ev→Tm} {Ok:Tm→Ev→Prop} {t:Tm} {a b:List Ev} (h:EvsOk ev Ok t (a ++ b)):EvsOk ev Ok t a:=fun j e he => by
 have hj:=(List.getElem?_eq_some_iff.1 he).1
 have:=h j e (by rw [List.getElem?_append_left hj];exact he)
 rwa [List.take_append_of_le_length (by omega)] at this
theorem EvsOk.right {ev:Tm→Ev→Tm} {Ok:Tm→Ev→Prop} {t:Tm} {a b:List Ev} (h:EvsOk ev Ok t (a ++ b)):EvsOk ev Ok (evsG ev t a) b:=fun j e he => by
 have:=h (a.length + j) e (by rw [List.getElem?_append_right (by omega),Nat.add_sub_cancel_left];exact he)
 rwa [List.take_length_add_append,evsG_append] at this
structure Blind (ev:Tm→Ev→Tm):Prop where
 pz:∀ t e,(ev t e).pz = t.pz
 cm:∀ t e p,ev { t with pz:=p } e = { ev t e with pz:=p }
theorem Blind.evs {ev:Tm→Ev→Tm} (h:Blind ev):∀ (es:List Ev) (t:Tm) (p:Pz),evsG ev { t with pz:=p } es = { evsG ev t es with pz:=p }
 | [],_,_ => rfl
 | e :: es,t,p => by
   show evsG ev (ev { t with pz:=p } e) es = { evsG ev (ev t e) es with pz:=p }
   rw [h.cm,h.evs es]
theorem Blind.byte {ev:Tm→Ev→Tm} (h:Blind ev) (t:Tm) (c:Int):byteG ev t c = { evsG ev t (stepPz t.pz c).2 with pz:=(stepPz t.pz c).1 }:=h.evs _ _ _
theorem Blind.feed {ev:Tm→Ev→Tm} (h:Blind ev):∀ (bs:List Int) (t:Tm),feedG ev t bs = { evsG ev t (runPz t.pz bs).2 with pz:=(runPz t.pz bs).1 }
 | [],_ => rfl
 | c :: bs,t => by
   show feedG ev (byteG ev t c) bs = _
   rw [h.byte,h.feed bs]
   show { evsG ev { evsG ev t (stepPz t.pz c).2 with pz:=(stepPz t.pz c).1 } (runPz (stepPz t.pz c).1 bs).2 with pz:=(runPz (stepPz t.pz c).1 bs).1 } = { evsG ev t ((stepPz t.pz c).2 ++ (runPz (stepPz t.pz c).1 bs).2) with pz:=(runPz (stepPz t.pz c).1 bs).1 }
   rw [h.evs,evsG_append]
theorem Blind.evsOk {ev:Tm→Ev→Tm} {Ok:Tm→Ev→Prop} (h:Blind ev) (ho:∀ t e p,Ok t e→Ok { t with pz:=p } e) {t:Tm} {es:List Ev} (hE:EvsOk ev Ok t es) (p:Pz):EvsOk ev Ok { t with pz:=p } es:=fun j e he => by
 rw [h.evs]
 exact ho _ _ _ (hE j e he)
theorem Blind.feedOk {ev:Tm→Ev→Tm} {Ok:Tm→Ev→Prop} (h:Blind ev) (ho:∀ t e p,Ok t e→Ok { t with pz:=p } e):∀ (bs:List Int) (t:Tm),EvsOk ev Ok t (runPz t.pz bs).2→FeedOk ev Ok t bs
 | [],_,_ => FeedOk.nil
 | c :: bs,t,hE => by
   have hE':EvsOk ev Ok t ((stepPz t.pz c).2 ++ (runPz (stepPz t.pz c).1 bs).2):=hE
   refine FeedOk.cons (h.evsOk ho hE'.left _) (h.feedOk ho bs _ ?_)
   rw [h.byte]
   exact h.evsOk ho hE'.right _
def putE (r:Int):Ev:={ evE with r:=r }
def seqE (l:List Nat) (c:Int):Ev:=⟨3,0,c,0,l.map (fun n:Nat => [(n:Int)]),[],[],false⟩
def evBytes (e:Ev):List Int:=if e.kind = 0 then bytesR e.r else 27 :: 91 :: (joinI (e.nums.map fun g => (g.headD 0).toNat) ++ [e.byte])
theorem evBytes_put (r:Int):evBytes (putE r) = bytesR r:=rfl
theorem evBytes_seq (l:List Nat) (c:Int):evBytes (seqE l c) = 27 :: 91 :: (joinI l ++ [c]):=by
 have e:(l.map (fun n:Nat => [(n:Int)])).map (fun g => (g.headD 0).toNat) = l:=by
  rw [List.map_map]
  conv => rhs;rw [← List.map_id l]
  exact List.map_congr_left (fun n _ => by simp)
 show 27 :: 91 :: (joinI ((l.map (fun n:Nat => [(n:Int)])).map (fun g => (g.headD 0).toNat)) ++ [c]) = _
 rw [e]
def GoodE (e:Ev):Prop:=(∃ r,e = putE r∧isScal r = true∧PrintR r) ∨ (∃ (l:List Nat) (c:Int),e = seqE l c∧l ≠ []∧l.length ≤ 32∧(∀ n ∈ l,n ≤ 65535)∧64 ≤ c∧c < 127)
theorem decI_len:∀ (k n:Nat),n < 10 ^ (k + 1)→(decI n).length ≤ k + 1
 | 0,n,h => by
   rw [decI_rec,if_pos (by omega)]
   exact Nat.le_refl _
 | k + 1,n,h => by
   rw [decI_rec]
   split
   · simp
   · have:n / 10 < 10 ^ (k + 1):=by rw [Nat.div_lt_iff_lt_mul (by decide)];rw [Nat.pow_succ] at h;exact h
     have:=decI_len k (n / 10) this
     simp only [List.length_append,List.length_cons,List.length_nil]
     omega
theorem joinI_len:∀ l:List Nat,(∀ n ∈ l,n ≤ 65535)→(joinI l).length ≤ 6 * l.length
 | [],_ => Nat.le_refl _
 | [n],h => by
   have:=decI_len 4 n (by have:=h n (by simp);omega)
   show (decI n).length ≤ 6
   omega
 | n :: m :: l,h => by
   have:=decI_len 4 n (by have:=h n (by simp);omega)
   have:=joinI_len (m :: l) (fun x hx => h x (List.mem_cons_of_mem _ hx))
   show (decI n ++ 59 :: joinI (m :: l)).length ≤ _
   simp only [List.length_append,List.length_cons] at this ⊢
   omega
structure RestQ (p:Pz):Prop where
 r:RestP p
 h:p.head = []
 i:p.inter = []
 t:p.text = []
theorem RestQ.held {p:Pz} (h:RestQ p):p.state = 0∧heldP p = 0:=by
 refine ⟨h.r.1,?_⟩
 unfold heldP
 rw [h.h,h.i,h.t,h.r.2.2]
 rfl
theorem RestQ.new (n:Int):RestQ (newPz n):=⟨⟨rfl,rfl,rfl⟩,rfl,rfl,rfl⟩
theorem run_good:∀ (E:List Ev) (p:Pz),RestQ p→(∀ e ∈ E,GoodE e)→∃ p',RestQ p'∧runPz p (E.flatMap evBytes) = (p',E)
 | [],p,h,_ => ⟨p,h,rfl⟩
 | e :: E,p,h,hE => by
   rw [List.flatMap_cons]
   rcases hE e (List.mem_cons_self ..) with ⟨r,rfl,hs,hp⟩ | ⟨l,c,rfl,h1,h2,h3,h4,h5⟩
   · obtain ⟨d,d1,d2,d3⟩:=scal_run h.r [r] (fun x hx => by rw [List.mem_singleton.1 hx];exact ⟨hs,hp⟩)
     obtain ⟨p',hp',hr⟩:=run_good E { p with dec:=d } ⟨⟨h.r.1,d1,d2⟩,h.h,h.i,h.t⟩ (fun x hx => hE x (List.mem_cons_of_mem _ hx))
     refine ⟨p',hp',?_⟩
     rw [evBytes_put,runPz_append,show bytesR r = [r].flatMap bytesR from by simp,d3]
     show ((runPz { p with dec:=d } (E.flatMap evBytes)).1,[putE r] ++ (runPz { p with dec:=d } (E.flatMap evBytes)).2) = _
     rw [hr]
     rfl
   · have hq:=joinI_len l h3
     have hs:=seq_run h.r (l:=joinI l) (joinI_in l) (by omega) (c:=c) ⟨h4,h5⟩
     have hn:numsN (joinI l) = l.map (fun n:Nat => [(n:Int)]):=numsN_join l 32 h1 h2 h3
     rw [hn] at hs
     obtain ⟨p',hp',hr⟩:=run_good E (enterP p 0) ⟨⟨rfl,h.r.2.1,h.r.2.2⟩,rfl,rfl,rfl⟩ (fun x hx => hE x (List.mem_cons_of_mem _ hx))
     refine ⟨p',hp',?_⟩
     rw [evBytes_seq,runPz_append,hs]
     show ((runPz (enterP p 0) (E.flatMap evBytes)).1,[seqE l c] ++ (runPz (enterP p 0) (E.flatMap evBytes)).2) = _
     rw [hr]
     rfl
def evS (s:Sc) (e:Ev):Sc :=
 if e.kind = 0 then printS s e.r
 else if e.byte = 72 then moveS s (countG e.nums 0 - 1) (countG e.nums 1 - 1)
 else if e.byte = 109 then turnSc s e.nums
 else if e.byte = 88 then eraseCharsS s (countG e.nums 0)
 else s
def evD (t:Tm) (e:Ev):Tm:=doT t (fun s => evS s e)
def OkS (s:Sc) (e:Ev):Prop:=(e.kind = 0 ∨ (e.kind = 3∧e.pre = 0∧e.inter = []∧(e.byte = 72 ∨ e.byte = 109 ∨ e.byte = 88)))∧ScI s∧s.pg.told.length ≤ 900000∧FlOk s.pen.at_.fl
def OkD (t:Tm) (e:Ev):Prop:=OkS (curT t) e
theorem evD_blind:Blind evD:=by
 refine ⟨fun t e => ?_,fun t e p => ?_⟩
 · unfold evD doT putT;split <;> rfl
 · unfold evD doT putT curT
   cases t.use <;> rfl
theorem OkD.cm (t:Tm) (e:Ev) (p:Pz) (h:OkD t e):OkD { t with pz:=p } e:=h
theorem evsG_evD:∀ (E:List Ev) (t:Tm),t.use = false→evsG evD t E = { t with s0:=E.foldl evS t.s0 }
 | [],_,_ => rfl
 | e :: E,t,h => by
   have e1:evD t e = { t with s0:=evS t.s0 e }:=by
    unfold evD doT putT curT
    rw [h]
    rfl
   show evsG evD (evD t e) E = _
   rw [e1]
   exact evsG_evD E { t with s0:=evS t.s0 e } h
def Feeds (s:Sc) (bs:List Int) (s':Sc):Prop:=∃ E:List Ev,bs = E.flatMap evBytes∧(∀ e ∈ E,GoodE e)∧(∀ j e,E[j]? = some e→OkS ((E.take j).foldl evS s) e)∧E.foldl evS s = s'
theorem Feeds.refl (s:Sc):Feeds s [] s:=⟨[],rfl,(fun e h => by cases h),(fun j e h => by simp at h),rfl⟩
theorem Feeds.trans {s s1 s2:Sc} {a b:List Int} (h1:Feeds s a s1) (h2:Feeds s1 b s2):Feeds s (a ++ b) s2:=by
 obtain ⟨E,rfl,g1,o1,rfl⟩:=h1
 obtain ⟨F,rfl,g2,o2,rfl⟩:=h2
 refine ⟨E ++ F,by rw [List.flatMap_append],fun e he => (List.mem_append.1 he).elim (g1 e) (g2 e),fun j e he => ?_,by rw [List.foldl_append]⟩
 by_cases hj:j < E.length
 · rw [List.getElem?_append_left hj] at he
   rw [List.take_append_of_le_length (by omega)]
   exact o1 j e he
 · rw [List.getElem?_append_right (by omega)] at he
   obtain ⟨i,rfl⟩:∃ i,j = E.length + i:=⟨j - E.length,by omega⟩
   rw [Nat.add_sub_cancel_left] at he
   rw [List.take_length_add_append,List.foldl_append]
   exact o2 i e he
theorem Feeds.one {s:Sc} {e:Ev} (h:GoodE e) (ho:OkS s e):Feeds s (evBytes e) (evS s e) :=
 ⟨[e],by simp,fun x hx => by rw [List.mem_singleton.1 hx];exact h,fun j x hx => by
  match j,hx with
  | 0,hx => obtain rfl:e = x:=by simpa using hx
            exact ho
  | j + 1,hx => simp at hx,rfl⟩
theorem Feeds.fed {t:Tm} {bs:List Int} {s':Sc} (h:Feeds t.s0 bs s') (hu:t.use = false) (hp:RestQ t.pz):∃ p',RestQ p'∧feedG evD t bs = { t with s0:=s',pz:=p' }∧FeedOk evD OkD t bs:=by
 obtain ⟨E,rfl,hg,ho,rfl⟩:=h
 obtain ⟨p',hp',hr⟩:=run_good E t.pz hp hg
 refine ⟨p',hp',?_,evD_blind.feedOk OkD.cm _ _ ?_⟩
 · rw [evD_blind.feed,hr]
   show { evsG evD t E with pz:=p' } = _
   rw [evsG_evD E t hu]
 · rw [hr]
   intro j e he
   show OkS (curT (evsG evD t (E.take j))) e
   rw [evsG_evD _ t hu]
   have:=ho j e he
   unfold curT
   show OkS (if t.use = true then _ else _) e
   rw [hu]
   exact this
def colB (k n:Int):Bool:=decide (k = 0∧n = 0 ∨ k = 1∧0 ≤ n∧n < 256 ∨ k = 2∧0 ≤ n∧n < 16777216)
def hasN (n f:Int):Bool:=if n < 0 then false else decide (n / f % 2 = 1)
def attB (fk fn bk bn fl:Int):Bool:=colB fk fn && colB bk bn && decide (0 ≤ fl) && decide (fl < 1024) && !(hasN fl 8 && hasN fl 256)
theorem colB_cases (k n:Int):(k = 0∧(n = 0∧colB k n = true ∨ n ≠ 0∧colB k n = false)) ∨ (k = 1∧(0 ≤ n∧n < 256∧colB k n = true ∨ n < 0∧colB k n = false ∨ 256 ≤ n∧colB k n = false)) ∨ (k = 2∧(0 ≤ n∧n < 16777216∧colB k n = true ∨ n < 0∧colB k n = false ∨ 16777216 ≤ n∧colB k n = false)) ∨ (k ≠ 0∧k ≠ 1∧k ≠ 2∧colB k n = false):=by
 unfold colB
 simp only [decide_eq_true_eq,decide_eq_false_iff_not]
 omega
theorem acolor_any (k n:Int) (hc:colB k n = true) (w:World):Calls Tryz.prog 164 #[.agg #[.int .i64 k,.int .i64 n]] w fun e w' => e = .returned (.bool true)∧Below w.heap.size w w':=by
 have HC:=colB_cases k n
 rw [hc] at HC
 clear hc
 rcases HC with ⟨rfl,⟨rfl,_⟩ | ⟨_,h⟩⟩ | ⟨rfl,⟨h0,h1,_⟩ | ⟨_,h⟩ | ⟨_,h⟩⟩ | ⟨rfl,⟨h0,h1,_⟩ | ⟨_,h⟩ | ⟨_,h⟩⟩ | ⟨_,_,_,h⟩
 all_goals try (cases h;done)
 all_goals
  go_enter Tryz.func164,Tryz.ntmps164
  go_wp2
  go_ret
  refine ⟨?_,by repeat (first | exact Below.refl _ _ | refine below_allocs ?_ _)⟩
  simp
  try omega
theorem flags_draw:∀ f:Fin 1024,bits .andNot .i64 (f.val:Int) 1023 = 0∧(hasN (f.val:Int) 8 = true∧hasN (f.val:Int) 256 = true ∨ ¬ bits .and .i64 (f.val:Int) 264 = 264):=by decide +kernel
theorem aRight_any (fk fn bk bn fl:Int) (h:attB fk fn bk bn fl = true) (w:World):Calls Tryz.prog 93 #[.agg #[.int .i64 fk,.int .i64 fn,.int .i64 bk,.int .i64 bn,.int .i64 fl]] w fun e w' => e = .returned (.bool true)∧Below w.heap.size w w':=by
 unfold attB at h
 simp only [Bool.and_eq_true,decide_eq_true_eq,Bool.not_eq_true'] at h
 obtain ⟨⟨⟨⟨hf,hb⟩,h0⟩,h1⟩,h2⟩:=h
 have HF:=Hd (fun w => acolor_any fk fn hf w)
 have HB:=Hd (fun w => acolor_any bk bn hb w)
 have hfl:=flags_draw ⟨fl.toNat,by omega⟩
 rw [show (((⟨fl.toNat,by omega⟩:Fin 1024).val:Nat):Int) = fl from by show ((fl.toNat:Nat):Int) = fl;omega] at hfl
 obtain ⟨hx,hy⟩:=hfl
 have hy':¬ bits .and .i64 fl 264 = 264:=by
  rcases hy with ⟨a,b⟩ | h
  · rw [a,b] at h2;cases h2
  · exact h
 clear hf hb h0 h1 h2 hy
 go_enter Tryz.func93,Tryz.ntmps93
 go_wp2_with (first | (go_at_call 164;(with_reducible refine (HF.out _).mono ?_);rintro e w1 ⟨rfl,hb1⟩;have hB1:=below_tail (show Below w.heap.size w _ from by repeat (first | exact Below.refl _ _ | refine below_allocs ?_ _)) hb1;have e2:=(at_new hb1 (hp_new rfl) 2 _ rfl).1;have e3:=(at_new hb1 (hp_new rfl) 3 _ rfl).1;have e4:=(at_new hb1 (hp_new rfl) 4 _ rfl).1) | (go_at_call 164;(with_reducible refine (HB.out _).mono ?_);rintro e w2 ⟨rfl,hb2⟩;have hB2:=below_tail (show Below w.heap.size w _ from by repeat (first | exact hB1 | refine below_allocs ?_ _)) hb2;have f4:=holda hb2 e4))
 go_ret
 refine ⟨?_,hB2⟩
 simp [hx,hy']
end Go.Proofs.YtaefcahblmopfaaGreatDoor
