/- Joined by a tool of this claim out of smaller texts. Conditions: as stated. -/
import Derived.Test.YtaefcahblmopfaaGreatDoorDp18
set_option linter.unusedVariables false
set_option linter.unusedSimpArgs false
set_option maxRecDepth 100000
open Go.Lib renaming hid → Hd
namespace Go.Proofs.YtaefcahblmopfaaGreatDoor
open Go.RowKit
theorem gb_new {w w2 w3:World} {r:Option Nat} {g:Option Nat} (h1:w.grownBy w2 r) (h2:w2.grownBy w3 g) (hg:∀ b,g = some b→w.heap.size ≤ b):w.grownBy w3 r :=
 ⟨h2.os.trans h1.os,h2.tape.trans h1.tape,h2.output.trans h1.output,Nat.le_trans h1.size h2.size,fun k hk hr => (h2.block k (Nat.lt_of_lt_of_le hk h1.size) (fun e => by have:=hg k e.symm;omega)).trans (h1.block k hk hr)⟩
section
variable {w:World} {v:Zv} {p:Pz}
set_option maxHeartbeats 1600000 in
theorem zdend_any (h:ParB w v p):Calls Tryz.prog 66 #[.pointer (some ⟨v.P,9,none⟩)] w (DecPost v p (endD p.dec) w):=by
 obtain ⟨c0,f0⟩:=at_ h 9 (.int .i32 p.dec.n) rfl
 obtain ⟨c1,f1⟩:=at_ h 10 (.int .i64 p.dec.need) rfl
 obtain ⟨c2,f2⟩:=at_ h 11 (.int .i64 p.dec.hv) rfl
 obtain ⟨c3,f3⟩:=at_ h 12 (.int .u8 p.dec.lo) rfl
 obtain ⟨c4,f4⟩:=at_ h 13 (.int .u8 p.dec.hi) rfl
 have HD:=Hd h
 clear h
 unfold endD
 by_cases hz:p.dec.hv = 0
 · rw [if_pos hz]
   rw [hz] at c2
   clear hz
   go_enter Tryz.func66,Tryz.ntmps66
   go_wp2
   go_ret
   exact ⟨_,rfl,rs_nil _ _,HD.out,gb_refl _ _⟩
 · rw [if_neg hz]
   generalize hq:p.dec.hv = q at c2 hz
   clear hq
   go_enter Tryz.func66,Tryz.ntmps66
   go_upto_region 4 with fail
   have HP:=Hd (((((HD.out.d0 0).d1 0).d2 0).d3 0).d4 0)
   have HG:=Hd (gb_set (gb_set (gb_set (gb_set (gb_set (gb_refl w (some v.P)) (i:=9) (.int .i32 0)) (i:=10) (.int .i64 0)) (i:=11) (.int .i64 0)) (i:=12) (.int .u8 0)) (i:=13) (.int .u8 0))
   generalize hW:((((w.setCell ⟨v.P,9,none⟩ (.int .i32 0)).setCell ⟨v.P,10,none⟩ (.int .i64 0)).setCell ⟨v.P,11,none⟩ (.int .i64 0)).setCell ⟨v.P,12,none⟩ (.int .u8 0)).setCell ⟨v.P,13,none⟩ (.int .u8 0) = w1 at HP HG ⊢
   clear hW
   go_wp2
   go_ret
   exact ⟨_,rfl,rs_one HG.out.size,HP.out.below ((Below.refl _ w1).alloc (Nat.le_refl _) _),gb_alloc HG.out _⟩
theorem wpList_callZ {P:Program} {ops:Array Oper} {rest:List Oper} {o:Oper} {a:Act} {w:World} {Q:Exit→Act→World→Prop} (hg:o.guard = none) (f:FuncId) (args:Array Value) (hrun:(execOp a.eval o).run P w = .ok (.enter f args) w)
 {R:Value→World→Prop} (hc:Calls P f args w (fun e w' => ∃ v,e = .returned v∧R v w')) (h:∀ v w',R v w'→wpList P ops Q rest (a.put o.dst v) w'):wpList P ops Q (o :: rest) a w:=by
 refine wpList_plain hg fun K hK => ?_
 unfold Oper.wp
 rw [hrun,Oper.upon_enter]
 refine hc.mono fun e w'' hh => ?_
 obtain ⟨v,rfl,hr⟩:=hh
 exact hK _ _ (h _ _ hr)
theorem wpList_append_zeroZ {P:Program} {ops:Array Oper} {rest:List Oper} {o:Oper} {a:Act} {w:World} {Q:Exit→Act→World→Prop} (hgd:o.guard = none) (s x:Operand) (t:TypeId)
 (ho:o.op = .call { callee:=.builtin .append,args:=#[s,x],argTypes:=#[t,t] }) {e:TypeId} {i:TypeInfo} (ht:P.underlying t = some (.slice e)) (hi:P.info? e = some i) (g:Option Addr) (n cap:Nat) (hn:n ≤ cap) (hng:g = none→n = 0∧cap = 0) (X:Option Addr) (c:Nat)
 (hs:a.eval s = .slice g n cap) (hx:a.eval x = .slice X 0 c) (h:wpList P ops Q rest (a.put o.dst (.slice g n cap)) w):wpList P ops Q (o :: rest) a w:=by
 refine wpList_plain hgd fun K hK => ?_
 have hr:(Builtin.append_ #[t,t] o.type #[.slice g n cap,.slice X 0 c]).run P w = .ok (.slice g n cap) w:=by
  cases g with
  | none => obtain ⟨rfl,rfl⟩:=hng rfl;cases X <;> simp [Builtin.append_,run_underlying ht,sizeOf,typeInfo,hi,Builtin.lenOf,Builtin.firstCells,loadCells,loadCellsFrom,storeCells]
  | some g => cases X <;> simp [Builtin.append_,run_underlying ht,sizeOf,typeInfo,hi,Builtin.lenOf,Builtin.firstCells,loadCells,loadCellsFrom,hn,storeCells]
 unfold Oper.wp execOp
 simp only [ho,resolve,invoke,builtin,Sem.run_bind,Sem.run_pure,Result.andThen_ok,List.map_toArray,List.map_cons,List.map_nil,hs,hx,hr]
 exact hK _ _ h
theorem rs_new {w:World} {r:Int} {lo k:Nat} (hk:w.heap.size = k) (h:lo ≤ k):RsAt (w.alloc (.cells #[.int .i32 r] 21)) lo (.slice (some ⟨k,0,none⟩) 1 1) [r]:=by subst hk;exact rs_one h
theorem beginD_len (d:Dk) (c:Int):(beginD d c).1 = [] ∨ ∃ r,(beginD d c).1 = [r]:=by
 unfold beginD
 split
 · exact .inr ⟨_,rfl⟩
 split
 · exact .inr ⟨_,rfl⟩
 · exact .inl rfl
theorem info_i32:(Tryz.prog.info? 21).map (fun i => (i.zero,i.size,i.bytes)) = some (some (.int .i32 0),1,4):=by kernel_rfl
set_option maxHeartbeats 1600000 in
theorem zdstep_any (h:ParB w v p) (hd:DkOk p.dec) (c:Int) (hc:0 ≤ c∧c ≤ 255) :
 Calls Tryz.prog 69 #[.pointer (some ⟨v.P,9,none⟩),.int .u8 c] w (DecPost v p (stepDk p.dec c) w):=by
 obtain ⟨c0,f0⟩:=at_ h 9 (.int .i32 p.dec.n) rfl
 obtain ⟨c1,f1⟩:=at_ h 10 (.int .i64 p.dec.need) rfl
 obtain ⟨c2,f2⟩:=at_ h 11 (.int .i64 p.dec.hv) rfl
 obtain ⟨c3,f3⟩:=at_ h 12 (.int .u8 p.dec.lo) rfl
 obtain ⟨c4,f4⟩:=at_ h 13 (.int .u8 p.dec.hi) rfl
 have HD:=Hd h
 have hP:=h.lt
 unfold stepDk
 by_cases h0:p.dec.need = 0
 · rw [if_pos h0]
   rw [h0] at c1
   have HB:=Hd (zbegin_any h c hc)
   generalize beginD p.dec c = X at HB ⊢
   clear h h0 hd hc
   go_enter Tryz.func69,Tryz.ntmps69
   go_wp2_with (go_at_call 117;(with_reducible refine HB.out.mono ?_);rintro e w1 ⟨u,rfl,hu⟩;have HU:=Hd hu;clear hu)
   go_ret
   exact ⟨u,rfl,HU.out⟩
 rw [if_neg h0]
 by_cases hb:c < p.dec.lo ∨ p.dec.hi < c
 · rw [if_pos hb]
   obtain ⟨w1,hw1⟩:∃ w1,(w.setCell ⟨v.P,10,none⟩ (.int .i64 0)).setCell ⟨v.P,11,none⟩ (.int .i64 0) = w1:=⟨_,rfl⟩
   have hP1:ParB w1 v { p with dec:=wipeD p.dec }:=by rw [← hw1];exact (h.d1 0).d2 0
   have hg1:w.grownBy w1 (some v.P):=by rw [← hw1];exact gb_set (gb_set (gb_refl w (some v.P)) _) _
   have hs1:w1.heap.size = w.heap.size:=by rw [← hw1];simp [World.setCell]
   have hA:Below w1.heap.size w1 (w1.alloc (.cells #[.int .i32 65533] 21)):=(Below.refl _ w1).alloc (Nat.le_refl _) _
   have HB:=Hd (zbegin_any (hP1.below hA) c hc)
   have hl:=beginD_len (wipeD p.dec) c
   have hX:∀ p':Pz,p' = { p with dec:=wipeD p.dec }→beginD p'.dec c = beginD (wipeD p.dec) c:=fun p' e => by rw [e]
   have HB2:Hid (Calls Tryz.prog 117 #[.pointer (some ⟨v.P,9,none⟩),.int .u8 c] (w1.alloc (.cells #[.int .i32 65533] 21)) (DecPost v p (beginD (wipeD p.dec) c) (w1.alloc (.cells #[.int .i32 65533] 21)))):=HB
   clear HB hX
   generalize beginD (wipeD p.dec) c = X at HB2 hl ⊢
   have HL0:Hid ((w1.alloc (.cells #[.int .i32 65533] 21)).ownsRow w.heap.size 21 1 (.slice (some ⟨w1.heap.size,0,none⟩) 1 1) 1 [.int .i32 65533]):=Hd (owns_lit (n:=1) (cs:=[.int .i32 65533]) rfl (by omega) (by unfold maxLen;omega))
   have HGA:Hid (w.grownBy (w1.alloc (.cells #[.int .i32 65533] 21)) (some v.P)):=Hd (gb_alloc hg1 _)
   have hsA:(w1.alloc (.cells #[.int .i32 65533] 21)).heap.size = w1.heap.size + 1:=World.size_alloc _ _
   generalize p.dec.need = q at c1 h0
   generalize p.dec.lo = lo at c3 hb
   generalize p.dec.hi = hi at c4 hb
   clear h hd hc hP1 hg1 hA
   obtain ⟨i0,hi0,hz0,hz1,hz2⟩:=info_parts info_i32
   have hne:=Hd (show v.P ≠ w1.heap.size by omega)
   have hle:=Hd (show w.heap.size ≤ w1.heap.size by omega)
   clear hs1 hsA
   obtain ⟨X1,X2⟩:=X
   have hl:X1 = [] ∨ ∃ r,X1 = [r]:=hl
   rcases hl with rfl | ⟨r,rfl⟩
   · go_enter Tryz.func69,Tryz.ntmps69
     go_upto_region 7 with fail
     all_goals
      refine wp_region_lit ?_
      refine wpList_actG (.slice (some ⟨w1.heap.size,0,none⟩) 1 1) (w1.alloc (.cells #[.int .i32 65533] 21)) (by rfl) (by go_simp) ?_
      simp only [Act.put,List.setIfInBounds_toArray,List.set_cons_zero,List.set_cons_succ]
      refine wpList_valG (.pointer (some ⟨v.P,9,none⟩)) (by rfl) (by rfl) ?_
      simp only [Act.put,List.setIfInBounds_toArray,List.set_cons_zero,List.set_cons_succ]
      refine wpList_valG (.int .u8 c) (by rfl) (by rfl) ?_
      simp only [Act.put,List.setIfInBounds_toArray,List.set_cons_zero,List.set_cons_succ]
      refine wpList_callZ rfl 117 #[.pointer (some ⟨v.P,9,none⟩),.int .u8 c] (by go_simp) HB2.out ?_
      rintro u w2 ⟨hr,hp,hg⟩
      obtain ⟨A,cap,rfl⟩:=row_form hr
      have HP2:=Hd hp
      have HG2:=Hd hg
      have HL2:Hid (w2.ownsRow w.heap.size 21 1 (.slice (some ⟨w1.heap.size,0,none⟩) 1 1) 1 [.int .i32 65533]):=Hd (owns_mod HL0.out (Mod.of_grown (X:=[v.P]) hg (fun g hg => by injection hg with hg;simp [hg])) (fun g hg hx => hne.out (by rw [← List.mem_singleton.1 hx];injection hg with hg;exact hg.symm)))
      simp only [Act.put,List.setIfInBounds_toArray,List.set_cons_zero,List.set_cons_succ]
      clear hr hp hg
      refine wpList_append_zeroZ rfl (.tmp 35) (.tmp 38) 136 rfl (e:=21) (i:=i0) Tryz.underlying136 hi0 (some ⟨w1.heap.size,0,none⟩) 1 1 (Nat.le_refl _) (fun h => by cases h) A cap rfl rfl ?_
      simp only [Act.put,List.setIfInBounds_toArray,List.set_cons_zero,List.set_cons_succ]
      go_wp2
      go_ret
      exact ⟨_,rfl,HL2.out,HP2.out,gb_trans HGA.out HG2.out⟩
   · go_enter Tryz.func69,Tryz.ntmps69
     go_upto_region 7 with fail
     all_goals
      refine wp_region_lit ?_
      refine wpList_actG (.slice (some ⟨w1.heap.size,0,none⟩) 1 1) (w1.alloc (.cells #[.int .i32 65533] 21)) (by rfl) (by go_simp) ?_
      simp only [Act.put,List.setIfInBounds_toArray,List.set_cons_zero,List.set_cons_succ]
      refine wpList_valG (.pointer (some ⟨v.P,9,none⟩)) (by rfl) (by rfl) ?_
      simp only [Act.put,List.setIfInBounds_toArray,List.set_cons_zero,List.set_cons_succ]
      refine wpList_valG (.int .u8 c) (by rfl) (by rfl) ?_
      simp only [Act.put,List.setIfInBounds_toArray,List.set_cons_zero,List.set_cons_succ]
      refine wpList_callZ rfl 117 #[.pointer (some ⟨v.P,9,none⟩),.int .u8 c] (by go_simp) HB2.out ?_
      rintro u w2 ⟨hr,hp,hg⟩
      obtain ⟨A,cap,rfl⟩:=row_form hr
      have HP2:=Hd hp
      have HG2:=Hd hg
      have HL2:Hid (w2.ownsRow w.heap.size 21 1 (.slice (some ⟨w1.heap.size,0,none⟩) 1 1) 1 [.int .i32 65533]):=Hd (owns_mod HL0.out (Mod.of_grown (X:=[v.P]) hg (fun g hg => by injection hg with hg;simp [hg])) (fun g hg hx => hne.out (by rw [← List.mem_singleton.1 hx];injection hg with hg;exact hg.symm)))
      simp only [Act.put,List.setIfInBounds_toArray,List.set_cons_zero,List.set_cons_succ]
      obtain ⟨b,k,he⟩:=own_form hr (by simp)
      obtain rfl:A = some ⟨b,0,none⟩:=by injection he
      clear he
      have hcells:=World.ownsRow.cells hr (g:=b) rfl
      clear hr hp hg
      refine wpList_append_g rfl (.tmp 35) (.tmp 38) 136 rfl w.heap.size 21 i0 _ 1 4 Tryz.underlying136 hi0 hz0 hz1 hz2 rfl (by decide) (.slice (some ⟨w1.heap.size,0,none⟩) 1 1) 1 [.int .i32 65533] rfl HL2.out ⟨b,0,none⟩ 1 cap [.int .i32 r] rfl rfl hcells (fun u hu => by rw [List.mem_singleton.1 hu];rfl) (by unfold maxLen;omega) (by omega) (Nat.le_trans HGA.out.size HG2.out.size) ?_
      intro v' w3 h1 h2 h3
      obtain ⟨A',c',rfl⟩:=row_form h1
      have H1:=Hd h1
      have H2:Hid (w2.grownBy w3 (some w1.heap.size)):=Hd h2
      clear h1 h2 h3 hcells
      simp only [Act.put,List.setIfInBounds_toArray,List.set_cons_zero,List.set_cons_succ]
      go_wp2
      go_ret
      exact ⟨_,rfl,H1.out,HP2.out.keep H2.out (fun e => hne.out (by injection e with e;exact e.symm)),gb_new (gb_trans HGA.out HG2.out) H2.out (fun b hb => by injection hb with hb;rw [← hb];exact hle.out)⟩
 rw [if_neg hb]
 obtain ⟨d1,d2,d3,d4⟩:=hd
 have g1:¬ c < p.dec.lo:=by omega
 have g2:¬ p.dec.hi < c:=by omega
 have hn:0 ≤ p.dec.n∧p.dec.n < 32768:=by
  rcases d3 with d3 | ⟨a,b1,b2,b3⟩
  · exact absurd d3 h0
  · rcases d1 with d1 | d1 | d1 | d1
    · exact absurd d1 h0
    · exact ⟨a,b1 d1⟩
    · exact ⟨a,by have:=b2 d1;omega⟩
    · exact ⟨a,by have:=b3 d1;omega⟩
 have w1:IntKind.i64.wrap (p.dec.hv + 1) = p.dec.hv + 1:=IntWalk.i64_in _ (by omega)
 have w2:IntKind.i64.wrap (p.dec.need - 1) = p.dec.need - 1:=IntWalk.i64_in _ (by omega)
 generalize hq:p.dec = q at *
 obtain ⟨n,need,hv,lo,hi⟩:=q
 simp only at c0 c1 c2 c3 c4 g1 g2 hn w1 w2 h0 d1 d2
 have HQ:=Hd hq
 clear h hb d3 d4 hq
 by_cases hl:need = 1
 · subst hl
   rw [if_pos (show (⟨n,1,hv,lo,hi⟩:Dk).need = 1 from rfl)]
   clear d1 h0
   go_enter Tryz.func69,Tryz.ntmps69
   go_wp2
   go_ret
   rw [Int.mul_comm 64 n]
   exact ⟨_,rfl,rs_new (by simp [World.setCell]) (Nat.le_refl _),((((((HD.out.d0 _).d3 _).d4 _).d2 _).d1 _).d2 _).below ((Below.refl _ _).alloc (Nat.le_refl _) _),gb_alloc (gb_set (gb_set (gb_set (gb_set (gb_set (gb_set (gb_refl _ _) _) _) _) _) _) _) _⟩
 · rw [if_neg (show ¬ (⟨n,need,hv,lo,hi⟩:Dk).need = 1 from hl)]
   have hl1:0 < need - 1:=by omega
   clear d1
   go_enter Tryz.func69,Tryz.ntmps69
   go_wp2
   go_ret
   rw [Int.mul_comm 64 n]
   exact ⟨_,rfl,rs_nil _ _,((((HD.out.d0 _).d3 _).d4 _).d2 _).d1 _,gb_set (gb_set (gb_set (gb_set (gb_set (gb_refl _ _) _) _) _) _) _⟩
end
theorem conv_own {w:World} {base:Nat} {v:Value} {xs:List Int} (h:w.ownsRow base 5 1 v xs.length (bV xs)):(convert 23 9 v).run Tryz.prog w = .ok (.string (strOfNums xs)) w:=by
 rcases h.2 with ⟨rfl,h0⟩ | ⟨g,cap,cur,rfl,-⟩
 · obtain rfl:xs = []:=List.eq_nil_of_length_eq_zero h0
   exact run_convert_bytes_nil w 23 5 Tryz.underlying23 Tryz.underlying5 0 0 9 Tryz.underlying9
 · refine run_convert_bytes_arg w 23 5 Tryz.underlying23 Tryz.underlying5 g 0 xs.length cap xs rfl (fun i hi => ?_) 9 Tryz.underlying9
   have:=World.ownsRow.cells h (g:=g) rfl i (.int .u8 (xs.getD i 0)) (by unfold bV;rw [List.getElem?_map,List.getElem?_eq_getElem hi,List.getD_eq_getElem?_getD,List.getElem?_eq_getElem hi];rfl)
   rw [add_lit',Nat.zero_add] at this
   rw [Nat.zero_add]
   exact this
theorem ExsO.lit {w:World} {lo:Nat} {x:Ex} (hlo:lo ≤ w.heap.size) (h:ExOk w lo x):ExsO (w.alloc (.cells (encEx x).toArray 83)) lo (.slice (some ⟨w.heap.size,0,none⟩) 1 1) [x] [x.e] :=
 ⟨owns_lit (n:=1) (cs:=encEx x) rfl hlo (by unfold maxLen;omega),rfl,fun y hy => by rw [List.mem_singleton.1 hy];exact h.below (below_allocs (Below.refl _ _) _)⟩
theorem PzPost.ev {base:Nat} {w:World} {v:Zv} {p':Pz} {w':World} (h:PzRes base w v p' w'):EvPost base w v (p',[]) (.returned (.slice none 0 0)) w':=⟨_,[],rfl,ExsO.nil _ _,h⟩
theorem EvPost.mk {base:Nat} {w w1 w2:World} {v:Zv} {p':Pz} {u:Value} {L:List Ex} {evs:List Ev} (h:PzO base w v p') (hb:Below w.heap.size w w1) (hx:ExsO w1 w.heap.size u L evs) {p2:Pz} (hr:PzRes base w1 v p2 w2):EvPost base w v (p2,evs) (.returned u) w2:=by
 refine ⟨u,L,rfl,?_,PzRes.pre hb hr⟩
 obtain ⟨v',-,-,hm,-⟩:=hr
 exact hx.mod hm (fun b hb => .inl (h.lt b hb).2)
section
variable {base:Nat} {w:World} {v:Zv} {p:Pz}
set_option maxHeartbeats 1600000 in
theorem zfinal_any (h:PzO base w v p) (c:Int):Calls Tryz.prog 115 #[.pointer (some ⟨v.P,0,none⟩),.int .u8 c] w (EvPost base w v (finalP p c)):=by
 obtain ⟨A1,cap1,hv1⟩:=row_form (h.row 1 (by omega))
 obtain ⟨-,-,⟨c2,f2⟩,-,-,⟨c5,f5⟩,-,-,-⟩:=h.blk.facts
 have hcv:(convert 23 9 (.slice A1 (p.r 1).length cap1)).run Tryz.prog w = .ok (.string (strOfNums p.inter)) w:=by rw [← hv1];exact conv_own (h.row 1 (by omega))
 rw [hv1] at c2
 have HO:=Hd h
 have HE:Hid (∀ W,Below w.heap.size w W→∀ s:Int,Calls Tryz.prog 67 #[.pointer (some ⟨v.P,0,none⟩),.int .i64 s] W (PzPost base W v (enterP p s))):=Hd (fun W hb s => zenter_any (h.below hb) s)
 have e1:p.inter.length = (p.r 1).length:=rfl
 unfold finalP
 rw [e1]
 generalize hN:(p.r 1).length = n at c2 hcv ⊢
 clear h hv1 e1
 have HB0:Hid (Below w.heap.size w w):=Hd (Below.refl _ _)
 by_cases hq:n = 0∧p.wrong = false
 · obtain ⟨rfl,hw⟩:=hq
   rw [hw] at c5
   by_cases k1:c = 91
   · subst k1
     rw [if_pos ⟨rfl,hw,rfl⟩]
     clear hcv hN hw
     go_enter Tryz.func115,Tryz.ntmps115
     go_wp2_with (go_at_call 67;(with_reducible refine (HE.out _ HB0.out _).mono ?_);rintro e w1 ⟨rfl,hr⟩;have HR:=Hd hr;clear hr)
     go_ret
     exact PzPost.ev HR.out
   rw [if_neg (fun h => k1 h.2.2)]
   by_cases k2:c = 93
   · subst k2
     rw [if_pos ⟨rfl,hw,rfl⟩]
     clear hcv hN hw
     go_enter Tryz.func115,Tryz.ntmps115
     go_wp2_with (go_at_call 67;(with_reducible refine (HE.out _ HB0.out _).mono ?_);rintro e w1 ⟨rfl,hr⟩;have HR:=Hd hr;clear hr)
     go_ret
     exact PzPost.ev HR.out
   rw [if_neg (fun h => k2 h.2.2)]
   by_cases k3:c = 80
   · subst k3
     rw [if_pos ⟨rfl,hw,rfl⟩]
     clear hcv hN hw
     go_enter Tryz.func115,Tryz.ntmps115
     go_wp2_with (go_at_call 67;(with_reducible refine (HE.out _ HB0.out _).mono ?_);rintro e w1 ⟨rfl,hr⟩;have HR:=Hd hr;clear hr)
     go_ret
     exact PzPost.ev HR.out
   rw [if_neg (fun h => k3 h.2.2)]
   by_cases k4:c = 88 ∨ c = 94 ∨ c = 95
   · rw [if_pos ⟨rfl,hw,k4⟩]
     clear hcv hN hw
     rcases k4 with rfl | rfl | rfl
     all_goals
      go_enter Tryz.func115,Tryz.ntmps115
      go_wp2_with (go_at_call 67;(with_reducible refine (HE.out _ HB0.out _).mono ?_);rintro e w1 ⟨rfl,hr⟩;have HR:=Hd hr;clear hr)
      go_ret
      exact PzPost.ev HR.out
   rw [if_neg (fun h => k4 h.2.2)]
   unfold escE
   rw [if_neg (by rw [hw];decide)]
   have k5:¬ c = 88:=fun e => k4 (.inl e)
   have k6:¬ c = 94:=fun e => k4 (.inr (.inl e))
   have k7:¬ c = 95:=fun e => k4 (.inr (.inr e))
   have HX:=Hd (ExsO.lit (w:=w) (Nat.le_refl _) (ex0_ok w w.heap.size (e:={ evE with kind:=2,byte:=c,inter:=p.inter }) rfl))
   have HB:=Hd (below_allocs (Below.refl w.heap.size w) (.cells #[.int .i64 2,.int .i32 0,.int .u8 c,.int .u8 0,.slice none 0 0,.string (strOfNums p.inter),.string ⟨#[]⟩,.bool false] 83))
   clear hw k4
   go_enter Tryz.func115,Tryz.ntmps115
   go_wp2_with (go_at_call 67;(with_reducible refine (HE.out _ HB.out _).mono ?_);rintro e w1 ⟨rfl,hr⟩;have HR:=Hd hr;clear hr)
   go_ret
   exact EvPost.mk HO.out HB.out HX.out HR.out
 · rw [if_neg (fun h => hq ⟨h.1,h.2.1⟩),if_neg (fun h => hq ⟨h.1,h.2.1⟩),if_neg (fun h => hq ⟨h.1,h.2.1⟩),if_neg (fun h => hq ⟨h.1,h.2.1⟩)]
   unfold escE
   by_cases hw:p.wrong = true
   · rw [if_pos hw]
     rw [hw] at c5
     clear hcv hN hw hq
     have hn0:(n:Int) = 0 ∨ ¬ (n:Int) = 0:=by omega
     rcases hn0 with hn0 | hn0
     all_goals
      go_enter Tryz.func115,Tryz.ntmps115
      go_wp2_with (go_at_call 67;(with_reducible refine (HE.out _ HB0.out _).mono ?_);rintro e w1 ⟨rfl,hr⟩;have HR:=Hd hr;clear hr)
      go_ret
      exact PzPost.ev HR.out
   · rw [if_neg hw]
     have hw2:p.wrong = false:=by cases hq:p.wrong <;> simp_all
     rw [hw2] at c5
     have hn0:¬ (n:Int) = 0:=fun e => hq ⟨by omega,hw2⟩
     have HX:=Hd (ExsO.lit (w:=w) (Nat.le_refl _) (ex0_ok w w.heap.size (e:={ evE with kind:=2,byte:=c,inter:=p.inter }) rfl))
     have HB:=Hd (below_allocs (Below.refl w.heap.size w) (.cells #[.int .i64 2,.int .i32 0,.int .u8 c,.int .u8 0,.slice none 0 0,.string (strOfNums p.inter),.string ⟨#[]⟩,.bool false] 83))
     clear hw hw2 hN hq
     go_enter Tryz.func115,Tryz.ntmps115
     go_wp2_with (go_at_call 67;(with_reducible refine (HE.out _ HB.out _).mono ?_);rintro e w1 ⟨rfl,hr⟩;have HR:=Hd hr;clear hr)
     go_ret
     exact EvPost.mk HO.out HB.out HX.out HR.out
end
theorem ExOk.bare {w w':World} {lo lo2:Nat} {x:Ex} (h:ExOk w lo x) (h0:x.e.nums = []):ExOk w' lo2 x:=by
 have hH:x.H = []:=by
  have:=h.g
  rw [h0] at this
  exact List.map_eq_nil_iff.1 this
 refine ⟨h.g,h.c,h.z,?_⟩
 rw [hH]
 exact ⟨fun h => absurd rfl h,⟨fun h => absurd h (by simp),fun h hh => by cases hh⟩,fun h hh => by cases hh⟩
theorem info_event:(Tryz.prog.info? 83).map (fun i => (i.zero,i.size,i.bytes)) = some (some (.agg #[.int .i64 0,.int .i32 0,.int .u8 0,.int .u8 0,.slice none 0 0,.string ⟨#[]⟩,.string ⟨#[]⟩,.bool false]),8,80):=by kernel_rfl
theorem ExsO.len {w:World} {lo:Nat} {u:Value} {L:List Ex} {evs:List Ev} (h:ExsO w lo u L evs):L.length = evs.length:=by rw [← h.es,List.length_map]
theorem ExsO.bare {w:World} {lo:Nat} {u:Value} {L:List Ex} {evs:List Ev} (h:ExsO w lo u L evs) (h0:∀ e ∈ evs,e.nums = []):∀ x ∈ L,x.e.nums = []:=fun x hx => h0 _ (by rw [← h.es];exact List.mem_map_of_mem hx)
theorem wpList_evs {ops:Array Oper} {rest:List Oper} {o:Oper} {a:Act} {w:World} {Q:Exit→Act→World→Prop} (hgd:o.guard = none) (s x:Operand) (ho:o.op = .call { callee:=.builtin .append,args:=#[s,x],argTypes:=#[79,79] })
 {lo lo2:Nat} {u u2:Value} {X L:List Ex} {evs evs2:List Ev} (hX:ExsO w lo u X evs) (hL:ExsO w lo2 u2 L evs2) (hlo2:lo ≤ lo2) (h0:∀ e ∈ evs,e.nums = []) (h2:(∀ e ∈ evs2,e.nums = []) ∨ ∀ g,u.ownBlock = some g→g < lo2) (hz:X.length + L.length ≤ 100000) (hlo:lo ≤ w.heap.size)
 (hs:a.eval s = u) (hx:a.eval x = u2)
 (h:∀ u' w',ExsO w' lo u' (X ++ L) (evs ++ evs2)→w.grownBy w' u.ownBlock→(∀ g,u'.ownBlock = some g→u.ownBlock = some g ∨ w.heap.size ≤ g)→(∀ x ∈ L,ExOk w' lo2 x)→wpList Tryz.prog ops Q rest (a.put o.dst u') w'):wpList Tryz.prog ops Q (o :: rest) a w:=by
 obtain ⟨i0,hi0,hz0,hz1,hz2⟩:=info_parts info_event
 by_cases hn:L = []
 · subst hn
   have e2:evs2 = []:=hL.es.symm
   subst e2
   obtain ⟨A,cap,rfl⟩:=row_form hX.own
   obtain ⟨A2,cap2,rfl⟩:=row_form hL.own
   have hA:A = none→X.length = 0∧cap = 0:=fun e => by
    rcases hX.own.2 with ⟨e1,e3⟩ | ⟨g,c,cur,e1,-⟩
    · exact ⟨e3,by injection e1⟩
    · rw [e] at e1;injection e1 with e1;cases e1
   have hcap:X.length ≤ cap:=by
    rcases hX.own.2 with ⟨e1,e3⟩ | ⟨g,c,cur,e1,-,-,e4,-⟩
    · omega
    · injection e1 with e1 e5 e6;omega
   refine wpList_append_zeroZ hgd s x 79 ho (e:=83) (i:=i0) Tryz.underlying79 hi0 A X.length cap hcap hA A2 cap2 hs hx (h _ _ ?_ ⟨rfl,rfl,rfl,Nat.le_refl _,fun _ _ _ => rfl⟩ (fun g hg => .inl hg) (fun x hx => by cases hx))
   rw [List.append_nil,List.append_nil]
   exact hX
 · have hpos:0 < L.length:=List.length_pos_iff.2 hn
   obtain ⟨b,cap2,rfl⟩:=own_form hL.own hpos
   refine wpList_append_g hgd s x 79 ho lo 83 i0 _ 8 80 Tryz.underlying79 hi0 hz0 hz1 hz2 rfl (by decide) u X.length (flat encEx X) hs hX.own ⟨b,0,none⟩ L.length cap2 (flat encEx L) hx (by rw [flat_len encEx_len]) (World.ownsRow.cells hL.own (g:=b) rfl) (fun u hu => ?_) (by unfold maxLen;omega) (by omega) hlo (fun v' w' h3 h4 h5 => (fun h6 => h v' w' ⟨?_,?_,fun y hy => ?_⟩ h4 h5 h6) (fun y hy => ?_))
   · obtain ⟨y,-,hy⟩:=List.mem_flatMap.1 hu
     exact encEx_one y u hy
   · rw [flat_append,List.length_append]
     exact h3
   · rw [List.map_append,hX.es,hL.es]
   · rcases List.mem_append.1 hy with hy | hy
     · exact (hX.ok y hy).bare (hX.bare h0 y hy)
     · exact (h6 y hy).weaken hlo2
   · rcases h2 with h2 | h2
     · exact (hL.ok y hy).bare (hL.bare h2 y hy)
     · exact (hL.ok y hy).mod (Mod.of_grown (X:=u.ownBlock.toList) h4 (fun g hg => by simp [hg])) (fun g hg => .inl (h2 g (Option.mem_toList.1 hg)))
theorem printsP_append:∀ (a b:List Int) (p:Pz),printsP p (a ++ b) = ((printsP (printsP p a).1 b).1,(printsP p a).2 ++ (printsP (printsP p a).1 b).2)
 | [],_,_ => rfl
 | r :: a,b,p => by
   show printsP p (r :: (a ++ b)) = _
   simp only [printsP]
   rw [printsP_append a b]
   simp
theorem printsP_snoc (a:List Int) (r:Int) (p:Pz):printsP p (a ++ [r]) = ((print1 (printsP p a).1 r).1,(printsP p a).2 ++ (print1 (printsP p a).1 r).2):=by
 rw [printsP_append]
 simp [printsP]
theorem final_nums (p:Pz) (c:Int):(∀ e ∈ (finalP p c).2,e.nums = [])∧(finalP p c).2.length ≤ 1:=by
 unfold finalP
 split
 · exact ⟨fun _ h => by simp at h,by simp⟩
 split
 · exact ⟨fun _ h => by simp at h,by simp⟩
 split
 · exact ⟨fun _ h => by simp at h,by simp⟩
 split
 · exact ⟨fun _ h => by simp at h,by simp⟩
 · unfold escE
   split
   · exact ⟨fun _ h => by simp at h,by simp⟩
   · exact ⟨fun e h => by rw [List.mem_singleton.1 h];rfl,by simp⟩
theorem print1_nums (p:Pz) (r:Int):(∀ e ∈ (print1 p r).2,e.nums = [])∧(print1 p r).2.length ≤ 1:=by
 unfold print1
 split
 · exact ⟨fun e h => by rw [List.mem_singleton.1 h];rfl,by simp⟩
 split
 · exact ⟨fun _ h => by simp at h,by simp⟩
 split
 · exact final_nums p _
 · exact ⟨fun e h => by rw [List.mem_singleton.1 h];rfl,by simp⟩
theorem prints_nums:∀ (l:List Int) (p:Pz),(∀ e ∈ (printsP p l).2,e.nums = [])∧(printsP p l).2.length ≤ l.length
 | [],_ => ⟨fun _ h => by simp [printsP] at h,by simp [printsP]⟩
 | r :: l,p => by
   obtain ⟨a1,a2⟩:=print1_nums p r
   obtain ⟨b1,b2⟩:=prints_nums l (print1 p r).1
   exact ⟨fun e h => (List.mem_append.1 h).elim (a1 e) (b1 e),by simp [printsP];omega⟩
theorem ExsO.keepB {X:List Nat} {w w':World} {lo:Nat} {u:Value} {L:List Ex} {evs:List Ev} (h:ExsO w lo u L evs) (h0:∀ e ∈ evs,e.nums = []) (hm:Mod X w w') (hd:∀ b,u.ownBlock = some b→b ∉ X):ExsO w' lo u L evs :=
 ⟨owns_mod h.own hm hd,h.es,fun x hx => (h.ok x hx).bare (h.bare h0 x hx)⟩
structure PrI (base:Nat) (w:World) (v:Zv) (p:Pz) (rs:List Int) (wr:World) (u:Value) (k:Nat) (v':Zv) (X:List Ex):Prop where
 P:v'.P = v.P
 o:PzO base wr v' (printsP p (rs.take k)).1
 x:ExsO wr w.heap.size u X (printsP p (rs.take k)).2
 m:Mod (zvX v) w wr
 n:∀ b ∈ zvX v',b ∈ zvX v ∨ w.heap.size ≤ b
 d:∀ b,u.ownBlock = some b→b ∉ zvX v'
section
variable {base:Nat} {w:World} {v:Zv} {p:Pz} {rs:List Int} {wr:World} {u:Value} {k:Nat} {v':Zv} {X:List Ex}
theorem PrI.len (h:PrI base w v p rs wr u k v' X):X.length ≤ k:=by
 have:=(prints_nums (rs.take k) p).2
 rw [h.x.len]
 exact Nat.le_trans this (by simp;omega)
theorem PrI.res (h:PrI base w v p rs wr u k v' X):PzRes base w v (printsP p (rs.take k)).1 wr:=⟨v',h.P,h.o,h.m,h.n⟩
theorem PrI.grew (h:PrI base w v p rs wr u k v' X) {w1 w2:World} {u':Value} {X':List Ex} {r:Int} (hk:rs[k]? = some r) (hb:Below wr.heap.size wr w1) (hg:w1.grownBy w2 u.ownBlock) (hu:∀ g,u'.ownBlock = some g→u.ownBlock = some g ∨ w1.heap.size ≤ g) (hp:(print1 (printsP p (rs.take k)).1 r).1 = (printsP p (rs.take k)).1) (hx:ExsO w2 w.heap.size u' X' ((printsP p (rs.take k)).2 ++ (print1 (printsP p (rs.take k)).1 r).2)):PrI base w v p rs w2 u' (k + 1) v' X':=by
 have ht:rs.take (k + 1) = rs.take k ++ [r]:=by
  obtain ⟨h1,h2⟩:=List.getElem?_eq_some_iff.1 hk
  rw [List.take_succ_eq_append_getElem h1,h2]
 have hm:Mod u.ownBlock.toList wr w2:=(Mod.of_below hb).trans (Mod.of_grown (X:=u.ownBlock.toList) hg (fun g hg => by simp [hg])) (fun g hg => .inl hg)
 refine ⟨h.P,?_,by rw [ht,printsP_snoc];exact hx,(h.m.trans hm (fun g hg => .inr (h.x.own.lt g (Option.mem_toList.1 hg)).1)),h.n,fun b hb' hx' => ?_⟩
 · rw [ht,printsP_snoc,hp]
   exact h.o.mod hm (fun b hb hx => h.d b (Option.mem_toList.1 hx) hb)
 · rcases hu b hb' with h1 | h1
   · exact h.d b h1 hx'
   · have:=(h.o.lt b hx').2
     have:=hb.size
     omega
theorem PrI.moved (h:PrI base w v p rs wr u k v' X) {w1 w2:World} {u':Value} {X':List Ex} {r:Int} {v2:Zv} (hk:rs[k]? = some r) (hP:v2.P = v'.P) (hm1:Mod (zvX v') wr w1) (hx2:∀ b ∈ zvX v2,b ∈ zvX v' ∨ wr.heap.size ≤ b) (hO:PzO base w1 v2 (print1 (printsP p (rs.take k)).1 r).1) (hg:w1.grownBy w2 u.ownBlock) (hu:∀ g,u'.ownBlock = some g→u.ownBlock = some g ∨ w1.heap.size ≤ g) (hx:ExsO w2 w.heap.size u' X' ((printsP p (rs.take k)).2 ++ (print1 (printsP p (rs.take k)).1 r).2)):PrI base w v p rs w2 u' (k + 1) v2 X':=by
 have ht:rs.take (k + 1) = rs.take k ++ [r]:=by
  obtain ⟨h1,h2⟩:=List.getElem?_eq_some_iff.1 hk
  rw [List.take_succ_eq_append_getElem h1,h2]
 have hm2:Mod u.ownBlock.toList w1 w2:=Mod.of_grown (X:=u.ownBlock.toList) hg (fun g hg => by simp [hg])
 have hd2:∀ b,u.ownBlock = some b→b ∉ zvX v2:=fun b hb hx => by
  rcases hx2 b hx with h1 | h1
  · exact h.d b hb h1
  · have:=(h.x.own.lt b hb).2;omega
 refine ⟨hP.trans h.P,?_,by rw [ht,printsP_snoc];exact hx,(h.m.trans hm1 h.n).trans hm2 (fun g hg => .inr (h.x.own.lt g (Option.mem_toList.1 hg)).1),fun b hb => ?_,fun b hb' hx' => ?_⟩
 · rw [ht,printsP_snoc]
   exact hO.mod hm2 (fun b hb hx => hd2 b (Option.mem_toList.1 hx) hb)
 · rcases hx2 b hb with h1 | h1
   · exact h.n b h1
   · exact .inr (Nat.le_trans h.m.size h1)
 · rcases hu b hb' with h1 | h1
   · exact hd2 b h1 hx'
   · have:=(hO.lt b hx').2;omega
set_option maxHeartbeats 3200000 in
theorem zprints_any (h:PzO base w v p) {lo:Nat} (hr:RsAt w lo u rs) (hlo:∀ b ∈ zvX v,b < lo) (hz:rs.length ≤ 1000) (hr0:∀ r ∈ rs,0 ≤ r∧r < 2147483648):Calls Tryz.prog 65 #[.pointer (some ⟨v.P,0,none⟩),u] w (EvPost base w v (printsP p rs)):=by
 obtain ⟨A,cap,rfl⟩:=row_form hr
 have HR:Hid (∀ wr,Mod (zvX v) w wr→∀ k,k < rs.length→∃ b r,A = some ⟨b,0,none⟩∧rs[k]? = some r∧wr.cell? ⟨b,k,none⟩ = some (.int .i32 r)∧0 ≤ r∧r < 2147483648):=Hd (fun wr hm k hk => by
  obtain ⟨b,c,he⟩:=own_form hr (by omega)
  obtain rfl:A = some ⟨b,0,none⟩:=by injection he
  have h2:=owns_mod hr hm (fun g hg hx => by have:=hlo g hx;have:=(World.ownsRow.lt hr g hg).1;omega)
  have h3:=World.ownsRow.cells h2 (g:=b) rfl k (.int .i32 (rs[k]'hk)) (by rw [List.getElem?_map,List.getElem?_eq_getElem hk];rfl)
  rw [add_lit',Nat.zero_add] at h3
  exact ⟨b,rs[k]'hk,rfl,List.getElem?_eq_getElem hk,h3,hr0 _ (List.getElem_mem hk)⟩)
 have HF:Hid (∀ W v' q c,PzO base W v' q→v'.P = v.P→Calls Tryz.prog 115 #[.pointer (some ⟨v.P,0,none⟩),.int .u8 c] W (EvPost base W v' (finalP q c))):=Hd (fun W v' q c ho e => by rw [← e];exact zfinal_any ho c)
 have HO:=Hd h
 generalize hN:rs.length = n at hz HR ⊢
 have HN:=Hd hN
 clear h hr hlo hr0 hN
 go_enter Tryz.func65,Tryz.ntmps65
 go_wp2_with fail
 go_loopw [5,10] (fun s5 s10 wr => ∃ (k:Nat) (v':Zv) (X:List Ex),s10 = .int .i64 k∧k ≤ n∧PrI base w v p rs wr s5 k v' X) (fun _ s10 _ => n - (intOf s10).toNat)
 case atStart => exact ⟨0,v,[],rfl,Nat.zero_le _,⟨rfl,HO.out,ExsO.nil _ _,Mod.refl _ _,fun _ hb => .inl hb,fun b hb => by cases hb⟩⟩
 case round =>
  obtain ⟨k,v',X,rfl,hk,hI⟩:=hrel
  obtain ⟨bx,rfl⟩:∃ bx:Value × Unit,u5 = bx.1:=⟨(u5,()),rfl⟩
  have HI:=Hd hI
  have hwk:IntKind.i64.wrap ((k:Int) + 1) = (k:Int) + 1:=IntWalk.i64_in _ (by omega)
  clear hI
  by_cases hlt:k < n
  · have hltI:(k:Int) < (n:Int):=by omega
    obtain ⟨b,r,rfl,hrk,hc,hr0,hr1⟩:=HR.out wr HI.out.m k hlt
    by_cases h1:r < 32
    · have hw8:IntKind.u8.wrap r = r:=IntWalk.u8_in _ (by omega)
      have e1:print1 (printsP p (rs.take k)).1 r = ((printsP p (rs.take k)).1,[{ evE with kind:=1,r:=0,byte:=r }]):=if_pos h1
      go_upto_region 7 with fail
      refine wp_region_lit ?_
      refine wpList_valG (bx.1) (by rfl) (by rfl) ?_
      simp only [Act.put,List.setIfInBounds_toArray,List.set_cons_zero,List.set_cons_succ]
      refine wpList_valG (.int .i32 r) (by rfl) (by rfl) ?_
      simp only [Act.put,List.setIfInBounds_toArray,List.set_cons_zero,List.set_cons_succ]
      refine wpList_valG (.int .u8 r) (by rfl) (by go_simp) ?_
      simp only [Act.put,List.setIfInBounds_toArray,List.set_cons_zero,List.set_cons_succ]
      refine wpList_valG (.agg #[.int .i64 1,.int .i32 0,.int .u8 r,.int .u8 0,.slice none 0 0,.string ⟨#[]⟩,.string ⟨#[]⟩,.bool false]) (by rfl) (by go_simp) ?_
      simp only [Act.put,List.setIfInBounds_toArray,List.set_cons_zero,List.set_cons_succ]
      have HL:=Hd (ExsO.lit (w:=wr) (lo:=w.heap.size) HI.out.m.size (ex0_ok wr w.heap.size (e:={ evE with kind:=1,r:=0,byte:=r }) rfl))
      have HBA:=Hd (below_allocs (Below.refl wr.heap.size wr) (.cells (encEx (ex0 { evE with kind:=1,r:=0,byte:=r })).toArray 83))
      refine wpList_actG (.slice (some ⟨wr.heap.size,0,none⟩) 1 1) (wr.alloc (.cells #[.int .i64 1,.int .i32 0,.int .u8 r,.int .u8 0,.slice none 0 0,.string ⟨#[]⟩,.string ⟨#[]⟩,.bool false] 83)) (by rfl) (by go_simp) ?_
      simp only [Act.put,List.setIfInBounds_toArray,List.set_cons_zero,List.set_cons_succ]
      refine wpList_evs rfl (.tmp 22) (.tmp 26) rfl (HI.out.x.below HBA.out) HL.out (Nat.le_refl _) (prints_nums _ _).1 (.inl (fun e he => by rw [List.mem_singleton.1 he];rfl)) (by have:=HI.out.len;simp;omega) (Nat.le_trans HI.out.m.size HBA.out.size) rfl rfl ?_
      intro u' w2 hx hg hu _
      have HX2:=Hd (HI.out.grew hrk HBA.out hg hu (by rw [e1]) (by rw [e1];exact hx))
      clear hx hg hu
      simp only [Act.put,List.setIfInBounds_toArray,List.set_cons_zero,List.set_cons_succ]
      go_wp2
      go_roundw
      case rel => exact ⟨k + 1,v',_,by go_num,by omega,HX2.out⟩
      case measure => simp [intOf];omega
    by_cases h2:r = 127
    · have e1:print1 (printsP p (rs.take k)).1 r = ((printsP p (rs.take k)).1,[]):=by unfold print1;rw [if_neg h1,if_pos h2]
      have HX2:=Hd (HI.out.grew hrk (Below.refl _ _) (w2:=wr) (u':=bx.1) (X':=X) ⟨rfl,rfl,rfl,Nat.le_refl _,fun _ _ _ => rfl⟩ (fun g hg => .inl hg) (by rw [e1]) (by rw [e1,List.append_nil];exact HI.out.x))
      subst h2
      go_wp2
      go_roundw
      case rel => exact ⟨k + 1,v',_,by go_num,by omega,HX2.out⟩
      case measure => simp [intOf];omega
    have h1':32 ≤ r:=by omega
    by_cases h3:128 ≤ r∧r < 160
    · have e1:print1 (printsP p (rs.take k)).1 r = finalP (printsP p (rs.take k)).1 (r - 64):=by unfold print1;rw [if_neg h1,if_neg h2,if_pos h3]
      obtain ⟨h4,h5⟩:=h3
      have hw8:IntKind.u8.wrap r = r:=IntWalk.u8_in _ (by omega)
      have hw9:IntKind.u8.wrap (r - 64) = r - 64:=IntWalk.u8_in _ (by omega)
      go_upto_region 10 with fail
      refine wp_region_lit ?_
      refine wpList_valG (bx.1) (by rfl) (by rfl) ?_
      simp only [Act.put,List.setIfInBounds_toArray,List.set_cons_zero,List.set_cons_succ]
      refine wpList_valG (.pointer (some ⟨v.P,0,none⟩)) (by rfl) (by rfl) ?_
      simp only [Act.put,List.setIfInBounds_toArray,List.set_cons_zero,List.set_cons_succ]
      refine wpList_valG (.int .i32 r) (by rfl) (by rfl) ?_
      simp only [Act.put,List.setIfInBounds_toArray,List.set_cons_zero,List.set_cons_succ]
      refine wpList_valG (.int .u8 r) (by rfl) (by go_simp) ?_
      simp only [Act.put,List.setIfInBounds_toArray,List.set_cons_zero,List.set_cons_succ]
      refine wpList_valG (.int .u8 (r - 64)) (by rfl) (by go_simp) ?_
      simp only [Act.put,List.setIfInBounds_toArray,List.set_cons_zero,List.set_cons_succ]
      refine wpList_callZ rfl 115 #[.pointer (some ⟨v.P,0,none⟩),.int .u8 (r - 64)] (by go_simp) (R:=fun u w' => ∃ L,ExsO w' wr.heap.size u L (finalP (printsP p (rs.take k)).1 (r - 64)).2∧PzRes base wr v' (finalP (printsP p (rs.take k)).1 (r - 64)).1 w') ((HF.out wr v' _ (r - 64) HI.out.o HI.out.P).mono (fun e w' ⟨u,L,he,h1,h2⟩ => ⟨u,he,L,h1,h2⟩)) ?_
      rintro u2 w2 ⟨L,hL,v2,e2,hO2,hm2,hx2⟩
      simp only [Act.put,List.setIfInBounds_toArray,List.set_cons_zero,List.set_cons_succ]
      refine wpList_evs rfl (.tmp 38) (.tmp 43) rfl (HI.out.x.keepB (prints_nums _ _).1 hm2 HI.out.d) hL HI.out.m.size (prints_nums _ _).1 (.inl (final_nums _ _).1) (by have:=HI.out.len;have:=(final_nums (printsP p (rs.take k)).1 (r - 64)).2;have:=hL.len;omega) (Nat.le_trans HI.out.m.size hm2.size) rfl rfl ?_
      intro u' w3 hx hg hu _
      have HX2:=Hd (HI.out.moved hrk e2 hm2 hx2 (by rw [e1];exact hO2) hg hu (by rw [e1];exact hx))
      clear hx hg hu hL hO2 hm2 hx2 e2
      simp only [Act.put,List.setIfInBounds_toArray,List.set_cons_zero,List.set_cons_succ]
      go_wp2
      go_roundw
      case rel => exact ⟨k + 1,v2,_,by go_num,by omega,HX2.out⟩
      case measure => simp [intOf];omega
    · have e1:print1 (printsP p (rs.take k)).1 r = ((printsP p (rs.take k)).1,[{ evE with kind:=0,r:=r,byte:=0 }]):=by unfold print1;rw [if_neg h1,if_neg h2,if_neg h3];rfl
      have h3I:r < 128 ∨ 160 ≤ r:=by omega
      rcases h3I with h3I | h3I
      all_goals
       go_upto_region 5 with fail
       refine wp_region_lit ?_
       refine wpList_valG (bx.1) (by rfl) (by rfl) ?_
       simp only [Act.put,List.setIfInBounds_toArray,List.set_cons_zero,List.set_cons_succ]
       refine wpList_valG (.int .i32 r) (by rfl) (by rfl) ?_
       simp only [Act.put,List.setIfInBounds_toArray,List.set_cons_zero,List.set_cons_succ]
       refine wpList_valG (.agg #[.int .i64 0,.int .i32 r,.int .u8 0,.int .u8 0,.slice none 0 0,.string ⟨#[]⟩,.string ⟨#[]⟩,.bool false]) (by rfl) (by go_simp) ?_
       simp only [Act.put,List.setIfInBounds_toArray,List.set_cons_zero,List.set_cons_succ]
       have HL:=Hd (ExsO.lit (w:=wr) (lo:=w.heap.size) HI.out.m.size (ex0_ok wr w.heap.size (e:={ evE with kind:=0,r:=r,byte:=0 }) rfl))
       have HBA:=Hd (below_allocs (Below.refl wr.heap.size wr) (.cells (encEx (ex0 { evE with kind:=0,r:=r,byte:=0 })).toArray 83))
       refine wpList_actG (.slice (some ⟨wr.heap.size,0,none⟩) 1 1) (wr.alloc (.cells #[.int .i64 0,.int .i32 r,.int .u8 0,.int .u8 0,.slice none 0 0,.string ⟨#[]⟩,.string ⟨#[]⟩,.bool false] 83)) (by rfl) (by go_simp) ?_
       simp only [Act.put,List.setIfInBounds_toArray,List.set_cons_zero,List.set_cons_succ]
       refine wpList_evs rfl (.tmp 14) (.tmp 17) rfl (HI.out.x.below HBA.out) HL.out (Nat.le_refl _) (prints_nums _ _).1 (.inl (fun e he => by rw [List.mem_singleton.1 he];rfl)) (by have:=HI.out.len;simp;omega) (Nat.le_trans HI.out.m.size HBA.out.size) rfl rfl ?_
       intro u' w2 hx hg hu _
       have HX2:=Hd (HI.out.grew hrk HBA.out hg hu (by rw [e1]) (by rw [e1];exact hx))
       clear hx hg hu
       simp only [Act.put,List.setIfInBounds_toArray,List.set_cons_zero,List.set_cons_succ]
       go_wp2
       go_roundw
       case rel => exact ⟨k + 1,v',_,by go_num,by omega,HX2.out⟩
       case measure => simp [intOf];omega
  · have hltI:¬ (k:Int) < (n:Int):=by omega
    obtain rfl:k = n:=by omega
    have ht:rs.take k = rs:=List.take_of_length_le (by rw [HN.out];omega)
    have HX:=Hd (show EvPost base w v (printsP p rs) (.returned bx.1) wr from ⟨bx.1,X,rfl,by have:=HI.out.x;rw [ht] at this;exact this,by have:=HI.out.res;rw [ht] at this;exact this⟩)
    go_wp2
    go_ret
    exact HX.out
end
end Go.Proofs.YtaefcahblmopfaaGreatDoor
