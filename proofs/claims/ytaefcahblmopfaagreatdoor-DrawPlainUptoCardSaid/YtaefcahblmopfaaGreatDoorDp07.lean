/- Joined by a tool of this claim out of smaller texts. Conditions: as stated. -/
import Derived.Test.YtaefcahblmopfaaGreatDoorDp06
set_option linter.unusedVariables false
set_option linter.unusedSimpArgs false
set_option maxRecDepth 100000
open Go.Lib renaming hid → Hd
namespace Go.Proofs.YtaefcahblmopfaaGreatDoor
open Go.RowKit
structure Rh where
 A:Option Addr
 cs:List Cl
 cap:Nat
 cont:Bool
def encRh (r:Rh):List Value:=[.slice r.A r.cs.length r.cap,.bool r.cont]
def roOf (r:Rh):Ro:=⟨r.cs,r.cont⟩
def zeroRh:Rh:=⟨none,[],0,false⟩
theorem encRh_len:∀ r,(encRh r).length = 2:=fun _ => rfl
theorem encRh_one:∀ r,∀ v ∈ encRh r,v.oneCell' = true:=fun r v hv => by
 simp only [encRh,List.mem_cons,List.not_mem_nil,or_false] at hv
 rcases hv with rfl | rfl <;> rfl
def RcAt (w:World) (r:Rh):Prop :=
 r.cs.length ≤ 10000∧Fine r.cs∧GrAt encCl 8 w r.A r.cs∧(0 < r.cs.length→∃ b off cs f,r.A = some ⟨b,off,none⟩∧w.heap[b]? = some (.cells cs 65 f))
def NoCel (w:World) (X:List Nat):Prop:=∀ b ∈ X,∀ cs f,w.heap[b]? ≠ some (.cells cs 65 f)
theorem RcAt.mod {X:List Nat} {w w':World} {r:Rh} (h:RcAt w r) (hm:Mod X w w') (hX:NoCel w X):RcAt w' r:=by
 obtain ⟨h1,h2,h3,h4⟩:=h
 by_cases h0:0 < r.cs.length
 · obtain ⟨b,off,cs,f,hA,hb⟩:=h4 h0
   have hbX:b ∉ X:=fun hx => hX b hx cs f hb
   refine ⟨h1,h2,?_,fun _ => ⟨b,off,cs,f,hA,(hm.block b (Array.getElem?_eq_some_iff.1 hb).1 hbX).trans hb⟩⟩
   rw [hA] at h3 ⊢
   exact gr_mod h3 hm hbX
 · exact ⟨h1,h2,fun h => absurd h h0,fun h => absurd h h0⟩
theorem NoCel.nil (w:World):NoCel w []:=fun _ h => by cases h
theorem RcAt.below {w w':World} {r:Rh} (h:RcAt w r) (hb:Below w.heap.size w w'):RcAt w' r:=h.mod (Mod.of_below (X:=[]) hb) (NoCel.nil w)
theorem RcAt.of_own {w:World} {base g cap:Nat} {l:List Cl} (h:CrO w base g cap l) (hz:l.length ≤ 10000) (hf:Fine l) (cont:Bool):RcAt w ⟨some ⟨g,0,none⟩,l,cap,cont⟩:=by
 refine ⟨hz,hf,fun h0 => ⟨g,0,rfl,fun i x hx j v hv => by rw [Nat.zero_add];exact h.range hx j v hv⟩,fun h0 => ?_⟩
 rcases h.2 with ⟨e,-⟩ | ⟨g',c',cur,e,_,e3,_⟩
 · cases e
 · simp only [Value.slice.injEq,Option.some.injEq,Addr.mk.injEq,and_true,true_and] at e
   obtain ⟨rfl,-⟩:=e
   exact ⟨g,0,cur,(0,0),rfl,e3⟩
theorem RcAt.cont {w:World} {r:Rh} (h:RcAt w r) (b:Bool):RcAt w { r with cont:=b }:=h
def slotOf (m first i:Nat):Nat:=if m ≤ first + i then first + i - m else first + i
def histL (SL:List Rh) (first n:Nat):List Rh:=(List.range n).map (fun i => SL.getD (slotOf SL.length first i) zeroRh)
theorem histL_len (SL:List Rh) (first n:Nat):(histL SL first n).length = n:=by simp [histL]
theorem slotOf_lt {m first i:Nat} (hf:first < m) (hi:i < m):slotOf m first i < m:=by unfold slotOf;split <;> omega
theorem slotOf_inj {m first i j:Nat} (hf:first < m) (hi:i < m) (hj:j < m) (h:slotOf m first i = slotOf m first j):i = j:=by
 unfold slotOf at h
 split at h <;> split at h <;> omega
theorem histL_at {SL:List Rh} {first n i:Nat} (hf:first < SL.length) (hn:n ≤ SL.length) (hi:i < n):(histL SL first n)[i]? = SL[slotOf SL.length first i]?:=by
 have hs:=slotOf_lt hf (show i < SL.length by omega)
 unfold histL
 rw [List.getElem?_map,List.getElem?_range hi]
 simp [List.getD_eq_getElem?_getD,List.getElem?_eq_getElem hs]
theorem histL_push {SL:List Rh} {first n:Nat} (hf:first < SL.length) (hn:n < SL.length) (r:Rh):histL (SL.set (slotOf SL.length first n) r) first (n + 1) = histL SL first n ++ [r]:=by
 have hs:=slotOf_lt hf hn
 refine List.ext_getElem? fun i => ?_
 rcases Nat.lt_or_ge i (n + 1) with hi | hi
 · rw [histL_at (by simpa using hf) (by simp;omega) hi,List.length_set]
   rcases Nat.lt_or_ge i n with h | h
   · rw [List.getElem?_append_left (by rw [histL_len];exact h),histL_at hf (by omega) h,List.getElem?_set_ne (fun e => by have:=slotOf_inj hf (by omega) (by omega) e;omega)]
   · have:i = n:=by omega
     subst this
     rw [List.getElem?_append_right (by rw [histL_len];exact Nat.le_refl _),histL_len,List.getElem?_set_self hs]
     simp
 · rw [List.getElem?_eq_none (by rw [histL_len];exact hi),List.getElem?_eq_none (by simp [histL_len];omega)]
theorem histL_drop {SL:List Rh} {first n:Nat} (hf:first < SL.length) (hn:n ≤ SL.length) (h0:0 < n) (r:Rh):histL (SL.set first r) (slotOf SL.length first 1) (n - 1) = (histL SL first n).drop 1:=by
 refine List.ext_getElem? fun i => ?_
 rw [List.getElem?_drop]
 rcases Nat.lt_or_ge i (n - 1) with hi | hi
 · have h1:1 < SL.length:=by omega
   have hs:=slotOf_lt hf h1
   rw [histL_at (by simpa using hs) (by simp;omega) hi,histL_at hf hn (by omega),List.length_set]
   have e:slotOf SL.length (slotOf SL.length first 1) i = slotOf SL.length first (1 + i):=by
    unfold slotOf
    repeat' split
    all_goals omega
   rw [e,List.getElem?_set_ne]
   unfold slotOf
   split <;> omega
 · rw [List.getElem?_eq_none (by rw [histL_len];exact hi),List.getElem?_eq_none (by rw [histL_len];omega)]
theorem histL_grown {H Z:List Rh}:histL (H ++ Z) 0 H.length = H:=by
 refine List.ext_getElem? fun i => ?_
 rcases Nat.lt_or_ge i H.length with hi | hi
 · rw [histL_at (by simp;omega) (by simp) hi]
   have e:slotOf (H ++ Z).length 0 i = i:=by unfold slotOf;rw [if_neg (by simp;omega)];omega
   rw [e,List.getElem?_append_left hi]
 · rw [List.getElem?_eq_none (by rw [histL_len];exact hi),List.getElem?_eq_none hi]
structure RgO (base:Nat) (w:World) (R:Nat) (vl:Value) (SL:List Rh) (room first n:Nat) (gone:Int):Prop where
 blk:w.heap[R]? = some (.cells #[vl,.int .i64 room,.int .i64 first,.int .i64 n,.int .u64 gone] 225 (0,0))
 own:w.ownsRow base 52 2 vl SL.length (flat encRh SL)
 hb:base ≤ R
 hroom:room ≤ 100000
 hn:n ≤ SL.length
 hm:SL.length ≤ room
 hf:first < SL.length ∨ (first = 0∧SL.length = 0)
 rows:∀ r ∈ histL SL first n,RcAt w r∧0 < r.cs.length
def ringX (R:Nat) (vl:Value):List Nat:=R :: vl.ownBlock.toList
theorem own_block {w:World} {base n size:Nat} {e:TypeId} {v:Value} {xs:List Value} (h:w.ownsRow base e size v n xs) {g:Nat} (hg:v.ownBlock = some g):∃ cur:Array Value,w.heap[g]? = some (.cells cur e (0,0)):=by
 rcases h.2 with ⟨rfl,-⟩ | ⟨g',c',cur,rfl,_,e3,_⟩
 · simp [Value.ownBlock] at hg
 · simp [Value.ownBlock] at hg
   subst hg
   exact ⟨cur,e3⟩
theorem RgO.nocel {base:Nat} {w:World} {R:Nat} {vl:Value} {SL:List Rh} {room first n:Nat} {gone:Int} (h:RgO base w R vl SL room first n gone):NoCel w (ringX R vl):=by
 intro b hb cs f he
 rcases List.mem_cons.1 hb with rfl | hb
 · rw [h.blk] at he
   injection he with he
   injection he with _ ht
   exact absurd ht (by decide)
 · obtain ⟨cur,hc⟩:=own_block h.own (by simpa [Option.mem_toList] using hb)
   rw [hc] at he
   injection he with he
   injection he with _ ht
   exact absurd ht (by decide)
theorem RgO.mod {X:List Nat} {base:Nat} {w w':World} {R:Nat} {vl:Value} {SL:List Rh} {room first n:Nat} {gone:Int} (h:RgO base w R vl SL room first n gone) (hm:Mod X w w') (hX:NoCel w X) (hR:∀ g ∈ ringX R vl,g ∉ X):RgO base w' R vl SL room first n gone :=
 ⟨(hm.block R (Array.getElem?_eq_some_iff.1 h.blk).1 (hR R (by simp [ringX]))).trans h.blk,owns_mod h.own hm (fun g hg => hR g (by simp [ringX,hg])),h.hb,h.hroom,h.hn,h.hm,h.hf,fun r hr => ⟨(h.rows r hr).1.mod hm hX,(h.rows r hr).2⟩⟩
theorem RgO.below {base:Nat} {w w':World} {R:Nat} {vl:Value} {SL:List Rh} {room first n:Nat} {gone:Int} (h:RgO base w R vl SL room first n gone) (hb:Below w.heap.size w w'):RgO base w' R vl SL room first n gone :=
 h.mod (Mod.of_below (X:=[]) hb) (NoCel.nil w) (fun _ _ h => by cases h)
theorem RgO.lt {base:Nat} {w:World} {R:Nat} {vl:Value} {SL:List Rh} {room first n:Nat} {gone:Int} (h:RgO base w R vl SL room first n gone):∀ g ∈ ringX R vl,base ≤ g∧g < w.heap.size:=fun g hg => by
 rcases List.mem_cons.1 hg with rfl | hg
 · exact ⟨h.hb,(Array.getElem?_eq_some_iff.1 h.blk).1⟩
 · exact h.own.lt g (by simpa [Option.mem_toList] using hg)
theorem RgO.ne {base:Nat} {w:World} {R:Nat} {vl:Value} {SL:List Rh} {room first n:Nat} {gone:Int} (h:RgO base w R vl SL room first n gone) {g:Nat} (hg:vl.ownBlock = some g):g ≠ R:=by
 rintro rfl
 obtain ⟨cur,hc⟩:=own_block h.own hg
 rw [h.blk] at hc
 injection hc with hc
 injection hc with _ ht
 exact absurd ht (by decide)
theorem copy_cells (r:Rh) (w:World) (h:RcAt w r) (h0:0 < r.cs.length) :
 ∃ g cap w',(Builtin.append_ #[50,50] 50 #[.slice none 0 0,.slice r.A r.cs.length r.cap]).run Tryz.prog w = .ok (.slice (some ⟨g,0,none⟩) r.cs.length cap) w'∧CrO w' w.heap.size g cap r.cs∧Below w.heap.size w w':=by
 obtain ⟨j0,hj,gz0,gz1,gz2⟩:=info_parts info_cellz
 obtain ⟨hz,hf,hg,hA⟩:=h
 obtain ⟨b,off,cs,f,hA,-⟩:=hA h0
 rw [hA] at hg ⊢
 obtain ⟨v',w',hr,ho,hgr,-⟩:=run_append_own_at (P:=Tryz.prog) w w.heap.size 50 50 65 j0 _ 8 72 Tryz.underlying50 hj gz0 gz1 gz2 rfl (by decide) _ 0 [] (World.ownsRow_nil _ _ _ _) ⟨b,off,none⟩ r.cs.length r.cap (flat encCl r.cs) (flat_len encCl_len r.cs) (hg.news encCl_len) (flat_one encCl_one _) (by simp only [maxLen];omega) (by omega) (Nat.le_refl _)
 rw [Nat.zero_add,List.nil_append] at ho
 obtain ⟨g,cap,hv⟩:=Go.Joins.ownsRow_form ho h0
 subst hv
 exact ⟨g,cap,w',hr,ho,(Below.refl _ _).grown hgr (Nat.le_refl _) (fun k hk => by cases hk)⟩
def OwnPost (r:Rh) (w:World) (e:Ending) (w':World):Prop:=∃ g cap,e = .returned (.agg #[.slice (some ⟨g,0,none⟩) r.cs.length cap,.bool r.cont])∧RcAt w' ⟨some ⟨g,0,none⟩,r.cs,cap,r.cont⟩∧Below w.heap.size w w'∧w.heap.size ≤ g
theorem info_row:(Tryz.prog.info? 52).map (·.size) = some 2:=by kernel_rfl
theorem ret_row {fn:Func} {p:Tmp} (hr:fn.results = #[.cell p 52]) (tmps:Array Value) (w:World) (b:Nat) (u v:Value) (hp:tmps.getD p undef = .pointer (some ⟨b,0,none⟩)) (h0:w.cell? ⟨b,0,none⟩ = some u) (h1:w.cell? ⟨b,1,none⟩ = some v) :
 (results fn tmps).run Tryz.prog w = .ok (.agg #[u,v]) w:=by
 rw [results_cell1 hr,hp]
 have:=run_loadVar_mid (P:=Tryz.prog) w b 0 52 [u,v] _ (fun j x hj => by
  rw [Nat.zero_add]
  match j,hj with
  | 0,hj => simp at hj;subst hj;exact h0
  | 1,hj => simp at hj;subst hj;exact h1) Tryz.underlying52 rfl info_row
 simp only [asAddr,Sem.run_pure,Result.andThen_ok,this]
set_option maxHeartbeats 3200000 in
theorem rown_any (r:Rh) (w:World) (h:RcAt w r) (h0:0 < r.cs.length):Calls Tryz.prog 250 #[.agg #[.slice r.A r.cs.length r.cap,.bool r.cont]] w (OwnPost r w):=by
 have H:=Hd h
 have H0:=Hd h0
 clear h h0
 obtain ⟨A,cs,cap0,cont⟩:=r
 simp only at H H0
 go_enter Tryz.func250,Tryz.ntmps250
 go_upto_region 1 with fail
 have HB:=Hd (below_allocs (below_allocs (Below.refl w.heap.size w) (.cells #[.slice A cs.length cap0,.bool cont] 52)) (.cells #[.slice none 0 0,.bool false] 52))
 have x:=hp_old (o:=.cells #[.slice none 0 0,.bool false] 52) (hp_new (W:=w) (b:=w.heap.size) (o:=.cells #[.slice A cs.length cap0,.bool cont] 52) rfl)
 have y:=hp_new (W:=w.alloc (.cells #[.slice A cs.length cap0,.bool cont] 52)) (b:=w.heap.size + 1) (o:=.cells #[.slice none 0 0,.bool false] 52) (by simp)
 generalize World.alloc _ _ = W at HB x y ⊢
 have x0:=(at_ x 0 _ rfl).1
 have x1:=(at_ x 1 _ rfl).1
 have Y:=Hd y
 clear x y
 refine wp_region_n 5 (fun w' => Below W.heap.size W w'∧w'.cell? ⟨w.heap.size,0,none⟩ = some (.slice A cs.length cap0)∧w'.cell? ⟨w.heap.size,1,none⟩ = some (.bool cont)) (by kernel_rfl) (by kernel_rfl) (fun w1 w2 hS hb => ⟨below_tail hS.1 hb,holda hb hS.2.1,holda hb hS.2.2⟩) ⟨(Below.refl _ _).drew,x0,x1⟩ ?_
 refine AtN.go 0 ?_
 iterate 2 (refine AtC.take (o:=⟨_,_,_,_,_,_⟩) (v:=?_) (by kernel_rfl) rfl (by simp) (by kernel_rfl) (by kernel_rfl) ?_ ?_;rotate_left;(focus (first | exact StabN.skip (by rfl) | (refine StabN.val (by rfl) ?_;intro w' hS;obtain ⟨_,_,_⟩:=hS;go_simp;first | done | with_reducible rfl)));simp only [Act.put,List.setIfInBounds_toArray,List.set_cons_zero,List.set_cons_succ])
 refine AtC.back ?_
 refine AtN.go 3 ?_
 iterate 2 (refine AtC.take (o:=⟨_,_,_,_,_,_⟩) (v:=?_) (by kernel_rfl) rfl (by simp) (by kernel_rfl) (by kernel_rfl) ?_ ?_;rotate_left;(focus (first | exact StabN.skip (by rfl) | (refine StabN.val (by rfl) ?_;intro w' hS;obtain ⟨_,_,_⟩:=hS;go_simp;first | done | with_reducible rfl)));simp only [Act.put,List.setIfInBounds_toArray,List.set_cons_zero,List.set_cons_succ])
 refine AtC.back ?_
 refine AtN.one 2 (o:=⟨some 5,.call { callee:=.builtin .append,args:=#[.const (.slice none 0 0),.tmp 4],argTypes:=#[50,50] },50,_,_,none⟩) (fun v => ∃ g cap,v = .slice (some ⟨g,0,none⟩) cs.length cap) (fun v w' => ∃ g cap,v = .slice (some ⟨g,0,none⟩) cs.length cap∧RcAt w' ⟨some ⟨g,0,none⟩,cs,cap,cont⟩∧w.heap.size ≤ g) (by simp) (by kernel_rfl) rfl (fun v w1 w2 ⟨g,cap,hv,hr,hg⟩ hb => ⟨g,cap,hv,hr.below hb,hg⟩) (StabN.new _ _ (by rfl) (fun w' hS => ?_)) ?_
 · obtain ⟨g,cap,w2,hr,hc,hb⟩:=copy_cells ⟨A,cs,cap0,cont⟩ w' (H.out.below (below_tail HB.out hS.1)) H0.out
   exact ⟨_,w2,exec_append _ _ _ rfl _ _ _ rfl rfl hr,⟨g,cap,rfl⟩,⟨g,cap,rfl,.of_own hc H.out.1 H.out.2.1 cont,Nat.le_trans (below_tail HB.out hS.1).size hc.lt.1⟩,hb⟩
 rintro v ⟨g,cap,rfl⟩
 simp only [Act.put,List.setIfInBounds_toArray,List.set_cons_zero,List.set_cons_succ]
 refine AtN.done (by kernel_rfl) (fun w' hS => ?_)
 obtain ⟨⟨hb1,-,-⟩,g',cap',hv,hrc,hg⟩:=hS
 simp only [Value.slice.injEq,Option.some.injEq,Addr.mk.injEq,and_true,true_and] at hv
 obtain ⟨rfl,rfl⟩:=hv
 have HR:=Hd hrc
 have HG:=Hd hg
 have HB2:=Hd (below_tail HB.out hb1)
 obtain ⟨y0,y0f⟩:=hold hb1 (at_ Y.out 0 _ rfl)
 obtain ⟨y1,y1f⟩:=hold hb1 (at_ Y.out 1 _ rfl)
 have HB1:=Hd hb1
 clear hb1 hrc hg x0 x1
 go_wp2
 have HB3:=below_set (below_set HB2.out (show w.heap.size ≤ w.heap.size + 1 by omega) (o:=0) (.slice (some ⟨g,0,none⟩) cs.length cap)) (show w.heap.size ≤ w.heap.size + 1 by omega) (o:=1) (.bool cont)
 have hset:=set_two (u':=.slice (some ⟨g,0,none⟩) cs.length cap) (v':=.bool cont) ⟨y0,y0f⟩ ⟨y1,y1f⟩
 refine bodyPost_ret (ret_row rfl _ _ (w.heap.size + 1) _ _ rfl hset.1.1 hset.2.1) rfl ⟨g,cap,rfl,HR.out.mod (X:=[w.heap.size + 1]) (((Mod.refl _ _).setCell (a:=⟨w.heap.size + 1,0,none⟩) (.inl (by simp)) _).setCell (a:=⟨w.heap.size + 1,1,none⟩) (.inl (by simp)) _) ?_,HB3,HG.out⟩
 intro b hb cs' f he
 rw [List.mem_singleton.1 hb,HB1.out.block _ (lt_of_heap Y.out),Y.out] at he
 injection he with he
 injection he with _ ht
 exact absurd ht (by decide)
set_option maxHeartbeats 3200000 in
theorem pown_any (r:Rh) (w:World) (h:RcAt w r) (h0:0 < r.cs.length):Calls Tryz.prog 160 #[.agg #[.slice r.A r.cs.length r.cap,.bool r.cont]] w (OwnPost r w):=by
 have H:=Hd h
 have H0:=Hd h0
 clear h h0
 obtain ⟨A,cs,cap0,cont⟩:=r
 simp only at H H0
 go_enter Tryz.func160,Tryz.ntmps160
 go_upto_region 1 with fail
 have HB:=Hd (below_allocs (below_allocs (Below.refl w.heap.size w) (.cells #[.slice A cs.length cap0,.bool cont] 52)) (.cells #[.slice none 0 0,.bool false] 52))
 have x:=hp_old (o:=.cells #[.slice none 0 0,.bool false] 52) (hp_new (W:=w) (b:=w.heap.size) (o:=.cells #[.slice A cs.length cap0,.bool cont] 52) rfl)
 have y:=hp_new (W:=w.alloc (.cells #[.slice A cs.length cap0,.bool cont] 52)) (b:=w.heap.size + 1) (o:=.cells #[.slice none 0 0,.bool false] 52) (by simp)
 generalize World.alloc _ _ = W at HB x y ⊢
 have x0:=(at_ x 0 _ rfl).1
 have x1:=(at_ x 1 _ rfl).1
 have Y:=Hd y
 clear x y
 refine wp_region_n 5 (fun w' => Below W.heap.size W w'∧w'.cell? ⟨w.heap.size,0,none⟩ = some (.slice A cs.length cap0)∧w'.cell? ⟨w.heap.size,1,none⟩ = some (.bool cont)) (by kernel_rfl) (by kernel_rfl) (fun w1 w2 hS hb => ⟨below_tail hS.1 hb,holda hb hS.2.1,holda hb hS.2.2⟩) ⟨(Below.refl _ _).drew,x0,x1⟩ ?_
 refine AtN.go 0 ?_
 iterate 2 (refine AtC.take (o:=⟨_,_,_,_,_,_⟩) (v:=?_) (by kernel_rfl) rfl (by simp) (by kernel_rfl) (by kernel_rfl) ?_ ?_;rotate_left;(focus (first | exact StabN.skip (by rfl) | (refine StabN.val (by rfl) ?_;intro w' hS;obtain ⟨_,_,_⟩:=hS;go_simp;first | done | with_reducible rfl)));simp only [Act.put,List.setIfInBounds_toArray,List.set_cons_zero,List.set_cons_succ])
 refine AtC.back ?_
 refine AtN.go 3 ?_
 iterate 2 (refine AtC.take (o:=⟨_,_,_,_,_,_⟩) (v:=?_) (by kernel_rfl) rfl (by simp) (by kernel_rfl) (by kernel_rfl) ?_ ?_;rotate_left;(focus (first | exact StabN.skip (by rfl) | (refine StabN.val (by rfl) ?_;intro w' hS;obtain ⟨_,_,_⟩:=hS;go_simp;first | done | with_reducible rfl)));simp only [Act.put,List.setIfInBounds_toArray,List.set_cons_zero,List.set_cons_succ])
 refine AtC.back ?_
 refine AtN.one 2 (o:=⟨some 5,.call { callee:=.builtin .append,args:=#[.const (.slice none 0 0),.tmp 4],argTypes:=#[50,50] },50,_,_,none⟩) (fun v => ∃ g cap,v = .slice (some ⟨g,0,none⟩) cs.length cap) (fun v w' => ∃ g cap,v = .slice (some ⟨g,0,none⟩) cs.length cap∧RcAt w' ⟨some ⟨g,0,none⟩,cs,cap,cont⟩∧w.heap.size ≤ g) (by simp) (by kernel_rfl) rfl (fun v w1 w2 ⟨g,cap,hv,hr,hg⟩ hb => ⟨g,cap,hv,hr.below hb,hg⟩) (StabN.new _ _ (by rfl) (fun w' hS => ?_)) ?_
 · obtain ⟨g,cap,w2,hr,hc,hb⟩:=copy_cells ⟨A,cs,cap0,cont⟩ w' (H.out.below (below_tail HB.out hS.1)) H0.out
   exact ⟨_,w2,exec_append _ _ _ rfl _ _ _ rfl rfl hr,⟨g,cap,rfl⟩,⟨g,cap,rfl,.of_own hc H.out.1 H.out.2.1 cont,Nat.le_trans (below_tail HB.out hS.1).size hc.lt.1⟩,hb⟩
 rintro v ⟨g,cap,rfl⟩
 simp only [Act.put,List.setIfInBounds_toArray,List.set_cons_zero,List.set_cons_succ]
 refine AtN.done (by kernel_rfl) (fun w' hS => ?_)
 obtain ⟨⟨hb1,-,-⟩,g',cap',hv,hrc,hg⟩:=hS
 simp only [Value.slice.injEq,Option.some.injEq,Addr.mk.injEq,and_true,true_and] at hv
 obtain ⟨rfl,rfl⟩:=hv
 have HR:=Hd hrc
 have HG:=Hd hg
 have HB2:=Hd (below_tail HB.out hb1)
 obtain ⟨y0,y0f⟩:=hold hb1 (at_ Y.out 0 _ rfl)
 obtain ⟨y1,y1f⟩:=hold hb1 (at_ Y.out 1 _ rfl)
 have HB1:=Hd hb1
 clear hb1 hrc hg x0 x1
 go_wp2
 have HB3:=below_set (below_set HB2.out (show w.heap.size ≤ w.heap.size + 1 by omega) (o:=0) (.slice (some ⟨g,0,none⟩) cs.length cap)) (show w.heap.size ≤ w.heap.size + 1 by omega) (o:=1) (.bool cont)
 have hset:=set_two (u':=.slice (some ⟨g,0,none⟩) cs.length cap) (v':=.bool cont) ⟨y0,y0f⟩ ⟨y1,y1f⟩
 refine bodyPost_ret (ret_row rfl _ _ (w.heap.size + 1) _ _ rfl hset.1.1 hset.2.1) rfl ⟨g,cap,rfl,HR.out.mod (X:=[w.heap.size + 1]) (((Mod.refl _ _).setCell (a:=⟨w.heap.size + 1,0,none⟩) (.inl (by simp)) _).setCell (a:=⟨w.heap.size + 1,1,none⟩) (.inl (by simp)) _) ?_,HB3,HG.out⟩
 intro b hb cs' f he
 rw [List.mem_singleton.1 hb,HB1.out.block _ (lt_of_heap Y.out),Y.out] at he
 injection he with he
 injection he with _ ht
 exact absurd ht (by decide)
theorem own_form {w:World} {base n size:Nat} {e:TypeId} {v:Value} {xs:List Value} (h:w.ownsRow base e size v n xs) (hn:0 < n):∃ g c,v = .slice (some ⟨g,0,none⟩) n c:=by
 rcases h.2 with ⟨-,h0⟩ | ⟨g,cap,cur,rfl,-⟩
 · omega
 · exact ⟨g,cap,rfl⟩
theorem slot_raw {R m first c:Nat} {A:Option Addr} {w:World} (x0:w.cell? ⟨R,0,none⟩ = some (.slice A m c)) (x2:w.cell? ⟨R,2,none⟩ = some (.int .i64 first)) (hm:m ≤ 100000) (hf:first ≤ 100000) (i:Nat) (hi:i ≤ 100000) :
 Calls Tryz.prog 251 #[.pointer (some ⟨R,0,none⟩),.int .i64 i] w fun e w' => e = .returned (.int .i64 (slotOf m first i))∧w = w':=by
 obtain ⟨s,hs⟩:∃ s:Nat,s = first + i:=⟨_,rfl⟩
 have hsI:(i:Int) + (first:Int) = (s:Int):=by omega
 have hws:IntKind.i64.wrap (s:Int) = (s:Int):=IntWalk.i64_in _ (by omega)
 by_cases hc:m ≤ s
 · have hv2:slotOf m first i = s - m:=by unfold slotOf;rw [if_pos (by omega)];omega
   rw [hv2]
   have hcI:(m:Int) ≤ (s:Int):=by omega
   have hd:(s:Int) - (m:Int) = ((s - m:Nat):Int):=by omega
   have hwd:IntKind.i64.wrap ((s - m:Nat):Int) = ((s - m:Nat):Int):=IntWalk.i64_in _ (by omega)
   clear hs hf hm
   go_enter Tryz.func251,Tryz.ntmps251
   go_wp2
   go_ret
   exact ⟨rfl,rfl⟩
 · have hv2:slotOf m first i = s:=by unfold slotOf;rw [if_neg (by omega)];omega
   rw [hv2]
   have hcI:¬ (m:Int) ≤ (s:Int):=by omega
   clear hs hf hm
   go_enter Tryz.func251,Tryz.ntmps251
   go_wp2
   go_ret
   exact ⟨rfl,rfl⟩
section
variable {base:Nat} {w:World} {R:Nat} {vl:Value} {SL:List Rh} {room first n:Nat} {gone:Int}
theorem rlen_any (h:RgO base w R vl SL room first n gone):Calls Tryz.prog 161 #[.pointer (some ⟨R,0,none⟩)] w fun e w' => e = .returned (.int .i64 n)∧w = w':=by
 have x3:=(at_ h.blk 3 _ rfl).1
 clear h
 go_enter Tryz.func161,Tryz.ntmps161
 go_wp2
 go_ret
 exact ⟨rfl,rfl⟩
end
theorem rnew_ok (room:Nat) (w:World) (hr:room ≤ 100000):Calls Tryz.prog 110 #[.int .i64 room] w fun e w' => e = .returned (.tuple #[.pointer (some ⟨w.heap.size,0,none⟩),.int .i64 0])∧RgO w.heap.size w' w.heap.size (.slice none 0 0) [] room 0 0 0∧Below w.heap.size w w':=by
 have hrI:¬ (100000:Int) < (room:Int):=by omega
 have hrI0:¬ (room:Int) < 0:=by omega
 go_enter Tryz.func110,Tryz.ntmps110
 go_wp2
 go_ret2
 exact ⟨rfl,⟨hp_new rfl,World.ownsRow_nil _ _ _ _,Nat.le_refl _,hr,Nat.le_refl _,Nat.zero_le _,.inr ⟨rfl,rfl⟩,fun r hr => by cases hr⟩,below_allocs (Below.refl _ _) _⟩
def RgPost (base:Nat) (w:World) (R:Nat) (vl:Value) (room:Nat) (gone':Int) (H':List Ro) (w':World):Prop :=
 ∃ vl' SL' first' n',RgO base w' R vl' SL' room first' n' gone'∧(histL SL' first' n').map roOf = H'∧Mod (ringX R vl) w w'∧∀ g,vl'.ownBlock = some g→vl.ownBlock = some g ∨ w.heap.size ≤ g
theorem RgO.reblk {base:Nat} {w w':World} {R:Nat} {vl vl':Value} {SL SL':List Rh} {room first n first' n':Nat} {gone gone':Int} (h:RgO base w R vl SL room first n gone)
 (hb:w'.heap[R]? = some (.cells #[vl',.int .i64 room,.int .i64 first',.int .i64 n',.int .u64 gone'] 225 (0,0))) (ho:w'.ownsRow base 52 2 vl' SL'.length (flat encRh SL')) (hn:n' ≤ SL'.length) (hm:SL'.length ≤ room)
 (hf:first' < SL'.length ∨ (first' = 0∧SL'.length = 0)) (hr:∀ r ∈ histL SL' first' n',RcAt w' r∧0 < r.cs.length):RgO base w' R vl' SL' room first' n' gone':=⟨hb,ho,h.hb,h.hroom,hn,hm,hf,hr⟩
section
variable {base:Nat} {w:World} {R:Nat} {vl:Value} {SL:List Rh} {room first n:Nat} {gone:Int}
end
end Go.Proofs.YtaefcahblmopfaaGreatDoor
