/- Joined by a tool of this claim out of smaller texts. Conditions: as stated. -/
import Derived.Test.YtffdblmdelgkaaaGreatRt24
import Derived.Test.YtffdblmdelgkaaaGreatRt27
import Derived.Test.YtffdblmdelgkaaaGreatRt28
import Derived.Test.YtffdblmdelgkaaaGreatRt31
set_option linter.unusedVariables false
set_option linter.unusedSimpArgs false
set_option maxRecDepth 100000
open Go.Lib renaming hid → Hd
namespace Go.Proofs.YtffdblmdelgkaaaGreat
open Go.RowKit
theorem rsP1_cons (g:Pg) (cols:Nat) (at_:P2) (l:List P2):∃ rest,rest.length = l.length∧rsP1 g cols at_ l = (((rsRow g cols at_ l:Nat):Int),((rsCol g cols at_ l:Nat):Int)) :: rest:=by
 unfold rsRow rsCol rsP1 rsP
 by_cases h:cols = g.cols
 · rw [if_pos h];exact ⟨l,rfl,by simp⟩
 · rw [if_neg h,List.map_cons]
   refine ⟨l.map (rfP cols (g.hist ++ g.scr)),List.length_map _,?_⟩
   simp [rfP]
theorem rsAll_wide {g:Pg} {cols:Nat} (hc:2 ≤ cols) (hw:∀ r ∈ g.hist ++ g.scr,r.cs.length = g.cols):∀ r ∈ rsAll g cols,r.cs.length = cols:=by
 unfold rsAll
 split
 · next h => intro r hr;rw [h];exact hw r hr
 · exact reflowL_wide hc _
theorem reflowL_pos {cols:Nat} {M:List Ro} (h:0 < M.length):0 < (reflowL cols M).length:=by
 unfold reflowL
 cases hG:groupsL M with
 | nil => have h1:=(groupsL_nil_iff _).1 hG;rw [h1] at h;simp at h
 | cons a G => rw [List.flatMap_cons,List.length_append];have:=madeG_pos cols a;omega
theorem reflowL_lim {cols:Nat} {M:List Ro} (hc:2 ≤ cols) (hN:cntL M ≤ 10000) (hL:M.length ≤ 10000):(reflowL cols M).length ≤ 20000:=by
 have hlr:=outN_le hc (groupsL M)
 rw [groupsL_flat] at hlr
 have hgl:=groupsL_len_le M
 unfold reflowL
 omega
theorem rsAll_len {g:Pg} {cols:Nat} (hc:2 ≤ cols) (hN:cntL (g.hist ++ g.scr) ≤ 10000) (hL:(g.hist ++ g.scr).length ≤ 10000) (h0:0 < (g.hist ++ g.scr).length):0 < (rsAll g cols).length∧(rsAll g cols).length ≤ 20000:=by
 unfold rsAll
 split
 · exact ⟨h0,by omega⟩
 · exact ⟨reflowL_pos h0,reflowL_lim hc hN hL⟩
theorem rsRow_le {g:Pg} {cols:Nat} (hc:2 ≤ cols) (hN:cntL (g.hist ++ g.scr) ≤ 10000) (hL:(g.hist ++ g.scr).length ≤ 10000) (h0:0 < g.scr.length) (at_:P2) (l:List P2):rsRow g cols at_ l ≤ 20000:=by
 unfold rsRow rsP1
 split
 · unfold rsP
   simp only [List.headD_cons,Int.toNat_natCast]
   unfold rsY
   rw [List.length_append] at hL
   omega
 · unfold rsP
   simp only [List.map_cons,List.headD_cons]
   have h1:=reflowP_le cols (g.hist ++ g.scr) (((rsY g at_.1:Nat):Int),((rsX g at_.2:Nat):Int))
   have h2:=reflowL_lim (cols:=cols) hc hN hL
   simp only [rfP,Int.toNat_natCast]
   omega
def docL (AL:List Ro) (k sr cols:Nat):List Ro:=AL.take (min k sr) ++ List.replicate (sr - min k sr) (blankR cols zeroCol)
theorem tail_doc (g:Pg) (rows cols:Nat) (AL:List Ro) (y1 k st:Nat) (hk:trimN AL y1 AL.length = k) (hst:tailS AL y1 rows = st) :
 dcOf (tailG g rows cols AL y1) = ⟨(docL AL k (st + rows) cols).drop (st - g.room),st - (st - g.room),cols,g.room,g.gone + ((st - g.room:Nat):Int),if 0 < st - g.room then [⟨2,0,((st - g.room:Nat):Int)⟩] else []⟩:=by
 have hkl:k ≤ AL.length:=by rw [← hk];exact trimN_le _ _ _
 have hsk:st ≤ k:=by rw [← hst,← hk];unfold tailS;omega
 unfold tailG dcOf
 simp only [hst,hk]
 have e0:(AL.take k).take st = AL.take st:=by rw [List.take_take,Nat.min_eq_left hsk]
 have hl0:((AL.take k).take st).length = st:=by rw [e0,List.length_take];omega
 have hf:fillH ((AL.take k).take st) g.room st = (AL.take st).drop (st - g.room):=by
  unfold fillH
  rw [List.take_of_length_le (by rw [hl0];exact Nat.le_refl _),e0]
 have hsl:(((AL.take k).drop st).take rows).length = min k (st + rows) - st:=by
  rw [List.length_take,List.length_drop,List.length_take];omega
 have hsp:AL.take (min k (st + rows)) = AL.take st ++ ((AL.take k).drop st).take rows:=by
  have e1:min k (st + rows) = st + (min k (st + rows) - st):=by omega
  rw [e1,List.take_add,List.drop_take,List.take_take]
  congr 2
  omega
 rw [hf,hsl]
 unfold docL
 have hdl:((AL.take st).drop (st - g.room)).length = st - (st - g.room):=by rw [List.length_drop,List.length_take];omega
 rw [hdl,hsp,List.append_assoc,List.drop_append_of_le_length (by rw [List.length_take];omega)]
 have e2:rows - (min k (st + rows) - st) = st + rows - min k (st + rows):=by omega
 rw [e2]
theorem dfits_any (r c:Int) (w:World):Calls Tryz.prog 20 #[.int .i64 r,.int .i64 c] w fun e w' => e = .returned (.bool (fitsB r c))∧w = w':=by
 unfold fitsB
 by_cases h1:0 < r <;> by_cases h2:r ≤ 1000 <;> by_cases h3:1 < c <;>
 · go_enter Tryz.func20,Tryz.ntmps20
   go_wp2
   go_ret
   refine ⟨?_,rfl⟩
   have e1:decide (1 ≤ r) = decide (0 < r):=decide_eq_decide.2 (by omega)
   have e3:decide (2 ≤ c) = decide (1 < c):=decide_eq_decide.2 (by omega)
   simp [e1,e3,h1,h2,h3]
   all_goals (intros;omega)
set_option maxHeartbeats 3200000 in
theorem Places_eq (A B:Option Addr) (T:List P2) (ca cb:Nat) (w:World) (hA:GrAt encP 2 w A T) (hB:GrAt encP 2 w B T) (hz:T.length ≤ 1000000) :
 Calls Tryz.prog 22 #[.slice A T.length ca,.slice B T.length cb] w (fun e w' => e = .returned (.bool true)∧Below w.heap.size w w'):=by
 have HA:=Hd hA
 have HB:=Hd hB
 clear hA hB
 go_enter Tryz.func22,Tryz.ntmps22
 go_wp2_with fail
 go_loopw [5] (fun i wr => ∃ k:Nat,k ≤ T.length∧i = .int .i64 k∧Below w.heap.size w wr) (fun i _ => T.length - (intOf i).toNat)
 case atStart => exact ⟨0,Nat.zero_le _,rfl,Below.refl _ _⟩
 case round =>
  obtain ⟨k,hk,rfl,hBe⟩:=hrel
  by_cases hlt:k < T.length
  rotate_left
  · go_wp2
    go_ret
    exact ⟨rfl,hBe⟩
  · obtain ⟨b,off,x,rfl,hx,cx⟩:=(HA.out.below hBe).at_ hlt
    obtain ⟨b',off',y,rfl,hy,cy⟩:=(HB.out.below hBe).at_ hlt
    obtain rfl:x = y:=by rw [hx] at hy;exact Option.some.inj hy
    have x0:wr.cell? ⟨b,off + k * 2,none⟩ = some (.int .i64 x.1):=cx 0 _ rfl
    have x1:wr.cell? ⟨b,off + k * 2 + 1,none⟩ = some (.int .i64 x.2):=cx 1 _ rfl
    have y0:wr.cell? ⟨b',off' + k * 2,none⟩ = some (.int .i64 x.1):=cy 0 _ rfl
    have y1:wr.cell? ⟨b',off' + k * 2 + 1,none⟩ = some (.int .i64 x.2):=cy 1 _ rfl
    clear hx hy cx cy
    go_upto_region 6 with fail
    refine wp_region_u 8 (fun w' => Below wr.heap.size wr w'∧w'.cell? ⟨b,off + k * 2,none⟩ = some (.int .i64 x.1)∧w'.cell? ⟨b,off + k * 2 + 1,none⟩ = some (.int .i64 x.2)∧w'.cell? ⟨b',off' + k * 2,none⟩ = some (.int .i64 x.1)∧w'.cell? ⟨b',off' + k * 2 + 1,none⟩ = some (.int .i64 x.2)) (by kernel_rfl) (by kernel_rfl) ?_ ?_
    · exact ⟨(Below.refl _ _).drew,x0,x1,y0,y1⟩
    simp only [List.take_succ_cons,List.take_zero,List.drop_succ_cons,List.drop_zero]
    repeat (
     (first
      | refine seqU_skip (by rfl) ?_
      | (refine seqU_val ?_ (by rfl) ?_ ?_;rotate_left;(focus (intro w' hS;obtain ⟨_,_,_,_,_⟩:=hS;go_simp;first | done | with_reducible rfl))))
     simp only [Act.put,List.setIfInBounds_toArray,List.set_cons_zero,List.set_cons_succ])
    refine seqU_nil (fun w' hS => ?_)
    have HBB:=Hd (below_tail hBe hS.1)
    clear hS x0 x1 y0 y1
    go_wp2
    go_roundw
    case rel => exact ⟨k + 1,by omega,by go_num,HBB.out⟩
    case measure => simp [intOf];omega
set_option maxHeartbeats 1600000 in
theorem rdblank_at (D cols:Nat) (b:Col) (w:World) (x2:w.cell? ⟨D,2,none⟩ = some (.int .i64 cols)) (h2:2 ≤ cols) (h3:cols ≤ 1000) :
 Calls Tryz.prog 62 #[.pointer (some ⟨D,0,none⟩),.agg #[.int .i64 b.k,.int .i64 b.n]] w (BlankPost cols b w):=by
 have HBL:=Hd (fun w => rBlanks_any cols b w (by omega) h3)
 have x:=hp_old (o:=.cells #[.slice none 0 0,.bool false] 50) (hp_new (W:=w) (b:=w.heap.size) (o:=.cells #[.int .i64 b.k,.int .i64 b.n] 32) rfl)
 have y:=hp_new (W:=w.alloc (.cells #[.int .i64 b.k,.int .i64 b.n] 32)) (b:=w.heap.size + 1) (o:=.cells #[.slice none 0 0,.bool false] 50) (by simp)
 have hb0:=below_allocs (below_allocs (Below.refl w.heap.size w) (.cells #[.int .i64 b.k,.int .i64 b.n] 32)) (.cells #[.slice none 0 0,.bool false] 50)
 have HB:=Hd hb0
 have X2:=Hd (holda hb0 x2)
 have X0:=Hd (at_ x 0 _ rfl).1
 have X1:=Hd (at_ x 1 _ rfl).1
 have Y:=Hd y
 clear x y hb0 x2
 go_enter Tryz.func62,Tryz.ntmps62
 go_upto_region 1 with fail
 generalize World.alloc _ _ = W at HB X2 X0 X1 Y ⊢
 have x2:=X2.out
 have x0:=X0.out
 have x1:=X1.out
 refine wp_region_u 5 (fun w' => Below W.heap.size W w'∧w'.cell? ⟨D,2,none⟩ = some (.int .i64 cols)∧w'.cell? ⟨w.heap.size,0,none⟩ = some (.int .i64 b.k)∧w'.cell? ⟨w.heap.size,1,none⟩ = some (.int .i64 b.n)) (by kernel_rfl) (by kernel_rfl) ?_ ?_
 · exact ⟨(Below.refl _ _).drew,x2,x0,x1⟩
 simp only [List.take_succ_cons,List.take_zero,List.drop_succ_cons,List.drop_zero]
 repeat (
  (first
   | refine seqU_skip (by rfl) ?_
   | (refine seqU_val ?_ (by rfl) ?_ ?_;rotate_left;(focus (intro w' hS;obtain ⟨_,_,_,_⟩:=hS;go_simp;first | done | with_reducible rfl))))
  simp only [Act.put,List.setIfInBounds_toArray,List.set_cons_zero,List.set_cons_succ])
 refine seqU_nil (fun w' hS => ?_)
 have HB1:=Hd (below_tail HB.out hS.1)
 have HY:=Hd ((hS.1.block _ (lt_of_heap Y.out)).trans Y.out)
 clear hS x2 x0 x1 X2 X0 X1 Y
 go_wp2_with (go_at_call 113;refine (HBL.out _).mono ?_;rintro e w2 ⟨g,cap,rfl,hc,hb⟩;rw [List.length_replicate];have HC:=Hd hc;have HB2:=Hd hb
              have HY2:=Hd ((hb.block _ (lt_of_heap HY.out)).trans HY.out);obtain ⟨y0,y0f⟩:=at_ HY2.out 0 _ rfl;obtain ⟨y1,y1f⟩:=at_ HY2.out 1 _ rfl;clear hc hb)
 have hset:=set_two (u':=.slice (some ⟨g,0,none⟩) cols cap) (v':=.bool false) ⟨y0,y0f⟩ ⟨y1,y1f⟩
 have HB3:=below_set (below_set (below_tail HB1.out HB2.out) (show w.heap.size ≤ w.heap.size + 1 by omega) (o:=0) (.slice (some ⟨g,0,none⟩) cols cap)) (show w.heap.size ≤ w.heap.size + 1 by omega) (o:=1) (.bool false)
 refine bodyPost_ret (ret_row rfl _ _ (w.heap.size + 1) _ _ rfl hset.1.1 hset.2.1) rfl ⟨g,cap,rfl,(RcAt.of_own HC.out (by simp;omega) (fine_rep _ _) false).mod (X:=[w.heap.size + 1]) (mod_set2 (Mod.refl _ _) (.inl (by simp))) ?_,HB3⟩
 intro x hx cs' f he
 rw [List.mem_singleton.1 hx] at he
 exact block_ne HY2.out he (by decide) rfl
theorem RowsO.head {base:Nat} {w:World} {g n c m:Nat} {L:List Rh} (h:RowsO base w (.slice (some ⟨g,0,none⟩) n c) L) (hn:L.length = n) (hm:m ≤ n):RowsO base w (.slice (some ⟨g,0,none⟩) m c) (L.take m):=by
 obtain ⟨⟨h1,h2 | ⟨g',cap',cur,hv,e2,e3,e4,e5,e6,e7⟩⟩,hr⟩:=h
 · exact absurd h2.1 (by simp)
 · simp only [Value.slice.injEq,Option.some.injEq,Addr.mk.injEq,and_true,true_and] at hv
   obtain ⟨rfl,-,rfl⟩:=hv
   have hl:(L.take m).length = m:=by rw [List.length_take];omega
   refine ⟨⟨flat_len encRh_len _,.inr ⟨g,c,cur,by rw [hl],e2,e3,by rw [hl];omega,e5,e6,?_⟩⟩,fun r hr' => hr r (List.mem_of_mem_take hr')⟩
   have e8:flat encRh L = flat encRh (L.take m) ++ flat encRh (L.drop m):=by rw [← flat_append,List.take_append_drop]
   rw [e8] at e7
   have:=congrArg (List.take (m * 2)) e7
   rw [List.take_take,Nat.min_eq_left (by omega),List.take_left' (by rw [flat_len encRh_len,hl])] at this
   rw [hl]
   exact this
theorem wpList_callE {P:Program} {ops:Array Oper} {rest:List Oper} {o:Oper} {a:Act} {w:World} {Q:Exit→Act→World→Prop} (hg:o.guard = none) (f:FuncId) (args:Array Value) (hrun:(execOp a.eval o).run P w = .ok (.enter f args) w)
 {Post:Ending→World→Prop} (hc:Calls P f args w Post) (hv:∀ e w',Post e w'→∃ v,e = .returned v) (h:∀ v w',Post (.returned v) w'→wpList P ops Q rest (a.put o.dst v) w'):wpList P ops Q (o :: rest) a w:=by
 refine wpList_plain hg fun K hK => ?_
 unfold Oper.wp
 rw [hrun,Oper.upon_enter]
 refine hc.mono fun e w'' hh => ?_
 obtain ⟨v,rfl⟩:=hv e w'' hh
 exact hK _ _ (h _ _ hh)
theorem DcO.resized {base:Nat} {w w1:World} {q:Dv} {d d':Dc} {vl':Value} {S':List Rh} (h:DcO base w q d) (hblk:w1.heap[q.D]? = some (.cells #[vl',.int .i64 d'.base,.int .i64 d'.cols,.int .i64 d'.room,.int .u64 (d'.gone % 18446744073709551616),.slice none 0 0] 45 (0,0)))
 (ho:w1.ownsRow base 50 2 vl' S'.length (flat encRh S')) (hm:Mod [q.D] w w1) (hv:∀ b,vl'.ownBlock = some b→w.heap.size ≤ b) (hs:S'.map roOf = d'.L) (hr:∀ r ∈ S',RcAt w1 r∧r.cs.length = d'.cols) (hc:2 ≤ d'.cols) (hc2:d'.cols ≤ 1000) (hg:0 ≤ d'.gone) (ht:d'.told = []):DcRes base w q d' w1 :=
 ⟨{ q with vl:=vl',vt:=.slice none 0 0,S:=S' },rfl,⟨hblk,h.hb,ho,by rw [ht];exact World.ownsRow_nil _ _ _ _,hs,hr,hc,hc2,hg⟩,hm.mono (fun b hb => by rw [List.mem_singleton.1 hb];simp [dcX]),fun b hb => by
  rcases List.mem_cons.1 hb with rfl | hb
  · exact .inl (by simp [dcX])
  rcases List.mem_append.1 hb with hb | hb
  · exact .inr (hv b (Option.mem_toList.1 hb))
  · simp [Value.ownBlock] at hb⟩
def StD (W:World) (D:Nat) (cs:List Value) (v:Value) (N:Nat) (X:List Rh) (w':World):Prop:=w'.heap[D]? = some (.cells cs.toArray 45 (0,0))∧w'.ownsRow W.heap.size 50 2 v N (flat encRh X)∧Mod [D] W w'
theorem StD.set {W w':World} {D N:Nat} {cs cs':List Value} {v:Value} {X:List Rh} (h:StD W D cs v N X w') (hD:D < W.heap.size) (i:Nat) (u:Value) (hcs:cs.set i u = cs'):StD W D cs' v N X (w'.setCell ⟨D,i,none⟩ u) :=
 ⟨whole_set h.1 i u hcs,owns_mod h.2.1 ((Mod.refl [D] w').setCell (a:=⟨D,i,none⟩) (.inl (by simp)) u) (fun b hb hx => by have h1:=(h.2.1.lt b hb).1;have h2:=List.mem_singleton.1 hx;omega),h.2.2.setCell (a:=⟨D,i,none⟩) (.inl (by simp)) u⟩
theorem DcRes.fresh {base:Nat} {w w1 w2:World} {q:Dv} {d1:Dc} {k:Nat} {cur:Array Value} (h:DcRes base w q d1 w1) (hm:Mod [k] w1 w2) (hk:w.heap.size ≤ k) (ht:w1.heap[k]? = some (.cells cur 57 (0,0))):DcRes base w q d1 w2:=by
 obtain ⟨q1,e1,hO,hm1,hx⟩:=h
 have hne:∀ b ∈ dcX q1,b ∉ [k]:=fun b hb hx => by
  rw [List.mem_singleton.1 hx] at hb
  rcases List.mem_cons.1 hb with hb | hb
  · exact block_ne hO.blk ht (by decide) hb.symm
  rcases List.mem_append.1 hb with hb | hb
  · obtain ⟨c,hc⟩:=own_block hO.own (Option.mem_toList.1 hb)
    exact block_ne hc ht (by decide) rfl
  · obtain ⟨c,hc⟩:=own_block hO.told (Option.mem_toList.1 hb)
    exact block_ne hc ht (by decide) rfl
 refine ⟨q1,e1,hO.mod hm (fun b hb cs f he => ?_) hne,hm1.trans hm (fun x hx => ?_),hx⟩
 · rw [List.mem_singleton.1 hb] at he
   exact block_ne ht he (by decide) rfl
 · rw [List.mem_singleton.1 hx];exact .inr hk
theorem owns_cap2 {w:World} {base g c n s:Nat} {e:TypeId} {X:List Value} {m:Nat} (h:w.ownsRow base e s (.slice (some ⟨g,0,none⟩) n c) m X):n ≤ c:=by
 rcases h.2 with ⟨e1,-⟩ | ⟨g',c',cur,e1,-,-,h4,-⟩
 · cases e1
 · simp only [Value.slice.injEq,Option.some.injEq,Addr.mk.injEq,and_true] at e1
   obtain ⟨rfl,rfl,rfl⟩:=e1
   exact h4
def ReflowSays:Prop:=∀ (A:Option Addr) (L:List Rh) (ca cols:Nat) (B:Option Addr) (l:List P2) (cb:Nat) (w:World),GrAt encRh 2 w A L→(∀ r ∈ L,RcAt w r)→0 < L.length→L.length ≤ 10000→L.length ≤ ca→cntL (L.map roOf) ≤ 10000 →
 GrAt encP 2 w B l→0 < l.length→l.length ≤ 100000→Ok2 l→2 ≤ cols→cols ≤ 1000 →
 Calls Tryz.prog 60 #[.slice A L.length ca,.int .i64 cols,.slice B l.length cb] w (ReflowPost (reflowL cols (L.map roOf)) (l.map (rfP cols (L.map roOf))) w)
theorem groups_cont:∀ (M:List Ro) (j:Nat) (g:List Ro),(groupsL M)[j]? = some g→(∀ t r,0 < t→g[t]? = some r→r.cont = true)∧(0 < j→∀ r,g[0]? = some r→r.cont = false)
 | [],j,g,h => by simp [groupsL] at h
 | r :: l,j,g,h => by
   have ih:=groups_cont l
   have hne:=groupsL_ne l
   have hfl:=groupsL_flat l
   rw [groupsL] at h
   cases hg:groupsL l with
   | nil =>
     rw [hg] at h
     cases j with
     | zero =>
       simp only [List.getElem?_cons_zero,Option.some.injEq] at h
       subst h
       exact ⟨fun t r' ht hr => by cases t with
        | zero => omega
        | succ t => simp at hr,fun h => absurd h (by omega)⟩
     | succ j => simp at h
   | cons g' gs =>
     rw [hg] at h ih hne hfl
     simp only at h
     obtain ⟨x,g'',rfl⟩:∃ x g'',g' = x :: g'':=by
      cases g' with
      | nil => exact absurd rfl (hne [] (by simp))
      | cons x g'' => exact ⟨x,g'',rfl⟩
     have hhd:l.head? = some x:=by rw [← hfl];rfl
     rw [hhd] at h
     cases hc:x.cont with
     | true =>
       rw [if_pos (show (Option.map (fun y:Ro => y.cont) (some x)).getD false = true from hc)] at h
       cases j with
       | zero =>
         simp only [List.getElem?_cons_zero,Option.some.injEq] at h
         subst h
         refine ⟨fun t r' ht hr => ?_,fun h => absurd h (by omega)⟩
         obtain ⟨t,rfl⟩:∃ s,t = s + 1:=⟨t - 1,by omega⟩
         rw [List.getElem?_cons_succ] at hr
         cases t with
         | zero =>
           simp only [List.getElem?_cons_zero,Option.some.injEq] at hr
           rw [← hr];exact hc
         | succ t => exact (ih 0 _ rfl).1 (t + 1) r' (by omega) hr
       | succ j =>
         exact ih (j + 1) g (by simpa using h)
     | false =>
       rw [if_neg (show ¬ (Option.map (fun y:Ro => y.cont) (some x)).getD false = true from by simp [hc])] at h
       cases j with
       | zero =>
         simp only [List.getElem?_cons_zero,Option.some.injEq] at h
         subst h
         exact ⟨fun t r' ht hr => by cases t with
          | zero => omega
          | succ t => simp at hr,fun h => absurd h (by omega)⟩
       | succ j =>
         rw [List.getElem?_cons_succ] at h
         refine ⟨(ih j g h).1,fun _ r' hr => ?_⟩
         cases j with
         | zero =>
           simp only [List.getElem?_cons_zero,Option.some.injEq] at h
           subst h
           simp only [List.getElem?_cons_zero,Option.some.injEq] at hr
           rw [← hr];exact hc
         | succ j => exact (ih (j + 1) g h).2 (by omega) r' hr
theorem group_get {M:List Ro} {j:Nat} {g:List Ro} (h:(groupsL M)[j]? = some g) {t:Nat} (ht:t < g.length):M[begN (groupsL M) j + t]? = g[t]?:=by
 have e:=group_at h
 rw [groupsL_flat] at e
 have:g[t]? = ((M.drop (begN (groupsL M) j)).take g.length)[t]?:=by rw [e]
 rw [this,List.getElem?_take_of_lt ht,List.getElem?_drop]
theorem line_in {M:List Ro} {j:Nat} {g:List Ro} (h:(groupsL M)[j]? = some g) {y:Nat} (h1:begN (groupsL M) j < y) (h2:y < begN (groupsL M) j + g.length):(M.getD y ⟨[],false⟩).cont = true:=by
 obtain ⟨t,rfl⟩:∃ t,y = begN (groupsL M) j + t:=⟨y - begN (groupsL M) j,by omega⟩
 have ht:t < g.length:=by omega
 rw [List.getD_eq_getElem?_getD,group_get h ht]
 exact (groups_cont M j g h).1 t _ (by omega) (by rw [List.getElem?_eq_getElem ht];rfl)
theorem line_first {M:List Ro} {j:Nat} {g:List Ro} (h:(groupsL M)[j]? = some g) (hj:0 < j):(M.getD (begN (groupsL M) j) ⟨[],false⟩).cont = false:=by
 have hg:0 < g.length:=List.length_pos_iff.2 (groupsL_ne M g (List.mem_of_getElem? h))
 have e:=group_get h hg
 rw [Nat.add_zero] at e
 rw [List.getD_eq_getElem?_getD,e]
 exact (groups_cont M j g h).2 hj _ (by rw [List.getElem?_eq_getElem hg];rfl)
theorem line_end {M:List Ro} {j:Nat} {g:List Ro} (h:(groupsL M)[j]? = some g) (hk:begN (groupsL M) j + g.length < M.length):(M.getD (begN (groupsL M) j + g.length) ⟨[],false⟩).cont = false:=by
 have e:=begN_succ h
 have hj:j + 1 < (groupsL M).length:=by
  refine Nat.lt_of_not_le fun hle => ?_
  have h1:(groupsL M).take (j + 1) = groupsL M:=List.take_of_length_le hle
  have h2:begN (groupsL M) (j + 1) = M.length:=by unfold begN;rw [h1,groupsL_flat]
  omega
 obtain ⟨g2,hg2⟩:∃ g2,(groupsL M)[j + 1]? = some g2:=⟨_,List.getElem?_eq_getElem hj⟩
 rw [← e]
 exact line_first hg2 (by omega)
theorem lineL_at {M:List Ro} {j:Nat} {g:List Ro} (h:(groupsL M)[j]? = some g):∀ t,t < g.length→lineL M (begN (groupsL M) j + t) = begN (groupsL M) j
 | 0,_ => by
   rw [Nat.add_zero]
   by_cases hj:0 < j
   · have hc:=line_first h hj
     cases hb:begN (groupsL M) j with
     | zero => rfl
     | succ b => rw [hb] at hc;rw [lineL,hc,if_neg (by decide)]
   · obtain rfl:j = 0:=by omega
     rfl
 | t + 1,ht => by
   rw [← Nat.add_assoc,lineL,line_in h (by omega) (by omega),if_pos rfl,lineL_at h t (by omega)]
theorem group_of {M:List Ro} {y:Nat} (hy:y < M.length):∃ j g,(groupsL M)[j]? = some g∧begN (groupsL M) j ≤ y∧y < begN (groupsL M) j + g.length:=by
 have key:∀ J,J ≤ (groupsL M).length→y < begN (groupsL M) J→∃ j g,(groupsL M)[j]? = some g∧begN (groupsL M) j ≤ y∧y < begN (groupsL M) j + g.length:=by
  intro J
  induction J with
  | zero => intro _ h;rw [begN_zero] at h;omega
  | succ J ih =>
    intro hJ h
    obtain ⟨g,hg⟩:∃ g,(groupsL M)[J]? = some g:=⟨_,List.getElem?_eq_getElem hJ⟩
    rw [begN_succ hg] at h
    by_cases hlt:y < begN (groupsL M) J
    · exact ih (by omega) hlt
    · exact ⟨J,g,hg,by omega,h⟩
 exact key _ (Nat.le_refl _) (by rw [begN_full,groupsL_flat];exact hy)
def spread (f:Nat→Nat) (G:List (List Ro)) (J:Nat):List Nat:=(List.range J).flatMap (fun q => List.replicate (G.getD q []).length (f q))
theorem spread_succ {f:Nat→Nat} {G:List (List Ro)} {J:Nat} {g:List Ro} (h:G[J]? = some g):spread f G (J + 1) = spread f G J ++ List.replicate g.length (f J):=by
 unfold spread
 rw [List.range_succ,List.flatMap_append]
 congr 1
 rw [List.flatMap_singleton,List.getD_eq_getElem?_getD,h];rfl
theorem spread_len {f:Nat→Nat} {G:List (List Ro)}:∀ J,J ≤ G.length→(spread f G J).length = begN G J
 | 0,_ => rfl
 | J + 1,h => by
   obtain ⟨g,hg⟩:∃ g,G[J]? = some g:=⟨_,List.getElem?_eq_getElem h⟩
   rw [spread_succ hg,List.length_append,List.length_replicate,spread_len J (by omega),begN_succ hg]
theorem spread_at {f:Nat→Nat} {G:List (List Ro)} {j:Nat} {g:List Ro} (h:G[j]? = some g) {y:Nat} (h1:begN G j ≤ y) (h2:y < begN G j + g.length):∀ J,J ≤ G.length→j < J→(spread f G J)[y]? = some (f j)
 | 0,_,hj => by omega
 | J + 1,hJ,hj => by
   obtain ⟨g2,hg2⟩:∃ g2,G[J]? = some g2:=⟨_,List.getElem?_eq_getElem hJ⟩
   rw [spread_succ hg2]
   have hl:=spread_len (f:=f) J (by omega:J ≤ G.length)
   by_cases he:j = J
   · subst he
     rw [h] at hg2
     obtain rfl:=Option.some.inj hg2
     rw [List.getElem?_append_right (by omega),List.getElem?_replicate,if_pos (by omega)]
   · have hlt:y < begN G J:=by
      have:=begN_succ h
      have hm:begN G (j + 1) ≤ begN G J:=by
       unfold begN
       have e:G.take J = G.take (j + 1) ++ (G.take J).drop (j + 1):=by
        conv => lhs;rw [← List.take_append_drop (j + 1) (G.take J),List.take_take,Nat.min_eq_left (by omega)]
       rw [e,List.flatten_append,List.length_append]
       omega
      omega
     rw [List.getElem?_append_left (by omega)]
     exact spread_at h h1 h2 J (by omega) (by omega)
structure RfO (base:Nat) (w:World) (v8 v9 v10:Value) (D:List Rh) (X Y:List Nat):Prop where
 o8:RowsO base w v8 D
 o9:w.ownsRow base 3 1 v9 X.length (flat encN X)
 o10:w.ownsRow base 3 1 v10 Y.length (flat encN Y)
 ap:∀ b,v9.ownBlock = some b→v10.ownBlock ≠ some b
section
variable {base:Nat} {w w2:World} {v8 v9 v10 v':Value} {D:List Rh} {X Y:List Nat}
theorem own_nocel {b1 n s:Nat} {e:TypeId} {v:Value} {x:List Value} (h:w.ownsRow b1 e s v n x) (he:e ≠ 109):NoCel w v.ownBlock.toList:=fun b hb cs f hc => by
 obtain ⟨cur,hcur⟩:=own_block h (Option.mem_toList.1 hb)
 exact block_ne hcur hc he rfl
theorem RfO.below (h:RfO base w v8 v9 v10 D X Y) (hb:Below w.heap.size w w2):RfO base w2 v8 v9 v10 D X Y :=
 ⟨h.o8.below hb,owns_mod h.o9 (Mod.of_below (X:=[]) hb) (fun _ _ h => by cases h),owns_mod h.o10 (Mod.of_below (X:=[]) hb) (fun _ _ h => by cases h),h.ap⟩
theorem RfO.push9 {n:Nat} (h:RfO base w v8 v9 v10 D X Y) (ho:w2.ownsRow base 3 1 v' (X.length + 1) (flat encN X ++ encN n)) (hg:w.grownBy w2 v9.ownBlock) (hv:∀ g,v'.ownBlock = some g→v9.ownBlock = some g ∨ w.heap.size ≤ g):RfO base w2 v8 v' v10 D (X ++ [n]) Y:=by
 have hm:Mod v9.ownBlock.toList w w2:=Mod.of_grown hg (fun b hb => by simp [hb])
 refine ⟨h.o8.mod hm (own_nocel h.o9 (by decide)) (fun g hg hx => own_ne h.o8.1 h.o9 (by decide) hg (Option.mem_toList.1 hx)),?_,owns_mod h.o10 hm (fun g hg hx => h.ap g (Option.mem_toList.1 hx) hg),fun b hb hb2 => ?_⟩
 · rw [List.length_append,flat_append]
   have e:flat encN [n] = encN n:=by simp [flat]
   rw [e];exact ho
 · rcases hv b hb with h1 | h1
   · exact h.ap b h1 hb2
   · have:=(h.o10.lt b hb2).2;omega
theorem RfO.push10 {n:Nat} (h:RfO base w v8 v9 v10 D X Y) (ho:w2.ownsRow base 3 1 v' (Y.length + 1) (flat encN Y ++ encN n)) (hg:w.grownBy w2 v10.ownBlock) (hv:∀ g,v'.ownBlock = some g→v10.ownBlock = some g ∨ w.heap.size ≤ g):RfO base w2 v8 v9 v' D X (Y ++ [n]):=by
 have hm:Mod v10.ownBlock.toList w w2:=Mod.of_grown hg (fun b hb => by simp [hb])
 refine ⟨h.o8.mod hm (own_nocel h.o10 (by decide)) (fun g hg hx => own_ne h.o8.1 h.o10 (by decide) hg (Option.mem_toList.1 hx)),owns_mod h.o9 hm (fun g hg hx => h.ap g hg (Option.mem_toList.1 hx)),?_,fun b hb hb2 => ?_⟩
 · rw [List.length_append,flat_append]
   have e:flat encN [n] = encN n:=by simp [flat]
   rw [e];exact ho
 · rcases hv b hb2 with h1 | h1
   · exact h.ap b hb h1
   · have:=(h.o9.lt b hb).2;omega
theorem RfO.push8 {base2:Nat} {R:List Rh} {v2:Value} (h:RfO base w v8 v9 v10 D X Y) (h2:RowsO base2 w v2 R) (ho:w2.ownsRow base 50 2 v' (D.length + R.length) (flat encRh D ++ flat encRh R)) (hg:w.grownBy w2 v8.ownBlock):RfO base w2 v' v9 v10 (D ++ R) X Y:=by
 have hm:Mod v8.ownBlock.toList w w2:=Mod.of_grown hg (fun b hb => by simp [hb])
 exact ⟨h.o8.join h2 ho hg,owns_mod h.o9 hm (fun g hg hx => own_ne h.o9 h.o8.1 (by decide) hg (Option.mem_toList.1 hx)),owns_mod h.o10 hm (fun g hg hx => own_ne h.o10 h.o8.1 (by decide) hg (Option.mem_toList.1 hx)),h.ap⟩
theorem RfO.keep {b1 n:Nat} {v:Value} {x:List Value} (h:RfO base w v8 v9 v10 D X Y) (hv:w.ownsRow b1 57 2 v n x) (hg:w.grownBy w2 v.ownBlock):RfO base w2 v8 v9 v10 D X Y:=by
 have hm:Mod v.ownBlock.toList w w2:=Mod.of_grown hg (fun b hb => by simp [hb])
 exact ⟨h.o8.mod hm (own_nocel hv (by decide)) (fun g hg hx => own_ne h.o8.1 hv (by decide) hg (Option.mem_toList.1 hx)),owns_mod h.o9 hm (fun g hg hx => own_ne h.o9 hv (by decide) hg (Option.mem_toList.1 hx)),owns_mod h.o10 hm (fun g hg hx => own_ne h.o10 hv (by decide) hg (Option.mem_toList.1 hx)),h.ap⟩
end
end Go.Proofs.YtffdblmdelgkaaaGreat
