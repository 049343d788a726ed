/- Joined by a tool of this claim out of smaller texts. Conditions: as stated. -/
import Derived.Test.YtaefcahblmopfaaGreatDoorDp10
set_option linter.unusedVariables false
set_option linter.unusedSimpArgs false
set_option maxRecDepth 100000
open Go.Lib renaming hid → Hd
namespace Go.Proofs.YtaefcahblmopfaaGreatDoor
open Go.RowKit
def BlankPost (cols:Nat) (b:Col) (w:World) (e:Ending) (w':World):Prop :=
 ∃ g cap,e = .returned (.agg #[.slice (some ⟨g,0,none⟩) cols cap,.bool false])∧RcAt w' ⟨some ⟨g,0,none⟩,List.replicate cols (blankC b),cap,false⟩∧Below w.heap.size w w'
set_option maxHeartbeats 1600000 in
theorem pblank_any (P cols:Nat) (b:Col) (w:World) (x2:w.cell? ⟨P,2,none⟩ = some (.int .i64 cols)) (h2:2 ≤ cols) (h3:cols ≤ 1000) :
 Calls Tryz.prog 174 #[.pointer (some ⟨P,0,none⟩),.agg #[.int .i64 b.k,.int .i64 b.n]] w (BlankPost cols b w):=by
 have HBL:=Hd (fun w => cBlanks_any cols b w (by omega) h3)
 have x:=hp_old (o:=.cells #[.slice none 0 0,.bool false] 52) (hp_new (W:=w) (b:=w.heap.size) (o:=.cells #[.int .i64 b.k,.int .i64 b.n] 61) rfl)
 have y:=hp_new (W:=w.alloc (.cells #[.int .i64 b.k,.int .i64 b.n] 61)) (b:=w.heap.size + 1) (o:=.cells #[.slice none 0 0,.bool false] 52) (by simp)
 have hb0:=below_allocs (below_allocs (Below.refl w.heap.size w) (.cells #[.int .i64 b.k,.int .i64 b.n] 61)) (.cells #[.slice none 0 0,.bool false] 52)
 have HB:=Hd hb0
 have X2:=Hd (holda hb0 x2)
 have X0:=Hd (at_ x 0 _ rfl).1
 have X1:=Hd (at_ x 1 _ rfl).1
 have Y:=Hd y
 clear x y hb0 x2
 go_enter Tryz.func174,Tryz.ntmps174
 go_upto_region 1 with fail
 generalize World.alloc _ _ = W at HB X2 X0 X1 Y ⊢
 have x2:=X2.out
 have x0:=X0.out
 have x1:=X1.out
 refine wp_region_u 5 (fun w' => Below W.heap.size W w'∧w'.cell? ⟨P,2,none⟩ = some (.int .i64 cols)∧w'.cell? ⟨w.heap.size,0,none⟩ = some (.int .i64 b.k)∧w'.cell? ⟨w.heap.size,1,none⟩ = some (.int .i64 b.n)) (by kernel_rfl) (by kernel_rfl) ?_ ?_
 · exact ⟨(Below.refl _ _).drew,x2,x0,x1⟩
 simp only [List.take_succ_cons,List.take_zero,List.drop_succ_cons,List.drop_zero]
 repeat (
  (first
   | refine seqU_skip (by rfl) ?_
   | (refine seqU_val ?_ (by rfl) ?_ ?_;rotate_left;(focus (intro w' hS;obtain ⟨_,_,_,_⟩:=hS;go_simp;first | done | with_reducible rfl))))
  simp only [Act.put,List.setIfInBounds_toArray,List.set_cons_zero,List.set_cons_succ])
 refine seqU_nil (fun w' hS => ?_)
 have HB1:=Hd (below_tail HB.out hS.1)
 have HY:=Hd ((hS.1.block _ (lt_of_heap Y.out)).trans Y.out)
 clear hS x2 x0 x1 X2 X0 X1 Y
 go_wp2_with (go_at_call 267;refine (HBL.out _).mono ?_;rintro e w2 ⟨g,cap,rfl,hc,hb⟩;rw [List.length_replicate];have HC:=Hd hc;have HB2:=Hd hb
              have HY2:=Hd ((hb.block _ (lt_of_heap HY.out)).trans HY.out);obtain ⟨y0,y0f⟩:=at_ HY2.out 0 _ rfl;obtain ⟨y1,y1f⟩:=at_ HY2.out 1 _ rfl;clear hc hb)
 have hset:=set_two (u':=.slice (some ⟨g,0,none⟩) cols cap) (v':=.bool false) ⟨y0,y0f⟩ ⟨y1,y1f⟩
 have HB3:=below_set (below_set (below_tail HB1.out HB2.out) (show w.heap.size ≤ w.heap.size + 1 by omega) (o:=0) (.slice (some ⟨g,0,none⟩) cols cap)) (show w.heap.size ≤ w.heap.size + 1 by omega) (o:=1) (.bool false)
 refine bodyPost_ret (ret_row rfl _ _ (w.heap.size + 1) _ _ rfl hset.1.1 hset.2.1) rfl ⟨g,cap,rfl,(RcAt.of_own HC.out (by simp;omega) (fine_rep _ _) false).mod (X:=[w.heap.size + 1]) (mod_set2 (Mod.refl _ _) (.inl (by simp))) ?_,HB3⟩
 intro x hx cs' f he
 rw [List.mem_singleton.1 hx] at he
 exact block_ne HY2.out he (by decide) rfl
section
variable {P:Program}
theorem wpList_append_g {ops:Array Oper} {rest:List Oper} {o:Oper} {a:Act} {w:World} {Q:Exit→Act→World→Prop} (hgd:o.guard = none) (s x:Operand) (t:TypeId)
 (ho:o.op = .call { callee:=.builtin .append,args:=#[s,x],argTypes:=#[t,t] }) (base:Nat) (e:TypeId) (i:TypeInfo) (z:Value) (size bytes:Nat) (ht:P.underlying t = some (.slice e)) (hi:P.info? e = some i) (hz:i.zero = some z) (hsize:i.size = size) (hby:i.bytes = bytes) (hzs:z.cells.size = size) (hsz:0 < size)
 (v:Value) (n:Nat) (xs:List Value) (hs:a.eval s = v) (hown:w.ownsRow base e size v n xs) (ad:Addr) (m c:Nat) (news:List Value) (hx:a.eval x = .slice (some ad) m c) (hl:news.length = m * size) (hnews:∀ j u,news[j]? = some u→w.cell? (ad.add j) = some u) (h1:∀ u ∈ news,u.oneCell' = true)
 (h63:n + m ≤ maxLen) (hbytes:(n + m) * bytes ≤ 140737488355328) (hbase:base ≤ w.heap.size)
 (h:∀ v' w',w'.ownsRow base e size v' (n + m) (xs ++ news)→w.grownBy w' v.ownBlock→(∀ g,v'.ownBlock = some g→v.ownBlock = some g ∨ w.heap.size ≤ g)→wpList P ops Q rest (a.put o.dst v') w'):wpList P ops Q (o :: rest) a w:=by
 obtain ⟨v',w',hr,h2,h3,-,h4⟩:=run_append_own_at (P:=P) w base t o.type e i z size bytes ht hi hz hsize hby hzs hsz v n xs hown ad m c news hl hnews h1 h63 hbytes hbase
 refine wpList_plain hgd fun K hK => ?_
 unfold Oper.wp execOp
 simp only [ho,resolve,invoke,builtin,Sem.run_bind,Sem.run_pure,Result.andThen_ok,List.map_toArray,List.map_cons,List.map_nil,hs,hx,hr]
 exact hK _ _ (h _ _ h2 h3 (fun g hg => by
  rcases h4 with h4 | h4
  · exact .inl (by rw [← h4];exact hg)
  · rw [h4] at hg;injection hg with hg;exact .inr (by omega)))
end
theorem info_shiftz:(Tryz.prog.info? 94).map (fun i => (i.zero,i.size,i.bytes)) = some (some (.agg #[.int .i64 0,.int .i64 0,.int .i64 0]),3,24):=by kernel_rfl
section
variable {base:Nat} {w:World} {q:Pv} {g:Pg}
theorem PgO.retold {w1:World} {vt':Value} {t':List Tl} (h:PgO base w q g) (ho:w1.ownsRow base 94 3 vt' t'.length (flat encTl t')) (hm:Mod q.vt.ownBlock.toList w w1) (hv:∀ b,vt'.ownBlock = some b→q.vt.ownBlock = some b ∨ w.heap.size ≤ b) :
 PgRes base w q { g with told:=t' } (w1.setCell ⟨q.P,3,none⟩ vt'):=by
 have hvt:∀ b,q.vt.ownBlock = some b→∃ cur:Array Value,w.heap[b]? = some (.cells cur 94 (0,0)):=fun b hb => own_block h.told hb
 have hPv:q.P ∉ q.vt.ownBlock.toList:=fun hb => by
  obtain ⟨cur,hc⟩:=hvt _ (Option.mem_toList.1 hb)
  exact block_ne h.blk hc (by decide) rfl
 have hPl:=(Array.getElem?_eq_some_iff.1 h.blk).1
 have hm2:Mod (q.P :: q.vt.ownBlock.toList) w (w1.setCell ⟨q.P,3,none⟩ vt'):=(hm.mono (fun b hb => by simp [Option.mem_toList.1 hb])).setCell (a:=⟨q.P,3,none⟩) (.inl (by simp)) _
 have hX:NoCel w (q.P :: q.vt.ownBlock.toList):=fun b hb cs f he => by
  refine h.nocel b ?_ cs f he
  rcases List.mem_cons.1 hb with rfl | hb
  · simp [pgX]
  · simp [pgX,Option.mem_toList.1 hb]
 have hblk:=whole_set (cs:=[.pointer (some ⟨q.R,0,none⟩),q.vs,.int .i64 g.cols,q.vt]) ((hm.block q.P hPl hPv).trans h.blk) 3 vt' (cs':=[.pointer (some ⟨q.R,0,none⟩),q.vs,.int .i64 g.cols,vt']) rfl
 have hne:∀ (b:Nat) (cur:Array Value) (t:TypeId),w.heap[b]? = some (.cells cur t (0,0))→t ≠ 175→t ≠ 94→b ∉ q.P :: q.vt.ownBlock.toList:=fun b cur t hb h1 h2 hx => by
  rcases List.mem_cons.1 hx with rfl | hx
  · exact block_ne h.blk hb h1.symm rfl
  · obtain ⟨cur2,hc⟩:=hvt _ (Option.mem_toList.1 hx)
    exact block_ne hc hb h2.symm rfl
 refine ⟨{ q with vt:=vt' },rfl,rfl,⟨hblk,h.hb,h.ring.mod hm2 hX (fun b hb => ?_),owns_mod h.own hm2 (fun b hb => ?_),?_,h.apart,h.scr,h.hist,fun r hr => ⟨(h.rows r hr).1.mod hm2 hX,(h.rows r hr).2⟩,h.cols2,h.cols1000,h.rows1000,h.gone0⟩,hm2.mono (fun b hb => ?_),fun b hb => ?_⟩
 · rcases List.mem_cons.1 hb with rfl | hb
   · exact hne _ _ _ h.ring.blk (by decide) (by decide)
   · obtain ⟨cur,hc⟩:=own_block h.ring.own (Option.mem_toList.1 hb)
     exact hne _ _ _ hc (by decide) (by decide)
 · obtain ⟨cur,hc⟩:=own_block h.own hb
   exact hne _ _ _ hc (by decide) (by decide)
 · refine owns_mod ho ((Mod.refl [q.P] w1).setCell (a:=⟨q.P,3,none⟩) (.inl (by simp)) vt') (fun b hb hx => ?_)
   have e:=List.mem_singleton.1 hx
   rcases hv b hb with h1 | h1
   · exact hPv (by rw [← e];simp [h1])
   · omega
 · rcases List.mem_cons.1 hb with rfl | hb
   · simp [pgX]
   · simp [pgX,Option.mem_toList.1 hb]
 · rcases List.mem_cons.1 hb with rfl | hb
   · exact .inl (by simp [pgX])
   rcases List.mem_append.1 hb with hb | hb
   · exact .inl (by simp [pgX,Option.mem_toList.1 hb])
   rcases List.mem_append.1 hb with hb | hb
   · rcases hv b (Option.mem_toList.1 hb) with h1 | h1
     · exact .inl (by simp [pgX,h1])
     · exact .inr h1
   · exact .inl (by simp [pgX,hb])
set_option maxHeartbeats 1600000 in
theorem ptell_any (h:PgO base w q g) (k a n:Int) (ht:g.told.length ≤ 1000000) (hbw:base ≤ w.heap.size):Calls Tryz.prog 149 #[.pointer (some ⟨q.P,0,none⟩),.int .i64 k,.int .i64 a,.int .i64 n] w (PgPost base w q (tellP g k a n)):=by
 obtain ⟨j0,hj,gz0,gz1,gz2⟩:=info_parts info_shiftz
 obtain ⟨-,-,-,x3,x3f⟩:=h.cells
 have H:=Hd h
 obtain ⟨W,hW⟩:∃ W,w.alloc (.cells #[.int .i64 k,.int .i64 a,.int .i64 n] 94) = W:=⟨_,rfl⟩
 have hb:Below w.heap.size w W:=by rw [← hW];exact below_allocs (Below.refl _ _) _
 have HN:=Hd (show W.heap[w.heap.size]? = some (.cells #[.int .i64 k,.int .i64 a,.int .i64 n] 94 (0,0)) from by rw [← hW];exact hp_new rfl)
 have HB:=Hd hb
 have HO:=Hd (h.below hb)
 have hsz:W.heap.size = w.heap.size + 1:=by rw [← hW];simp
 clear h hb
 go_enter Tryz.func149,Tryz.ntmps149
 go_wp2_with (refine wpList_append_g rfl (.tmp 12) (.tmp 17) 147 rfl base 94 j0 _ 3 24 Tryz.underlying147 hj gz0 gz1 gz2 rfl (by decide) q.vt g.told.length (flat encTl g.told) rfl HO.out.told ⟨w.heap.size,0,none⟩ 1 1 (encTl ⟨k,a,n⟩) rfl rfl ?_ (encTl_one _) ?_ ?_ ?_ ?_)
 all_goals first
  | omega
  | (simp only [maxLen];omega)
  | skip
 · intro j u hj
   rw [add_lit',Nat.zero_add]
   exact (at_ HN.out j u (by simpa [encTl] using hj)).1
 · intro v' w' ho hg hv'
   have HM:=Hd ((Mod.of_below (X:=q.vt.ownBlock.toList) HB.out).trans (Mod.of_grown (X:=q.vt.ownBlock.toList) hg (fun g hg => by rw [hg];simp)) (fun g hg => .inl hg))
   have HOW:=Hd (show w'.ownsRow base 94 3 v' (g.told ++ [Tl.mk k a n]).length (flat encTl (g.told ++ [Tl.mk k a n])) from by rw [flat_append,List.length_append];exact ho)
   have HV:=Hd (show ∀ b,v'.ownBlock = some b→q.vt.ownBlock = some b ∨ w.heap.size ≤ b from fun b hb => (hv' b hb).imp id (fun h => by omega))
   obtain ⟨A',c',hvf⟩:=row_form ho
   have hPv:q.P ∉ q.vt.ownBlock.toList:=fun hb => by
    obtain ⟨cur,hc⟩:=own_block H.out.told (Option.mem_toList.1 hb)
    exact block_ne H.out.blk hc (by decide) rfl
   have hx3:w.cell? ⟨q.P,3,none⟩ = some q.vt∧w.frozen? ⟨q.P,3,none⟩ = false:=⟨x3,x3f⟩
   obtain ⟨z3,z3f⟩:=HM.out.hold hPv hx3
   clear hx3
   clear ho hg hv' x3 x3f hW
   subst hvf
   obtain ⟨A0,c0,hv0⟩:=row_form H.out.told
   go_wp2
   go_end0
   exact ⟨rfl,H.out.retold HOW.out HM.out HV.out⟩
end
theorem owns_many {α:Type} {enc:α→List Value} {K:Nat} (hl:∀ x,(enc x).length = K) {w:World} {base g cap:Nat} {e:TypeId} {l:List α} (h:w.ownsRow base e K (.slice (some ⟨g,0,none⟩) l.length cap) l.length (flat enc l)) (off:Nat) (cs:List α) (hi:off + cs.length ≤ l.length) :
 (w.setCells g (off * K) (flat enc cs)).ownsRow base e K (.slice (some ⟨g,0,none⟩) l.length cap) l.length (flat enc (l.take off ++ cs ++ l.drop (off + cs.length)))∧Mod [g] w (w.setCells g (off * K) (flat enc cs)):=by
 refine ⟨?_,mod_setCellsN (.inl (by simp)) _ _ _ (Mod.refl _ _)⟩
 have h1:=owns_setCells (flat enc cs) (off * K) (flat enc l) w h (by rw [flat_len hl,flat_len hl,← Nat.add_mul];exact Nat.mul_le_mul_right _ hi)
 rw [flat_take hl,flat_len hl,← Nat.add_mul,flat_drop hl,← flat_append,← flat_append,← List.append_assoc] at h1
 exact h1
theorem owns_copy {α:Type} {enc:α→List Value} {K:Nat} (hl:∀ x,(enc x).length = K) (h1:∀ x,∀ v ∈ enc x,v.oneCell' = true) (st e:TypeId) (hu:Tryz.prog.underlying st = some (.slice e)) (hsz:(Tryz.prog.info? e).map (·.size) = some K)
 {w:World} {base g cap:Nat} {l:List α} (h:w.ownsRow base e K (.slice (some ⟨g,0,none⟩) l.length cap) l.length (flat enc l)) (i k n oi ok dl sl dc sc:Nat) (hi:i + n ≤ l.length) (hk:k + n ≤ l.length) (hmin:Nat.min sl dl = n) (hoi:0 < n→oi = i * K) (hok:0 < n→ok = k * K) :
 ∃ w',(Builtin.copy_ #[st,st] 3 #[.slice (some ⟨g,oi,none⟩) dl dc,.slice (some ⟨g,ok,none⟩) sl sc]).run Tryz.prog w = .ok (goInt n) w'∧w'.ownsRow base e K (.slice (some ⟨g,0,none⟩) l.length cap) l.length (flat enc (l.take i ++ (l.drop k).take n ++ l.drop (i + n)))∧Mod [g] w w':=by
 have hlen:((l.drop k).take n).length = n:=by simp;omega
 have hcl:(flat enc ((l.drop k).take n)).length = n * K:=by rw [flat_len hl,hlen]
 have bd:∀ o j,0 < n→j < n * K→o + n ≤ l.length→o * K + j < l.length * K:=fun o j hn hj ho => by
  have:(o + n) * K ≤ l.length * K:=Nat.mul_le_mul_right _ ho
  rw [Nat.add_mul] at this;omega
 have hn0:∀ j,j < n * K→0 < n:=fun j hj => by
  rcases Nat.eq_zero_or_pos n with h | h
  · rw [h] at hj;simp at hj
  · exact h
 have key:(Builtin.copy_ #[st,st] 3 #[.slice (some ⟨g,oi,none⟩) dl dc,.slice (some ⟨g,ok,none⟩) sl sc]).run Tryz.prog w = .ok (goInt n) (w.setCells g oi (flat enc ((l.drop k).take n))):=by
  have:=run_copy_k (P:=Tryz.prog) w st st 3 e g oi dl dc ⟨g,ok,none⟩ sl sc K (flat enc ((l.drop k).take n)) hu hsz (by rw [hmin,hcl]) (fun j v hj => ?_) (fun j hj => ?_) (fun j hj => ?_) (flat_one h1 _)
  · rw [hmin] at this;exact this
  · have hj':=(List.getElem?_eq_some_iff.1 hj).1
    rw [hcl] at hj'
    rw [add_lit',hok (hn0 j hj')]
    rw [← flat_take hl,List.getElem?_take,if_pos hj',← flat_drop hl,List.getElem?_drop] at hj
    exact (owns_hold h hj).1
  · rw [hcl] at hj
    have hb:=bd i j (hn0 j hj) hj hi
    rw [hoi (hn0 j hj)]
    obtain ⟨v,hv⟩:∃ v,(flat enc l)[i * K + j]? = some v:=⟨_,List.getElem?_eq_getElem (by rw [flat_len hl];exact hb)⟩
    rw [(owns_hold h hv).1];rfl
  · rw [hcl] at hj
    have hb:=bd i j (hn0 j hj) hj hi
    rw [hoi (hn0 j hj)]
    obtain ⟨v,hv⟩:∃ v,(flat enc l)[i * K + j]? = some v:=⟨_,List.getElem?_eq_getElem (by rw [flat_len hl];exact hb)⟩
    exact (owns_hold h hv).2
 refine ⟨_,key,?_⟩
 rcases Nat.eq_zero_or_pos n with hn | hn
 · subst hn
   simp only [List.take_zero,List.append_nil,Nat.add_zero,List.take_append_drop]
   exact ⟨h,Mod.refl _ _⟩
 · rw [hoi hn]
   have:=owns_many hl h i ((l.drop k).take n) (by rw [hlen];exact hi)
   rwa [hlen] at this
theorem slide_up {S:List Rh} {t b:Nat} (h:t ≤ b) (hb:b < S.length) (r:Rh):((S.take t ++ (S.drop (t + 1)).take (b - t) ++ S.drop (t + (b - t))).set b r).map roOf = slideUp (S.map roOf) t b (roOf r):=by
 rw [show t + (b - t) = b by omega,List.set_append_right _ _ (by simp;omega)]
 have e:b - (S.take t ++ (S.drop (t + 1)).take (b - t)).length = 0:=by simp;omega
 rw [e,List.drop_eq_getElem_cons hb,List.set_cons_zero]
 unfold slideUp
 simp [List.map_take,List.map_drop]
theorem slide_dn {S:List Rh} {t b:Nat} (h:t ≤ b) (hb:b < S.length) (r:Rh):((S.take (t + 1) ++ (S.drop t).take (b - t) ++ S.drop (t + 1 + (b - t))).set t r).map roOf = slideDn (S.map roOf) t b (roOf r):=by
 rw [show t + 1 + (b - t) = b + 1 by omega,List.append_assoc,List.set_append_left _ _ (by simp;omega)]
 have e:(S.take (t + 1)).set t r = S.take t ++ [r]:=by
  rw [List.take_succ_eq_append_getElem (by omega),List.set_append_right _ _ (by simp;omega)]
  have:t - (S.take t).length = 0:=by simp;omega
  rw [this];rfl
 rw [e]
 unfold slideDn
 simp [List.map_take,List.map_drop]
theorem mem_copy {S:List Rh} {i k n j:Nat} {r x:Rh} (h:x ∈ (S.take i ++ (S.drop k).take n ++ S.drop (i + n)).set j r):x ∈ S ∨ x = r:=by
 rcases List.mem_or_eq_of_mem_set h with h | h
 · refine .inl ?_
   rcases List.mem_append.1 h with h | h
   · rcases List.mem_append.1 h with h | h
     · exact List.mem_of_mem_take h
     · exact List.mem_of_mem_drop (List.mem_of_mem_take h)
   · exact List.mem_of_mem_drop h
 · exact .inr h
section
variable {base:Nat} {w:World} {q:Pv} {g:Pg}
theorem slide_end (h:PgO base w q g) {gs c t:Nat} (hv:q.vs = .slice (some ⟨gs,0,none⟩) q.S.length c) (ht:t < q.S.length) {S1:List Rh} {w1:World} (hl:S1.length = q.S.length) (ho:w1.ownsRow base 52 2 (.slice (some ⟨gs,0,none⟩) q.S.length c) q.S.length (flat encRh S1)) (hm:Mod [gs] w w1)
 {w2:World} (hb:Below w1.heap.size w1 w2) {r:Rh} (hr:RcAt w2 r) (hrl:r.cs.length = g.cols) (hmem:∀ x ∈ S1.set t r,x ∈ q.S ∨ x = r) {scr':List Ro} (hs:(S1.set t r).map roOf = scr') :
 PgRes base w q { g with scr:=scr' } ((w2.setCell ⟨gs,t * 2,none⟩ (.slice r.A r.cs.length r.cap)).setCell ⟨gs,t * 2 + 1,none⟩ (.bool r.cont)):=by
 have hX:NoCel w q.vs.ownBlock.toList:=fun x hx cs f he => h.nocel x (by simp [pgX,(Option.mem_toList.1 hx)]) cs f he
 have hvs:q.vs.ownBlock.toList = [gs]:=by rw [hv];simp [Value.ownBlock]
 have hM:Mod q.vs.ownBlock.toList w ((w2.setCell ⟨gs,t * 2,none⟩ (.slice r.A r.cs.length r.cap)).setCell ⟨gs,t * 2 + 1,none⟩ (.bool r.cont)):=by
  rw [hvs]
  exact mod_set2 (hm.then_below hb) (.inl (by simp))
 rw [← hl] at ho
 have ho2:=owns_mod ho (Mod.of_below (X:=[]) hb) (fun _ _ h => by cases h)
 have ho3:=owns_setRow ho2 (show t < S1.length by omega) r
 have hgl:gs < w2.heap.size:=(ho2.lt gs rfl).2
 refine h.screen (S':=S1.set t r) (by simpa using hl) ?_ hM hs (fun x hx => ?_)
 · rw [List.length_set,hv,← hl];exact ho3
 · rcases hmem x hx with hx | rfl
   · exact ⟨(h.rows x hx).1.mod hM hX,(h.rows x hx).2⟩
   · refine ⟨hr.mod (X:=[gs]) (mod_set2 (Mod.refl _ _) (.inl (by simp))) (fun b hb' cs f he => ?_),hrl⟩
     rw [List.mem_singleton.1 hb'] at he
     obtain ⟨cur,hc⟩:=own_block ho2 (g:=gs) rfl
     exact block_ne hc he (by decide) rfl
set_option maxHeartbeats 3200000 in
theorem pslideA (h:PgO base w q g) (f t:Nat) (b:Col) (hft:f < t) (ht:t < q.S.length) :
 Calls Tryz.prog 382 #[.pointer (some ⟨q.P,0,none⟩),.int .i64 f,.int .i64 t,.agg #[.int .i64 b.k,.int .i64 b.n]] w (PgPost base w q { g with scr:=slideUp g.scr f t (blankR g.cols b) }):=by
 obtain ⟨gs,c,hv⟩:=own_form h.own (by omega)
 have hr1:=h.rows1000
 have hc2:=h.cols2
 have hc3:=h.cols1000
 have H:=Hd h
 have HV:=Hd hv
 obtain ⟨W,hW⟩:∃ W,w.alloc (.cells #[.int .i64 b.k,.int .i64 b.n] 61) = W:=⟨_,rfl⟩
 have hb0:Below w.heap.size w W:=by rw [← hW];exact below_allocs (Below.refl _ _) _
 have HN:=Hd (show W.heap[w.heap.size]? = some (.cells #[.int .i64 b.k,.int .i64 b.n] 61 (0,0)) from by rw [← hW];exact hp_new rfl)
 have HB:=Hd hb0
 have hO:=h.below hb0
 have HO:=Hd hO
 obtain ⟨-,⟨x1,-⟩,-,-⟩:=hO.cells
 have hown:=hO.own
 rw [hv] at x1 hown
 have hcap:q.S.length ≤ c:=by
  rcases hown.2 with ⟨e,-⟩ | ⟨g',c',cur,e,_,_,hc,_⟩
  · cases e
  · simp only [Value.slice.injEq] at e;omega
 have HOWN:=Hd hown
 obtain ⟨f1,hf1⟩:∃ f1:Nat,f1 = f + 1:=⟨_,rfl⟩
 obtain ⟨t1,ht1⟩:∃ t1:Nat,t1 = t + 1:=⟨_,rfl⟩
 have hf1I:(f:Int) + 1 = (f1:Int):=by omega
 have ht1I:(t:Int) + 1 = (t1:Int):=by omega
 have hwf:IntKind.i64.wrap (f1:Int) = (f1:Int):=IntWalk.i64_in _ (by omega)
 have hwt:IntKind.i64.wrap (t1:Int) = (t1:Int):=IntWalk.i64_in _ (by omega)
 have hftI:(f:Int) < (t:Int):=by omega
 have c1:t ≤ c:=by omega
 have c2:f ≤ t:=by omega
 have c3:¬ c = f:=by omega
 have c4:t1 ≤ c:=by omega
 have c5:f1 ≤ t1:=by omega
 have c6:¬ c = f1:=by omega
 have HF:=Hd (And.intro hf1 ht1)
 have HFT:=Hd (And.intro hft ht)
 clear h hO hown hv hb0 hf1 ht1 hft ht
 go_enter Tryz.func382,Tryz.ntmps382
 go_upto_region 2 with fail
 clear hW
 refine wp_region_u 16 (fun w' => Below W.heap.size W w'∧w'.cell? ⟨q.P,1,none⟩ = some (.slice (some ⟨gs,0,none⟩) q.S.length c)) (by kernel_rfl) (by kernel_rfl) ?_ ?_
 · exact ⟨(Below.refl _ _).drew,x1⟩
 simp only [List.take_succ_cons,List.take_zero,List.drop_succ_cons,List.drop_zero]
 repeat (
  (first
   | refine seqU_skip (by rfl) ?_
   | (refine seqU_val ?_ (by rfl) ?_ ?_;rotate_left;(focus (intro w' hS;obtain ⟨_,_⟩:=hS;go_simp;first | done | with_reducible rfl))))
  simp only [Act.put,List.setIfInBounds_toArray,List.set_cons_zero,List.set_cons_succ])
 refine seqU_nil (fun w' hS => ?_)
 have HB1:=Hd hS.1
 obtain ⟨w2,hcp,hO2,hM2⟩:=owns_copy encRh_len encRh_one 46 52 Tryz.underlying46 info_row (owns_mod HOWN.out (Mod.of_below (X:=[]) hS.1) (fun _ _ h => by cases h)) f f1 (t - f) (f * 2) (f1 * 2) (t - f) (t1 - f1) (c - f) (c - f1) (by have:=HFT.out;omega) (by have:=HFT.out;have:=HF.out;omega) (by rw [show t1 - f1 = t - f by have:=HF.out;omega];exact Nat.min_self _) (fun _ => rfl) (fun _ => rfl)
 rw [HF.out.1] at hO2
 have HO2:=Hd hO2
 have HM2:=Hd (((Mod.of_below (X:=[gs]) HB.out).then_below HB1.out).trans hM2 (fun x hx => .inl hx))
 have hP:=H.out.lt q.P (by simp [pgX])
 have hgsw:=H.out.own.lt gs (by rw [HV.out];rfl)
 have hne:q.P ≠ gs:=by
  obtain ⟨cur,hc⟩:=own_block H.out.own (g:=gs) (by rw [HV.out];rfl)
  exact block_ne H.out.blk hc (by decide)
 have x1':=HM2.out.cell (by simpa using hne) (show w.cell? ⟨q.P,1,none⟩ = some (.slice (some ⟨gs,0,none⟩) q.S.length c) from by rw [H.out.cells.2.1.1,HV.out])
 have x2':=HM2.out.cell (by simpa using hne) H.out.cells.2.2.1.1
 have HNB:=Hd ((hM2.block _ (Nat.lt_of_lt_of_le (lt_of_heap HN.out) HB1.out.size) (by simp;omega)).trans ((HB1.out.block _ (lt_of_heap HN.out)).trans HN.out))
 clear hS hO2 hM2 x1
 go_upto_region 4 with fail
 clear hcp
 obtain ⟨b0,-⟩:=at_ HNB.out 0 _ rfl
 obtain ⟨b1,-⟩:=at_ HNB.out 1 _ rfl
 have HBK:=Hd (fun w' (x2:w'.cell? ⟨q.P,2,none⟩ = some (.int .i64 g.cols)) => pblank_any q.P g.cols b w' x2 hc2 hc3)
 refine wp_region_n 8 (fun w' => Below w2.heap.size w2 w'∧w'.cell? ⟨q.P,1,none⟩ = some (.slice (some ⟨gs,0,none⟩) q.S.length c)∧w'.cell? ⟨q.P,2,none⟩ = some (.int .i64 g.cols)∧w'.cell? ⟨w.heap.size,0,none⟩ = some (.int .i64 b.k)∧w'.cell? ⟨w.heap.size,1,none⟩ = some (.int .i64 b.n)) (by kernel_rfl) (by kernel_rfl) (fun w1 w2 hS hb => ⟨below_tail hS.1 hb,holda hb hS.2.1,holda hb hS.2.2.1,holda hb hS.2.2.2.1,holda hb hS.2.2.2.2⟩) ⟨(Below.refl _ _).drew,x1',x2',b0,b1⟩ ?_
 refine AtN.go 0 ?_
 iterate 7 (refine AtC.take (o:=⟨_,_,_,_,_,_⟩) (v:=?_) (by kernel_rfl) rfl (by simp) (by kernel_rfl) (by kernel_rfl) ?_ ?_;rotate_left;(focus (first | exact StabN.skip (by rfl) | (refine StabN.val (by rfl) ?_;intro w' hS;obtain ⟨_,_,_,_,_⟩:=hS;go_simp;first | done | with_reducible rfl)));simp only [Act.put,List.setIfInBounds_toArray,List.set_cons_zero,List.set_cons_succ])
 refine AtC.back ?_
 refine AtN.one 7 (o:=⟨_,_,_,_,_,_⟩) (fun v => ∃ g1 cap,v = .agg #[.slice (some ⟨g1,0,none⟩) g.cols cap,.bool false]) (fun v w' => ∃ g1 cap,v = .agg #[.slice (some ⟨g1,0,none⟩) g.cols cap,.bool false]∧RcAt w' ⟨some ⟨g1,0,none⟩,List.replicate g.cols (blankC b),cap,false⟩) (by simp) (by kernel_rfl) rfl (fun v w1 w2 ⟨g1,cap,hv,hr⟩ hb => ⟨g1,cap,hv,hr.below hb⟩) (StabN.call 174 #[.pointer (some ⟨q.P,0,none⟩),.agg #[.int .i64 b.k,.int .i64 b.n]] _ _ (by rfl) ?_ (fun w' hS => ?_)) ?_
 · intro w'
   go_simp
 · refine (HBK.out w' hS.2.2.1).mono ?_
   rintro e w3 ⟨g1,cap,rfl,hr,hb⟩
   exact ⟨_,rfl,⟨⟨g1,cap,rfl⟩,g1,cap,rfl,hr⟩,hb⟩
 rintro v ⟨g1,cap,rfl⟩
 simp only [Act.put,List.setIfInBounds_toArray,List.set_cons_zero,List.set_cons_succ]
 refine AtN.done (by kernel_rfl) (fun w' hS => ?_)
 obtain ⟨⟨hb2,-,-,-,-⟩,g1',cap',hv',hrc'⟩:=hS
 simp only [Value.agg.injEq,Array.mk.injEq,List.cons.injEq,Value.slice.injEq,Option.some.injEq,Addr.mk.injEq,and_true,true_and] at hv'
 obtain ⟨rfl,rfl⟩:=hv'
 have HB2:=Hd hb2
 have HRC:=Hd hrc'
 have hS1:(q.S.take f ++ (q.S.drop (f + 1)).take (t - f) ++ q.S.drop (f + (t - f))).length = q.S.length:=by have:=HFT.out;simp;omega
 have htS:t < (q.S.take f ++ (q.S.drop (f + 1)).take (t - f) ++ q.S.drop (f + (t - f))).length:=by rw [hS1];exact HFT.out.2
 have hO3:=owns_mod HO2.out (Mod.of_below (X:=[]) hb2) (fun _ _ h => by cases h)
 rw [← hS1] at hO3
 obtain ⟨rt,hrt⟩:∃ rt,(q.S.take f ++ (q.S.drop (f + 1)).take (t - f) ++ q.S.drop (f + (t - f)))[t]? = some rt:=⟨_,List.getElem?_eq_getElem htS⟩
 obtain ⟨⟨q0,q0f⟩,q1,q1f⟩:=owns_row hO3 hrt
 clear hrt
 have htI:(t:Int) < (q.S.length:Int):=by have:=HFT.out;omega
 have HS1:=Hd hS1
 have HFT2:=Hd (show f ≤ t∧t < q.S.length from ⟨by have:=HFT.out;omega,HFT.out.2⟩)
 clear hb2 hrc' x1' x2' b0 b1 hO3 hS1 htS c1 c2 c3 c4 c5 c6
 go_wp2
 go_end0
 have key:=slide_end (H.out) HV.out HFT.out.2 HS1.out HO2.out HM2.out HB2.out HRC.out (by simp) (fun x hx => mem_copy hx) (slide_up HFT2.out.1 HFT2.out.2 ⟨some ⟨g1,0,none⟩,List.replicate g.cols (blankC b),cap,false⟩)
 rw [H.out.scr] at key
 simp only [List.length_replicate] at key
 exact ⟨rfl,key⟩
set_option maxHeartbeats 3200000 in
theorem pslideB (h:PgO base w q g) (f t:Nat) (b:Col) (hft:t ≤ f) (ht:f < q.S.length) :
 Calls Tryz.prog 382 #[.pointer (some ⟨q.P,0,none⟩),.int .i64 f,.int .i64 t,.agg #[.int .i64 b.k,.int .i64 b.n]] w (PgPost base w q { g with scr:=slideDn g.scr t f (blankR g.cols b) }):=by
 obtain ⟨gs,c,hv⟩:=own_form h.own (by omega)
 have hr1:=h.rows1000
 have hc2:=h.cols2
 have hc3:=h.cols1000
 have H:=Hd h
 have HV:=Hd hv
 obtain ⟨W,hW⟩:∃ W,w.alloc (.cells #[.int .i64 b.k,.int .i64 b.n] 61) = W:=⟨_,rfl⟩
 have hb0:Below w.heap.size w W:=by rw [← hW];exact below_allocs (Below.refl _ _) _
 have HN:=Hd (show W.heap[w.heap.size]? = some (.cells #[.int .i64 b.k,.int .i64 b.n] 61 (0,0)) from by rw [← hW];exact hp_new rfl)
 have HB:=Hd hb0
 have hO:=h.below hb0
 have HO:=Hd hO
 obtain ⟨-,⟨x1,-⟩,-,-⟩:=hO.cells
 have hown:=hO.own
 rw [hv] at x1 hown
 have hcap:q.S.length ≤ c:=by
  rcases hown.2 with ⟨e,-⟩ | ⟨g',c',cur,e,_,_,hc,_⟩
  · cases e
  · simp only [Value.slice.injEq] at e;omega
 have HOWN:=Hd hown
 obtain ⟨f1,hf1⟩:∃ f1:Nat,f1 = f + 1:=⟨_,rfl⟩
 obtain ⟨t1,ht1⟩:∃ t1:Nat,t1 = t + 1:=⟨_,rfl⟩
 have hf1I:(f:Int) + 1 = (f1:Int):=by omega
 have ht1I:(t:Int) + 1 = (t1:Int):=by omega
 have hwf:IntKind.i64.wrap (f1:Int) = (f1:Int):=IntWalk.i64_in _ (by omega)
 have hwt:IntKind.i64.wrap (t1:Int) = (t1:Int):=IntWalk.i64_in _ (by omega)
 have hftI:¬ (f:Int) < (t:Int):=by omega
 have c1:f1 ≤ c:=by omega
 have c2:t1 ≤ f1:=by omega
 have c4:f ≤ c:=by omega
 have c5:t ≤ f:=by omega
 have c6:¬ c = t:=by omega
 obtain ⟨off,hoff⟩:∃ off,(if c = t1 then (some ⟨gs,0,none⟩:Option Addr) else some ⟨gs,t1 * 2,none⟩) = some ⟨gs,off,none⟩:=by
  by_cases h:c = t1
  · exact ⟨0,if_pos h⟩
  · exact ⟨t1 * 2,if_neg h⟩
 have HOFF:Hid (0 < f - t→off = t1 * 2):=Hd (fun h => by rw [if_neg (by omega)] at hoff;simp at hoff;omega)
 have HF:=Hd (And.intro hf1 ht1)
 have HFT:=Hd (And.intro hft ht)
 clear h hO hown hv hb0 hf1 ht1 hft ht
 go_enter Tryz.func382,Tryz.ntmps382
 go_upto_region 3 with fail
 clear hW
 refine wp_region_u 16 (fun w' => Below W.heap.size W w'∧w'.cell? ⟨q.P,1,none⟩ = some (.slice (some ⟨gs,0,none⟩) q.S.length c)) (by kernel_rfl) (by kernel_rfl) ?_ ?_
 · exact ⟨(Below.refl _ _).drew,x1⟩
 simp only [List.take_succ_cons,List.take_zero,List.drop_succ_cons,List.drop_zero]
 repeat (
  (first
   | refine seqU_skip (by rfl) ?_
   | (refine seqU_val ?_ (by rfl) ?_ ?_;rotate_left;(focus (intro w' hS;obtain ⟨_,_⟩:=hS;go_simp;first | done | with_reducible rfl))))
  simp only [Act.put,List.setIfInBounds_toArray,List.set_cons_zero,List.set_cons_succ])
 refine seqU_nil (fun w' hS => ?_)
 have HB1:=Hd hS.1
 obtain ⟨w2,hcp,hO2,hM2⟩:=owns_copy encRh_len encRh_one 46 52 Tryz.underlying46 info_row (owns_mod HOWN.out (Mod.of_below (X:=[]) hS.1) (fun _ _ h => by cases h)) t1 t (f - t) off (t * 2) (f1 - t1) (f - t) (c - t1) (c - t) (by have:=HFT.out;have:=HF.out;omega) (by have:=HFT.out;omega) (by rw [show f1 - t1 = f - t by have:=HF.out;omega];exact Nat.min_self _) HOFF.out (fun _ => rfl)
 rw [HF.out.2] at hO2
 have HO2:=Hd hO2
 have HM2:=Hd (((Mod.of_below (X:=[gs]) HB.out).then_below HB1.out).trans hM2 (fun x hx => .inl hx))
 have hP:=H.out.lt q.P (by simp [pgX])
 have hgsw:=H.out.own.lt gs (by rw [HV.out];rfl)
 have hne:q.P ≠ gs:=by
  obtain ⟨cur,hc⟩:=own_block H.out.own (g:=gs) (by rw [HV.out];rfl)
  exact block_ne H.out.blk hc (by decide)
 have x1':=HM2.out.cell (by simpa using hne) (show w.cell? ⟨q.P,1,none⟩ = some (.slice (some ⟨gs,0,none⟩) q.S.length c) from by rw [H.out.cells.2.1.1,HV.out])
 have x2':=HM2.out.cell (by simpa using hne) H.out.cells.2.2.1.1
 have HNB:=Hd ((hM2.block _ (Nat.lt_of_lt_of_le (lt_of_heap HN.out) HB1.out.size) (by simp;omega)).trans ((HB1.out.block _ (lt_of_heap HN.out)).trans HN.out))
 clear hS hO2 hM2 x1
 go_upto_region 4 with fail
 clear hcp hoff
 obtain ⟨b0,-⟩:=at_ HNB.out 0 _ rfl
 obtain ⟨b1,-⟩:=at_ HNB.out 1 _ rfl
 have HBK:=Hd (fun w' (x2:w'.cell? ⟨q.P,2,none⟩ = some (.int .i64 g.cols)) => pblank_any q.P g.cols b w' x2 hc2 hc3)
 refine wp_region_n 8 (fun w' => Below w2.heap.size w2 w'∧w'.cell? ⟨q.P,1,none⟩ = some (.slice (some ⟨gs,0,none⟩) q.S.length c)∧w'.cell? ⟨q.P,2,none⟩ = some (.int .i64 g.cols)∧w'.cell? ⟨w.heap.size,0,none⟩ = some (.int .i64 b.k)∧w'.cell? ⟨w.heap.size,1,none⟩ = some (.int .i64 b.n)) (by kernel_rfl) (by kernel_rfl) (fun w1 w2 hS hb => ⟨below_tail hS.1 hb,holda hb hS.2.1,holda hb hS.2.2.1,holda hb hS.2.2.2.1,holda hb hS.2.2.2.2⟩) ⟨(Below.refl _ _).drew,x1',x2',b0,b1⟩ ?_
 refine AtN.go 0 ?_
 iterate 7 (refine AtC.take (o:=⟨_,_,_,_,_,_⟩) (v:=?_) (by kernel_rfl) rfl (by simp) (by kernel_rfl) (by kernel_rfl) ?_ ?_;rotate_left;(focus (first | exact StabN.skip (by rfl) | (refine StabN.val (by rfl) ?_;intro w' hS;obtain ⟨_,_,_,_,_⟩:=hS;go_simp;first | done | with_reducible rfl)));simp only [Act.put,List.setIfInBounds_toArray,List.set_cons_zero,List.set_cons_succ])
 refine AtC.back ?_
 refine AtN.one 7 (o:=⟨_,_,_,_,_,_⟩) (fun v => ∃ g1 cap,v = .agg #[.slice (some ⟨g1,0,none⟩) g.cols cap,.bool false]) (fun v w' => ∃ g1 cap,v = .agg #[.slice (some ⟨g1,0,none⟩) g.cols cap,.bool false]∧RcAt w' ⟨some ⟨g1,0,none⟩,List.replicate g.cols (blankC b),cap,false⟩) (by simp) (by kernel_rfl) rfl (fun v w1 w2 ⟨g1,cap,hv,hr⟩ hb => ⟨g1,cap,hv,hr.below hb⟩) (StabN.call 174 #[.pointer (some ⟨q.P,0,none⟩),.agg #[.int .i64 b.k,.int .i64 b.n]] _ _ (by rfl) ?_ (fun w' hS => ?_)) ?_
 · intro w'
   go_simp
 · refine (HBK.out w' hS.2.2.1).mono ?_
   rintro e w3 ⟨g1,cap,rfl,hr,hb⟩
   exact ⟨_,rfl,⟨⟨g1,cap,rfl⟩,g1,cap,rfl,hr⟩,hb⟩
 rintro v ⟨g1,cap,rfl⟩
 simp only [Act.put,List.setIfInBounds_toArray,List.set_cons_zero,List.set_cons_succ]
 refine AtN.done (by kernel_rfl) (fun w' hS => ?_)
 obtain ⟨⟨hb2,-,-,-,-⟩,g1',cap',hv',hrc'⟩:=hS
 simp only [Value.agg.injEq,Array.mk.injEq,List.cons.injEq,Value.slice.injEq,Option.some.injEq,Addr.mk.injEq,and_true,true_and] at hv'
 obtain ⟨rfl,rfl⟩:=hv'
 have HB2:=Hd hb2
 have HRC:=Hd hrc'
 have hS1:(q.S.take (t + 1) ++ (q.S.drop t).take (f - t) ++ q.S.drop (t + 1 + (f - t))).length = q.S.length:=by have:=HFT.out;simp;omega
 have htS:t < (q.S.take (t + 1) ++ (q.S.drop t).take (f - t) ++ q.S.drop (t + 1 + (f - t))).length:=by rw [hS1];have:=HFT.out;omega
 have hO3:=owns_mod HO2.out (Mod.of_below (X:=[]) hb2) (fun _ _ h => by cases h)
 rw [← hS1] at hO3
 obtain ⟨rt,hrt⟩:∃ rt,(q.S.take (t + 1) ++ (q.S.drop t).take (f - t) ++ q.S.drop (t + 1 + (f - t)))[t]? = some rt:=⟨_,List.getElem?_eq_getElem htS⟩
 obtain ⟨⟨q0,q0f⟩,q1,q1f⟩:=owns_row hO3 hrt
 clear hrt
 have htI:(t:Int) < (q.S.length:Int):=by have:=HFT.out;omega
 have HS1:=Hd hS1
 have HFT2:=Hd (show t ≤ f∧f < q.S.length from HFT.out)
 clear hb2 hrc' x1' x2' b0 b1 hO3 hS1 htS c1 c2 c4 c5 c6
 go_wp2
 go_end0
 have key:=slide_end (H.out) HV.out (by have:=HFT.out;omega) HS1.out HO2.out HM2.out HB2.out HRC.out (by simp) (fun x hx => mem_copy hx) (slide_dn HFT2.out.1 HFT2.out.2 ⟨some ⟨g1,0,none⟩,List.replicate g.cols (blankC b),cap,false⟩)
 rw [H.out.scr] at key
 simp only [List.length_replicate] at key
 exact ⟨rfl,key⟩
theorem slide_same (l:List Ro) (t:Nat) (b:Ro):slideUp l t t b = slideDn l t t b:=by
 unfold slideUp slideDn
 simp
theorem pslide_up (h:PgO base w q g) (f t:Nat) (b:Col) (hft:f ≤ t) (ht:t < q.S.length) :
 Calls Tryz.prog 382 #[.pointer (some ⟨q.P,0,none⟩),.int .i64 f,.int .i64 t,.agg #[.int .i64 b.k,.int .i64 b.n]] w (PgPost base w q { g with scr:=slideUp g.scr f t (blankR g.cols b) }):=by
 rcases Nat.lt_or_ge f t with h1 | h1
 · exact pslideA h f t b h1 ht
 · obtain rfl:f = t:=by omega
   rw [slide_same]
   exact pslideB h f f b (Nat.le_refl _) ht
end
section
variable {base:Nat} {w w1:World} {q:Pv} {g g1:Pg}
theorem pg_then {f:FuncId} {args:Array Value} {g2:Pg} (hs:PgRes base w q g1 w1) (hc:∀ q1,q1.P = q.P→PgO base w1 q1 g1→Calls Tryz.prog f args w1 (PgPost base w1 q1 g2)):Calls Tryz.prog f args w1 (PgPost base w q g2):=by
 obtain ⟨q1,e1,e2,h1,h2,h3⟩:=hs
 exact (hc q1 e1 h1).mono fun e w2 ⟨he,hr⟩ => ⟨he,PgRes.trans ⟨e1,e2,h2,h3⟩ hr⟩
theorem PgRes.hold (hs:PgRes base w q g1 w1) {b o:Nat} {v:Value} (hb:b ∉ pgX q) (hc:w.cell? ⟨b,o,none⟩ = some v):w1.cell? ⟨b,o,none⟩ = some v:=by
 obtain ⟨q1,-,-,-,h2,-⟩:=hs
 exact h2.cell hb hc
theorem base_then (hs:PgRes base w q g1 w1):Calls Tryz.prog 91 #[.pointer (some ⟨q.P,0,none⟩)] w1 fun e w2 => e = .returned (.int .i64 g1.hist.length)∧w1 = w2:=by
 obtain ⟨q1,e1,e2,h1,-⟩:=hs
 rw [← e1]
 exact pBase_any h1
theorem tell_then (hs:PgRes base w q g1 w1) (k a n:Int) (ht:g1.told.length ≤ 1000000):Calls Tryz.prog 149 #[.pointer (some ⟨q.P,0,none⟩),.int .i64 k,.int .i64 a,.int .i64 n] w1 (PgPost base w q (tellP g1 k a n)) :=
 pg_then hs fun q1 e h => by
  rw [← e]
  exact ptell_any h k a n ht (by have:=h.lt q1.P (by simp [pgX]);omega)
theorem part_then (hs:PgRes base w q g1 w1) (y:Int):Calls Tryz.prog 293 #[.pointer (some ⟨q.P,0,none⟩),.int .i64 y] w1 (PgPost base w q (contP g1 y false)) :=
 pg_then hs fun q1 e h => by rw [← e];exact ppart_any h y
theorem slideU_then (hs:PgRes base w q g1 w1) (f t:Nat) (b:Col) (hft:f ≤ t) (ht:t < g1.scr.length):Calls Tryz.prog 382 #[.pointer (some ⟨q.P,0,none⟩),.int .i64 f,.int .i64 t,.agg #[.int .i64 b.k,.int .i64 b.n]] w1 (PgPost base w q { g1 with scr:=slideUp g1.scr f t (blankR g1.cols b) }) :=
 pg_then hs fun q1 e h => by rw [← e];exact pslide_up h f t b hft (by rw [h.len];exact ht)
theorem PgO.hist100k (h:PgO base w q g):g.hist.length ≤ 100000:=by have:=h.hlen;have:=h.ring.hn;have:=h.ring.hm;have:=h.ring.hroom;omega
set_option maxHeartbeats 3200000 in
theorem pcut_any (h:PgO base w q g) (top bottom:Nat) (b:Col) (h1:top ≤ bottom) (h2:bottom < g.scr.length) (ht:g.told.length ≤ 999990) :
 Calls Tryz.prog 355 #[.pointer (some ⟨q.P,0,none⟩),.int .i64 top,.int .i64 bottom,.agg #[.int .i64 b.k,.int .i64 b.n]] w (PgPost base w q (cutP g top bottom b)):=by
 have hrows:=h.rows1000
 have hlen:=h.len
 have hh:=h.hist100k
 obtain ⟨W,hW⟩:∃ W,w.alloc (.cells #[.int .i64 b.k,.int .i64 b.n] 61) = W:=⟨_,rfl⟩
 have hb0:Below w.heap.size w W:=by rw [← hW];exact below_allocs (Below.refl _ _) _
 have HN:=Hd (show W.heap[w.heap.size]? = some (.cells #[.int .i64 b.k,.int .i64 b.n] 61 (0,0)) from by rw [← hW];exact hp_new rfl)
 have HB:=Hd hb0
 have HX:w.heap.size ∉ pgX q:=fun hx => by have:=h.lt _ hx;omega
 have H0:=Hd (h.below hb0).res
 have hwa:IntKind.i64.wrap ((g.hist.length:Int) + (top:Int)) = (g.hist.length:Int) + (top:Int):=IntWalk.i64_in _ (by omega)
 have hwb:IntKind.i64.wrap ((g.hist.length:Int) + (bottom:Int)) = (g.hist.length:Int) + (bottom:Int):=IntWalk.i64_in _ (by omega)
 have hwc:IntKind.i64.wrap ((bottom:Int) + 1) = (bottom:Int) + 1:=IntWalk.i64_in _ (by omega)
 have HBA:=Hd (base_then H0.out)
 have HBA2:Hid (∀ w1,PgRes base W q (tellP g 1 ((g.hist.length:Int) + top) 1) w1→Calls Tryz.prog 91 #[.pointer (some ⟨q.P,0,none⟩)] w1 fun e w2 => e = .returned (.int .i64 g.hist.length)∧w1 = w2):=Hd (fun w1 hs => by have:=base_then hs;exact this)
 have HT1:=Hd (tell_then H0.out 1 ((g.hist.length:Int) + top) 1 (by omega))
 have HT2:Hid (∀ w1,PgRes base W q (tellP g 1 ((g.hist.length:Int) + top) 1) w1→Calls Tryz.prog 149 #[.pointer (some ⟨q.P,0,none⟩),.int .i64 0,.int .i64 ((g.hist.length:Int) + bottom),.int .i64 1] w1 (PgPost base W q (tellP (tellP g 1 ((g.hist.length:Int) + top) 1) 0 ((g.hist.length:Int) + bottom) 1))):=Hd (fun w1 hs => tell_then hs _ _ _ (by simp [tellP];omega))
 have HSL:Hid (∀ w1,PgRes base W q (tellP (tellP g 1 ((g.hist.length:Int) + top) 1) 0 ((g.hist.length:Int) + bottom) 1) w1→Calls Tryz.prog 382 #[.pointer (some ⟨q.P,0,none⟩),.int .i64 top,.int .i64 bottom,.agg #[.int .i64 b.k,.int .i64 b.n]] w1 (PgPost base W q { (tellP (tellP g 1 ((g.hist.length:Int) + top) 1) 0 ((g.hist.length:Int) + bottom) 1) with scr:=slideUp g.scr top bottom (blankR g.cols b) })):=Hd (fun w1 hs => slideU_then hs top bottom b h1 h2)
 have HPA:=Hd (fun (g1:Pg) (y:Int) (w1:World) (hs:PgRes base W q g1 w1) => part_then hs y)
 obtain ⟨b0,-⟩:=at_ HN.out 0 _ rfl
 obtain ⟨b1,-⟩:=at_ HN.out 1 _ rfl
 have HB0:=Hd b0
 have HB1:=Hd b1
 have HG:Hid (cutP g top bottom b = contP (contP { (tellP (tellP g 1 ((g.hist.length:Int) + top) 1) 0 ((g.hist.length:Int) + bottom) 1) with scr:=slideUp g.scr top bottom (blankR g.cols b) } top false) ((bottom:Int) + 1) false):=Hd rfl
 rw [HG.out]
 clear hb0 h b0 b1
 go_enter Tryz.func355,Tryz.ntmps355
 go_wp2_with (first
  | (go_at_call 91;first
      | (have hpv:=HS1.out;clear hpv;(with_reducible refine (HBA2.out _ HS1.out).mono ?_);rintro e w9 ⟨rfl,rfl⟩)
      | ((with_reducible refine HBA.out.mono ?_);rintro e w9 ⟨rfl,rfl⟩))
  | (go_at_call 149;first
      | (have hpv:=HS1.out;clear hpv;(with_reducible refine (HT2.out _ HS1.out).mono ?_);rintro e w2 ⟨rfl,hs⟩;have HS2:=Hd hs;have y0:=hs.hold HX HB0.out;have y1:=hs.hold HX HB1.out;clear hs)
      | ((with_reducible refine HT1.out.mono ?_);rintro e w2 ⟨rfl,hs⟩;have HS1:=Hd hs;clear hs))
  | (go_at_call 382;(with_reducible refine (HSL.out _ HS2.out).mono ?_);rintro e w3 ⟨rfl,hs⟩;have HS3:=Hd hs;clear hs)
  | (go_at_call 293;first
      | (have hpv:=HS4.out;clear hpv;(with_reducible refine (HPA.out _ _ _ HS4.out).mono ?_);rintro e w4 ⟨rfl,hs⟩;have HS5:=Hd hs;clear hs)
      | ((with_reducible refine (HPA.out _ _ _ HS3.out).mono ?_);rintro e w4 ⟨rfl,hs⟩;have HS4:=Hd hs;clear hs)))
 go_end0
 exact ⟨rfl,HS5.out.pre HB.out⟩
end
end Go.Proofs.YtaefcahblmopfaaGreatDoor
