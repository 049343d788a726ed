/- Joined by a tool of this claim out of smaller texts. Conditions: as stated. -/
import Derived.Test.YtaefcahblmopfaaGreatDoorDp04
set_option linter.unusedVariables false
set_option linter.unusedSimpArgs false
set_option maxRecDepth 100000
open Go.Lib renaming hid → Hd
namespace Go.Proofs.YtaefcahblmopfaaGreatDoor
open Go.RowKit
theorem flat_take {α:Type} {enc:α→List Value} {K:Nat} (hl:∀ x,(enc x).length = K):∀ (l:List α) (k:Nat),(flat enc l).take (k * K) = flat enc (l.take k)
 | [],k => by simp [flat]
 | x :: l,0 => by simp [flat]
 | x :: l,k + 1 => by
   have e:flat enc (x :: l) = enc x ++ flat enc l:=rfl
   have e2:flat enc ((x :: l).take (k + 1)) = enc x ++ flat enc (l.take k):=rfl
   rw [e,e2,← flat_take hl l k,List.take_append,List.take_of_length_le (by rw [hl,Nat.add_mul];omega),hl,show (k + 1) * K - K = k * K by rw [Nat.add_mul];omega]
theorem flat_drop {α:Type} {enc:α→List Value} {K:Nat} (hl:∀ x,(enc x).length = K):∀ (l:List α) (k:Nat),(flat enc l).drop (k * K) = flat enc (l.drop k)
 | [],k => by simp [flat]
 | x :: l,0 => by simp
 | x :: l,k + 1 => by
   have e:flat enc (x :: l) = enc x ++ flat enc l:=rfl
   have e2:flat enc ((x :: l).drop (k + 1)) = flat enc (l.drop k):=rfl
   rw [e,e2,← flat_drop hl l k,List.drop_append,List.drop_eq_nil_of_le (by rw [hl,Nat.add_mul];omega),hl,show (k + 1) * K - K = k * K by rw [Nat.add_mul];omega,List.nil_append]
theorem CrO.setMany {w:World} {base g cap:Nat} {l:List Cl} (h:CrO w base g cap l) (off:Nat) (cs:List Cl) (hi:off + cs.length ≤ l.length) :
 CrO (w.setCells g (off * 8) (flat encCl cs)) base g cap (l.take off ++ cs ++ l.drop (off + cs.length))∧Mod [g] w (w.setCells g (off * 8) (flat encCl cs)):=by
 refine ⟨?_,mod_setCellsN (.inl (by simp)) _ _ _ (Mod.refl _ _)⟩
 have h1:=owns_setCells (flat encCl cs) (off * 8) (flat encCl l) w h (by rw [flat_len encCl_len,flat_len encCl_len];omega)
 have hlen:(l.take off ++ cs ++ l.drop (off + cs.length)).length = l.length:=by simp;omega
 unfold CrO
 rw [hlen]
 rw [flat_take encCl_len,flat_len encCl_len,show off * 8 + cs.length * 8 = (off + cs.length) * 8 by omega,flat_drop encCl_len,← flat_append,← flat_append,← List.append_assoc] at h1
 exact h1
def wipeO (o:List Cl) (off n:Nat) (b:Col):List Cl:=o.take off ++ List.replicate n (blankC b) ++ o.drop (off + n)
theorem wipeO_len {o:List Cl} {off n:Nat} (b:Col) (h:off + n ≤ o.length):(wipeO o off n b).length = o.length:=by unfold wipeO;simp;omega
theorem wipeO_succ {o:List Cl} {off i:Nat} {b:Col} (h:off + i < o.length):(wipeO o off i b).set (off + i) (blankC b) = wipeO o off (i + 1) b:=by
 unfold wipeO
 rw [List.set_append_right _ _ (by simp;omega),List.length_append,List.length_take,List.length_replicate,show off + i - (min off o.length + i) = 0 by omega]
 rw [List.drop_eq_getElem_cons h,List.set_cons_zero,List.replicate_succ',List.append_assoc,List.append_assoc,List.append_assoc]
 simp [Nat.add_assoc]
set_option maxHeartbeats 3200000 in
theorem cwipe_any (base g cap off n c:Nat) (o:List Cl) (b:Col) (w:World) (h:CrO w base g cap o) (hn:off + n ≤ o.length) (hz:o.length ≤ 10000) :
 Calls Tryz.prog 351 #[.slice (some ⟨g,off * 8,none⟩) n c,.agg #[.int .i64 b.k,.int .i64 b.n]] w (MendPost base g cap (wipeO o off n b) w):=by
 have hnle:off + n ≤ o.length:=hn
 have HL:=Hd hn
 have HZ:=Hd hz
 have HBL:=Hd (fun w => cblank_any b w)
 have HB0:=Hd (below_allocs (Below.refl w.heap.size w) (.cells #[.int .i64 b.k,.int .i64 b.n] 61))
 have HK:Hid (HoldAt (w.alloc (.cells #[.int .i64 b.k,.int .i64 b.n] 61)) w.heap.size 0 (.int .i64 b.k)∧HoldAt (w.alloc (.cells #[.int .i64 b.k,.int .i64 b.n] 61)) w.heap.size 1 (.int .i64 b.n)):=Hd ⟨at_ (hp_new rfl) 0 _ rfl,at_ (hp_new rfl) 1 _ rfl⟩
 have HO:=Hd (h.below HB0.out)
 have hg:=h.lt.2
 clear h hn hnle hz
 go_enter Tryz.func351,Tryz.ntmps351
 go_wp2_with fail
 generalize World.alloc _ _ = W at HB0 HK HO ⊢
 go_loopw [7] (fun s7 wr => ∃ i:Nat,s7 = .int .i64 i∧i ≤ n∧CrO wr base g cap (wipeO o off i b)∧Mod [g] W wr) (fun s7 _ => n - (intOf s7).toNat)
 case atStart => exact ⟨0,rfl,Nat.zero_le _,by have:=HO.out;unfold wipeO;simpa using this,Mod.refl _ _⟩
 case round =>
  obtain ⟨i,rfl,hi,hO,hM⟩:=hrel
  have HOi:=Hd hO
  have HM:=Hd hM
  obtain ⟨k0,-⟩:=hM.hold (by simp;omega) HK.out.1
  obtain ⟨k1,-⟩:=hM.hold (by simp;omega) HK.out.2
  clear hO hM
  by_cases hlt:i < n
  rotate_left
  · obtain rfl:i = n:=by omega
    go_wp2
    go_end0
    exact ⟨rfl,HOi.out,(Mod.of_below HB0.out).trans HM.out (fun b hb => .inl hb)⟩
  · have hltI:(i:Int) < (n:Int):=by omega
    have hw:IntKind.i64.wrap ((i:Int) + 1) = (i:Int) + 1:=IntWalk.i64_in _ (by have:=HL.out;have:=HZ.out;omega)
    go_wp2_with (first
     | (go_at_call 335;refine (HBL.out _).mono ?_;rintro e w3 ⟨rfl,hb⟩;have HB3:=Hd hb;clear hb;have HTH:=Hd ((HOi.out.below HB3.out).there (i:=off + i) (by rw [wipeO_len b (by have:=HL.out;omega)];have:=HL.out;omega)))
     | (refine wpList_store_mid (op:=⟨none,.store 65 (.tmp 14) (.tmp 13),_,_,_,_⟩) rfl 65 (.tmp 14) (.tmp 13) rfl g ((off + i) * 8) (encCl (blankC b)).toArray (by rw [Nat.add_mul];rfl) rfl HTH.out info_cell (cl_one (blankC b)) ?_))
    obtain ⟨q1,q2⟩:=(HOi.out.below HB3.out).set (i:=off + i) (by rw [wipeO_len b (by have:=HL.out;omega)];have:=HL.out;omega) (blankC b)
    rw [wipeO_succ (by have:=HL.out;omega)] at q1
    have Q1:=Hd q1
    have Q2:=Hd q2
    clear q1 q2
    go_roundw
    case rel => exact ⟨i + 1,by go_num,by omega,Q1.out,(HM.out.then_below HB3.out).trans Q2.out (fun k hk => .inl hk)⟩
    case measure => simp [intOf];omega
def eraseO (o:List Cl) (x y:Int) (b:Col):List Cl:=if max 0 x < min y o.length then wipeO o (max 0 x).toNat (min y o.length - max 0 x).toNat b else o
theorem wipeL_O (o:List Cl) (x y:Int) (b:Col):wipeL b x y o = eraseO o x y b:=by
 unfold wipeL eraseO
 split
 · next h =>
   refine List.ext_getElem? fun i => ?_
   rw [List.getElem?_mapIdx]
   unfold wipeO
   rcases Nat.lt_or_ge i o.length with hi | hi
   · rw [List.getElem?_eq_getElem hi]
     simp only [Option.map_some]
     by_cases h1:(i:Int) < max 0 x
     · rw [if_neg (by omega),List.append_assoc,List.getElem?_append_left (by rw [List.length_take];omega),List.getElem?_take,if_pos (by omega),List.getElem?_eq_getElem hi]
     · by_cases h2:(i:Int) < min y o.length
       · rw [if_pos (by omega),List.getElem?_append_left (by rw [List.length_append,List.length_take,List.length_replicate];omega),List.getElem?_append_right (by rw [List.length_take];omega),List.getElem?_replicate,if_pos (by rw [List.length_take];omega)]
       · rw [if_neg (by omega),List.getElem?_append_right (by rw [List.length_append,List.length_take,List.length_replicate];omega),List.length_append,List.length_take,List.length_replicate,List.getElem?_drop,← List.getElem?_eq_getElem hi]
         congr 1
         omega
   · rw [List.getElem?_eq_none hi,List.getElem?_eq_none (by simp;omega)];rfl
 · next h =>
   refine List.ext_getElem? fun i => ?_
   rw [List.getElem?_mapIdx]
   rcases Nat.lt_or_ge i o.length with hi | hi
   · rw [List.getElem?_eq_getElem hi]
     simp only [Option.map_some]
     rw [if_neg (by omega)]
   · rw [List.getElem?_eq_none hi];rfl
theorem eraseO_len (o:List Cl) (x y:Int) (b:Col):(eraseO o x y b).length = o.length:=by
 rw [← wipeL_O];unfold wipeL;simp
def insertO (o:List Cl) (x n:Int) (b:Col):List Cl :=
 if x < 0 ∨ (o.length:Int) ≤ x ∨ n < 1 then o
 else wipeO (o.take (x.toNat + (min n (o.length - x)).toNat) ++ (o.drop x.toNat).take (o.length - (x.toNat + (min n (o.length - x)).toNat))) x.toNat (min n (o.length - x)).toNat b
theorem insertL_O (l:List Cl) (x n:Int) (b:Col):mendL (insertO (mendL l) x n b) = insertL l x n b:=by
 unfold insertO insertL
 simp only []
 generalize hm:mendL l = o
 split
 · rw [← hm];exact mendL_idem l
 · next h =>
   congr 1
   refine List.ext_getElem? fun i => ?_
   unfold wipeO
   obtain ⟨k,rfl⟩:∃ k:Nat,x = k:=⟨x.toNat,by omega⟩
   obtain ⟨m,rfl⟩:∃ m:Nat,n = m:=⟨n.toNat,by omega⟩
   obtain ⟨q,hq⟩:∃ q:Nat,q = min m (o.length - k):=⟨_,rfl⟩
   have e1:(min (m:Int) ((o.length:Int) - k)).toNat = q:=by omega
   rw [e1]
   simp only [Int.toNat_natCast]
   simp only [List.getElem?_take,List.append_assoc,List.getElem?_append,List.length_append,List.length_take,List.length_replicate,List.getElem?_replicate,List.getElem?_drop,List.length_drop]
   repeat' split
   all_goals first
    | rfl
    | (congr 1;omega)
    | (exfalso;omega)
    | (rw [List.getElem?_eq_none (by omega)])
    | skip
   all_goals first
    | omega
    | (symm;rw [List.getElem?_eq_none (by omega)])
    | skip
theorem insertO_len (o:List Cl) (x n:Int) (b:Col):(insertO o x n b).length = o.length:=by
 unfold insertO
 split
 · rfl
 · have e:(o.take (x.toNat + (min n (o.length - x)).toNat) ++ (o.drop x.toNat).take (o.length - (x.toNat + (min n (o.length - x)).toNat))).length = o.length:=by simp;omega
   rw [wipeO_len b (by rw [e];omega),e]
set_option maxHeartbeats 3200000 in
theorem erase1_any (base g cap:Nat) (o:List Cl) (bx bz bb:Nat) (x y:Int) (b:Col) (w:World) (h:CrO w base g cap o) (hz:o.length ≤ 10000) (hx:w.cell? ⟨bx,0,none⟩ = some (.int .i64 x)) (hy:w.cell? ⟨bz,0,none⟩ = some (.int .i64 y))
 (hk:w.cell? ⟨bb,0,none⟩ = some (.int .i64 b.k)) (hn:w.cell? ⟨bb,1,none⟩ = some (.int .i64 b.n)) :
 Calls Tryz.prog 350 #[.slice (some ⟨g,0,none⟩) o.length cap,.pointer (some ⟨bx,0,none⟩),.pointer (some ⟨bz,0,none⟩),.pointer (some ⟨bb,0,none⟩)] w (MendPost base g cap (eraseO o x y b) w):=by
 have H:=Hd h
 have hgb:=h.lt
 have hcap:o.length ≤ cap:=by
  rcases h.2 with ⟨e,-⟩ | ⟨g',c',cur,e,_,_,hc,_⟩
  · cases e
  · simp only [Value.slice.injEq] at e;omega
 clear h
 obtain ⟨X,hX⟩:∃ X,(if 0 < x then x else 0) = X:=⟨_,rfl⟩
 obtain ⟨Y,hY⟩:∃ Y,(if (o.length:Int) < y then (o.length:Int) else y) = Y:=⟨_,rfl⟩
 have hX2:max 0 x = X:=by rw [← hX];omega
 have hY2:min y (o.length:Int) = Y:=by rw [← hY];omega
 have HV:=Hd (show eraseO o x y b = if X < Y then wipeO o X.toNat (Y - X).toNat b else o from by rw [← hX2,← hY2];rfl)
 generalize eraseO o x y b = RES at HV
 have hX0:0 ≤ X:=by omega
 have hYl:Y ≤ (o.length:Int):=by omega
 clear hX2 hY2
 by_cases hlt:X < Y
 rotate_left
 · go_enter Tryz.func350,Tryz.ntmps350
   go_upto_region 0 with fail
   refine wp_region_u 7 (fun w' => Below w.heap.size w w'∧w'.cell? ⟨bx,0,none⟩ = some (.int .i64 x)∧w'.cell? ⟨bz,0,none⟩ = some (.int .i64 y)) (by kernel_rfl) (by kernel_rfl) ?_ ?_
   · exact ⟨(Below.refl _ _).drew,hx,hy⟩
   simp only [List.take_succ_cons,List.take_zero,List.drop_succ_cons,List.drop_zero]
   repeat (
    (first
     | refine seqU_skip (by rfl) ?_
     | (refine seqU_val ?_ (by rfl) ?_ ?_;rotate_left;(focus (intro w' hS;obtain ⟨_,_,_⟩:=hS;go_simp;first | done | with_reducible rfl))))
    simp only [Act.put,List.setIfInBounds_toArray,List.set_cons_zero,List.set_cons_succ])
   refine seqU_nil (fun w' hS => ?_)
   have HB1:=Hd hS.1
   clear hS hx hy
   go_wp2
   go_end0
   rw [HV.out,if_neg (by omega)]
   exact ⟨rfl,H.out.below HB1.out,Mod.of_below HB1.out⟩
 · obtain ⟨k,rfl⟩:∃ k:Nat,X = (k:Int):=⟨X.toNat,by omega⟩
   obtain ⟨m,rfl⟩:∃ m:Nat,Y = (m:Int):=⟨Y.toNat,by omega⟩
   have hml:m ≤ o.length:=by omega
   have hkmN:k < m:=by omega
   have HL:=Hd (And.intro hml hkmN)
   go_enter Tryz.func350,Tryz.ntmps350
   go_upto_region 0 with fail
   refine wp_region_u 7 (fun w' => Below w.heap.size w w'∧w'.cell? ⟨bx,0,none⟩ = some (.int .i64 x)∧w'.cell? ⟨bz,0,none⟩ = some (.int .i64 y)) (by kernel_rfl) (by kernel_rfl) ?_ ?_
   · exact ⟨(Below.refl _ _).drew,hx,hy⟩
   simp only [List.take_succ_cons,List.take_zero,List.drop_succ_cons,List.drop_zero]
   repeat (
    (first
     | refine seqU_skip (by rfl) ?_
     | (refine seqU_val ?_ (by rfl) ?_ ?_;rotate_left;(focus (intro w' hS;obtain ⟨_,_,_⟩:=hS;go_simp;first | done | with_reducible rfl))))
    simp only [Act.put,List.setIfInBounds_toArray,List.set_cons_zero,List.set_cons_succ])
   refine seqU_nil (fun w' hS => ?_)
   have HB1:=Hd hS.1
   have hk1:=holda hS.1 hk
   have hn1:=holda hS.1 hn
   clear hS hx hy hk hn
   go_upto_region 2 with fail
   clear hX hY
   have hc1:m ≤ cap:=by omega
   have hc2:k ≤ m:=by omega
   have hc3:¬ cap = k:=by omega
   have hm8:(m:Int) - (k:Int) = ((m - k:Nat):Int):=by omega
   refine wp_region_u 5 (fun w2 => Below w'.heap.size w' w2∧w2.cell? ⟨bb,0,none⟩ = some (.int .i64 b.k)∧w2.cell? ⟨bb,1,none⟩ = some (.int .i64 b.n)) (by kernel_rfl) (by kernel_rfl) ?_ ?_
   · exact ⟨(Below.refl _ _).drew,hk1,hn1⟩
   simp only [List.take_succ_cons,List.take_zero,List.drop_succ_cons,List.drop_zero]
   repeat (
    (first
     | refine seqU_skip (by rfl) ?_
     | (refine seqU_val ?_ (by rfl) ?_ ?_;rotate_left;(focus (intro w' hS;obtain ⟨_,_,_⟩:=hS;go_simp;first | done | with_reducible rfl))))
    simp only [Act.put,List.setIfInBounds_toArray,List.set_cons_zero,List.set_cons_succ])
   refine seqU_nil (fun w' hS => ?_)
   have HB2:=Hd (below_tail HB1.out hS.1)
   have HWP:=Hd (cwipe_any base g cap k (m - k) (cap - k) o b _ (H.out.below HB2.out) (by omega) hz)
   have HM:=Hd hm8
   clear hS hk1 hn1 hc1 hc2 hc3 hm8
   go_wp2_with (go_at_call 351;refine HWP.out.mono ?_;rintro e w3 ⟨rfl,hc,hm⟩)
   go_end0
   rw [HV.out,if_pos (by omega),HM.out]
   exact ⟨rfl,hc,(Mod.of_below HB2.out).trans hm (fun b hb => .inl hb)⟩
theorem CrO.cap {w:World} {base g cap:Nat} {o:List Cl} (h:CrO w base g cap o):o.length ≤ cap:=by
 rcases h.2 with ⟨e,-⟩ | ⟨g',c',cur,e,_,_,hc,_⟩
 · cases e
 · simp only [Value.slice.injEq] at e;omega
theorem CrO.copy {w:World} {base g cap:Nat} {o:List Cl} (h:CrO w base g cap o) (i k n oi ok dl sl dc sc:Nat) (hi:i + n ≤ o.length) (hk:k + n ≤ o.length) (hmin:Nat.min sl dl = n) (hoi:0 < n→oi = i * 8) (hok:0 < n→ok = k * 8) :
 ∃ w',(Builtin.copy_ #[50,50] 3 #[.slice (some ⟨g,oi,none⟩) dl dc,.slice (some ⟨g,ok,none⟩) sl sc]).run Tryz.prog w = .ok (goInt n) w'∧CrO w' base g cap (o.take i ++ (o.drop k).take n ++ o.drop (i + n))∧Mod [g] w w':=by
 have hlen:((o.drop k).take n).length = n:=by simp;omega
 have key:∀ (o1 o2:Nat),(0 < n→o1 = i * 8)→(0 < n→o2 = k * 8)→(Builtin.copy_ #[50,50] 3 #[.slice (some ⟨g,o1,none⟩) dl dc,.slice (some ⟨g,o2,none⟩) sl sc]).run Tryz.prog w = .ok (goInt n) (w.setCells g o1 (flat encCl ((o.drop k).take n))):=fun o1 o2 h1 h2 => by
  have hcl:(flat encCl ((o.drop k).take n)).length = n * 8:=by rw [flat_len encCl_len,hlen]
  have:=run_copy_k (P:=Tryz.prog) w 50 50 3 65 g o1 dl dc ⟨g,o2,none⟩ sl sc 8 (flat encCl ((o.drop k).take n)) Tryz.underlying50 info_cell (by rw [hmin,hcl]) (fun j v hj => ?_) (fun j hj => ?_) (fun j hj => ?_) (flat_one encCl_one _)
  · rw [hmin] at this;exact this
  · have hj':=(List.getElem?_eq_some_iff.1 hj).1
    rw [hcl] at hj'
    rw [add_lit',h2 (by omega)]
    rw [← flat_take encCl_len,List.getElem?_take,if_pos (by omega),← flat_drop encCl_len,List.getElem?_drop] at hj
    exact (owns_hold h hj).1
  · rw [hcl] at hj
    obtain ⟨v,hv⟩:∃ v,(flat encCl o)[o1 + j]? = some v:=⟨_,List.getElem?_eq_getElem (by rw [flat_len encCl_len,h1 (by omega)];omega)⟩
    rw [(owns_hold h hv).1];rfl
  · rw [hcl] at hj
    obtain ⟨v,hv⟩:∃ v,(flat encCl o)[o1 + j]? = some v:=⟨_,List.getElem?_eq_getElem (by rw [flat_len encCl_len,h1 (by omega)];omega)⟩
    exact (owns_hold h hv).2
 refine ⟨_,key oi ok hoi hok,?_⟩
 rcases Nat.eq_zero_or_pos n with rfl | hn
 · simp only [List.take_zero,List.append_nil,Nat.add_zero,List.take_append_drop]
   exact ⟨h,Mod.refl _ _⟩
 · rw [hoi hn]
   have:=h.setMany i ((o.drop k).take n) (by rw [hlen];omega)
   rwa [hlen] at this
set_option maxHeartbeats 3200000 in
theorem insert1_any (base g cap:Nat) (o:List Cl) (bx bn bb:Nat) (x n:Int) (b:Col) (w:World) (h:CrO w base g cap o) (hz:o.length ≤ 10000) (hx:w.cell? ⟨bx,0,none⟩ = some (.int .i64 x)) (hn:w.cell? ⟨bn,0,none⟩ = some (.int .i64 n))
 (hk0:w.cell? ⟨bb,0,none⟩ = some (.int .i64 b.k)) (hn0:w.cell? ⟨bb,1,none⟩ = some (.int .i64 b.n)) (hb1:bx < base) (hb2:bn < base) (hb3:bb < base) :
 Calls Tryz.prog 380 #[.slice (some ⟨g,0,none⟩) o.length cap,.pointer (some ⟨bx,0,none⟩),.pointer (some ⟨bn,0,none⟩),.pointer (some ⟨bb,0,none⟩)] w (MendPost base g cap (insertO o x n b) w):=by
 have H:=Hd h
 have hgb:=h.lt
 have hcap:=h.cap
 clear h
 have HV:=Hd (show insertO o x n b = if x < 0 ∨ (o.length:Int) ≤ x ∨ n < 1 then o else wipeO (o.take (x.toNat + (min n (o.length - x)).toNat) ++ (o.drop x.toNat).take (o.length - (x.toNat + (min n (o.length - x)).toNat))) x.toNat (min n (o.length - x)).toNat b from rfl)
 have HVL:=Hd (insertO_len o x n b)
 generalize insertO o x n b = RES at HV HVL
 by_cases hx0:x < 0
 · go_enter Tryz.func380,Tryz.ntmps380
   go_wp2
   go_end0
   rw [HV.out,if_pos (by omega)]
   exact H.out.mend_post
 by_cases hxl:(o.length:Int) ≤ x
 · go_enter Tryz.func380,Tryz.ntmps380
   go_wp2
   go_end0
   rw [HV.out,if_pos (by omega)]
   exact H.out.mend_post
 by_cases hn1:n < 1
 · go_enter Tryz.func380,Tryz.ntmps380
   go_wp2
   go_end0
   rw [HV.out,if_pos (by omega)]
   exact H.out.mend_post
 obtain ⟨k,rfl⟩:∃ k:Nat,x = (k:Int):=⟨x.toNat,by omega⟩
 have hw1:IntKind.i64.wrap ((o.length:Int) - (k:Int)) = (o.length:Int) - (k:Int):=IntWalk.i64_in _ (by omega)
 obtain ⟨q,hq⟩:∃ q:Nat,(if (o.length:Int) - (k:Int) < n then (o.length:Int) - (k:Int) else n) = (q:Int):=⟨(min n ((o.length:Int) - (k:Int))).toNat,by omega⟩
 have hq2:(min n ((o.length:Int) - (k:Int))).toNat = q:=by omega
 obtain ⟨j,hj⟩:∃ j:Nat,j = k + q:=⟨_,rfl⟩
 have hjl:j ≤ o.length:=by omega
 have hq0:0 < q:=by omega
 have hkj:(k:Int) + (q:Int) = (j:Int):=by omega
 have hwj:IntKind.i64.wrap (j:Int) = (j:Int):=IntWalk.i64_in _ (by omega)
 have hkl:k < o.length:=by omega
 rw [if_neg (by omega),hq2,Int.toNat_natCast,← hj] at HV
 have HQ:=Hd (And.intro hj hq0)
 obtain ⟨off,hoff⟩:∃ off,(if cap = j then (some ⟨g,0,none⟩:Option Addr) else some ⟨g,j * 8,none⟩) = some ⟨g,off,none⟩:=by
  by_cases h:cap = j
  · exact ⟨0,if_pos h⟩
  · exact ⟨j * 8,if_neg h⟩
 have HOFF:Hid (0 < o.length - j→off = j * 8):=Hd (fun h => by rw [if_neg (by omega)] at hoff;simp at hoff;omega)
 have hc3:¬ cap = k:=by omega
 have HBX:=Hd hx
 have HBN:=Hd hn
 have HBK:=Hd hk0
 have HBM:=Hd hn0
 clear hq2 hj
 go_enter Tryz.func380,Tryz.ntmps380
 go_upto_region 2 with fail
 clear hq hw1 hk0 hn0 hn
 have hc4:o.length ≤ cap:=hcap
 have hc5:k ≤ o.length:=by omega
 refine wp_region_u 8 (fun w' => Below w.heap.size w w'∧w'.cell? ⟨bx,0,none⟩ = some (.int .i64 k)) (by kernel_rfl) (by kernel_rfl) ?_ ?_
 · exact ⟨(Below.refl _ _).drew,hx⟩
 simp only [List.take_succ_cons,List.take_zero,List.drop_succ_cons,List.drop_zero]
 repeat (
  (first
   | refine seqU_skip (by rfl) ?_
   | (refine seqU_val ?_ (by rfl) ?_ ?_;rotate_left;(focus (intro w' hS;obtain ⟨_,_⟩:=hS;go_simp;first | done | with_reducible rfl))))
  simp only [Act.put,List.setIfInBounds_toArray,List.set_cons_zero,List.set_cons_succ])
 refine seqU_nil (fun w' hS => ?_)
 have HB1:=Hd hS.1
 obtain ⟨w2,hcp,hO2,hM2⟩:=(H.out.below HB1.out).copy j k (o.length - j) off (k * 8) (o.length - j) (o.length - k) (cap - j) (cap - k) (by omega) (by have:=HQ.out;omega) (Nat.min_eq_right (by have:=HQ.out;omega)) HOFF.out (fun _ => rfl)
 have hdn:List.drop (j + (o.length - j)) o = []:=List.drop_eq_nil_of_le (by omega)
 rw [hdn,List.append_nil] at hO2
 clear hdn
 have HO2:=Hd hO2
 have HM2:=Hd ((Mod.of_below (X:=[g]) HB1.out).trans hM2 (fun b hb => .inl hb))
 have hlen:(List.take j o ++ List.take (o.length - j) (List.drop k o)).length = o.length:=by
  have:=HQ.out
  simp;omega
 have HWP:=Hd (fun w3 (h:CrO w3 base g cap (List.take j o ++ List.take (o.length - j) (List.drop k o))) => cwipe_any base g cap k q (cap - k) _ b w3 h (by rw [hlen];have:=HQ.out;omega) (by rw [hlen];exact hz))
 have x2:=HM2.out.cell (by simp;omega) HBX.out
 have b0:=HM2.out.cell (by simp;omega) HBK.out
 have b1:=HM2.out.cell (by simp;omega) HBM.out
 have HLEN:=Hd hlen
 clear hS hO2 hM2 hlen hx
 go_upto_region 3 with fail
 clear hcp hoff
 have hc6:j ≤ cap:=by omega
 have hc7:k ≤ j:=by have:=HQ.out;omega
 have hjk:j - k = q:=by have:=HQ.out;omega
 refine wp_region_u 7 (fun w' => Below w2.heap.size w2 w'∧w'.cell? ⟨bx,0,none⟩ = some (.int .i64 k)∧w'.cell? ⟨bb,0,none⟩ = some (.int .i64 b.k)∧w'.cell? ⟨bb,1,none⟩ = some (.int .i64 b.n)) (by kernel_rfl) (by kernel_rfl) ?_ ?_
 · exact ⟨(Below.refl _ _).drew,x2,b0,b1⟩
 simp only [List.take_succ_cons,List.take_zero,List.drop_succ_cons,List.drop_zero]
 repeat (
  (first
   | refine seqU_skip (by rfl) ?_
   | (refine seqU_val ?_ (by rfl) ?_ ?_;rotate_left;(focus (intro w' hS;obtain ⟨_,_,_,_⟩:=hS;go_simp;first | done | with_reducible rfl))))
  simp only [Act.put,List.setIfInBounds_toArray,List.set_cons_zero,List.set_cons_succ])
 refine seqU_nil (fun w' hS => ?_)
 have HB3:=Hd hS.1
 clear hS x2 b0 b1
 go_wp2_with (go_at_call 351;refine (HWP.out _ (HO2.out.below HB3.out)).mono ?_;rintro e w4 ⟨rfl,hc,hm⟩)
 go_end0
 rw [HV.out]
 exact ⟨rfl,hc,(HM2.out.then_below HB3.out).trans hm (fun b hb => .inl hb)⟩
theorem WithPost.rebase {l:List Cl} {w W w':World} {e:Ending} (hb:Below w.heap.size w W) (h:WithPost l W e w'):WithPost l w e w':=by
 obtain ⟨g,cap,he,hc,hb2⟩:=h
 exact ⟨g,cap,he,owns_weaken hc hb.size,below_tail hb hb2⟩
theorem range_box {w:World} {b:Nat} {t:TypeId} {cs:List Value} (h:w.heap[b]? = some (.cells cs.toArray t (0,0))) (j:Nat) (v:Value) (hv:cs[j]? = some v):w.cell? ⟨b,j,none⟩ = some v:=(whole_at h j v hv).1
set_option maxHeartbeats 3200000 in
theorem cClose_any (A:Option Addr) (l:List Cl) (ca:Nat) (w:World) (hl:GrAt encCl 8 w A l) (h0:0 < l.length) (hz:l.length ≤ 10000) :
 Calls Tryz.prog 379 #[.slice A l.length ca] w (WithPost (closeL l) w):=by
 have HW:=Hd (cwith_any A l ca 402 #[] (fun o => o.set (o.length - 1) padC) w hl h0 hz (by simp [mendL_len]) (fun args w => by kernel_rfl) (fun g cap w' hc _ => by
  have:=close1_any w.heap.size g cap (mendL l) w' hc (by rw [mendL_len];exact h0) (by rw [mendL_len];exact hz)
  rw [mendL_len] at this
  simp only [mendL_len]
  exact this))
 rw [mendL_len,show mendL ((mendL l).set (l.length - 1) padC) = closeL l from rfl] at HW
 clear hl
 go_enter Tryz.func379,Tryz.ntmps379
 go_wp2_with (go_at_call 104;refine HW.out.mono ?_;rintro e w1 ⟨g,cap,rfl,hc,hb⟩;have HC:=Hd hc;clear hc)
 go_ret
 exact ⟨g,cap,rfl,HC.out,hb⟩
set_option maxHeartbeats 3200000 in
theorem cErase_any (A:Option Addr) (l:List Cl) (ca:Nat) (x y:Int) (b:Col) (w:World) (hl:GrAt encCl 8 w A l) (h0:0 < l.length) (hz:l.length ≤ 10000) :
 Calls Tryz.prog 292 #[.slice A l.length ca,.int .i64 x,.int .i64 y,.agg #[.int .i64 b.k,.int .i64 b.n]] w (WithPost (eraseL l x y b) w):=by
 have hb0:Below w.heap.size w (((w.alloc (.cells #[.int .i64 x] 3)).alloc (.cells #[.int .i64 y] 3)).alloc (.cells #[.int .i64 b.k,.int .i64 b.n] 61)):=below_allocs (below_allocs (below_allocs (Below.refl w.heap.size w) _) _) _
 have hp0:((((w.alloc (.cells #[.int .i64 x] 3)).alloc (.cells #[.int .i64 y] 3)).alloc (.cells #[.int .i64 b.k,.int .i64 b.n] 61)):World).heap[w.heap.size + 0]? = some (.cells #[.int .i64 x] 3 (0,0)):=by first | exact hp_old (hp_old (hp_new (by simp))) | (refine hp_old ?_;refine hp_old ?_;exact hp_new rfl)
 have hp1:((((w.alloc (.cells #[.int .i64 x] 3)).alloc (.cells #[.int .i64 y] 3)).alloc (.cells #[.int .i64 b.k,.int .i64 b.n] 61)):World).heap[w.heap.size + 1]? = some (.cells #[.int .i64 y] 3 (0,0)):=by first | exact hp_old (hp_new (by simp)) | (refine hp_old ?_;refine hp_old ?_;exact hp_new rfl)
 have hp2:((((w.alloc (.cells #[.int .i64 x] 3)).alloc (.cells #[.int .i64 y] 3)).alloc (.cells #[.int .i64 b.k,.int .i64 b.n] 61)):World).heap[w.heap.size + 2]? = some (.cells #[.int .i64 b.k,.int .i64 b.n] 61 (0,0)):=by first | exact hp_new (by simp) | (refine hp_old ?_;refine hp_old ?_;exact hp_new rfl)
 have HB0:=Hd hb0
 have HW:=Hd (cwith_any A l ca 350 #[.pointer (some ⟨w.heap.size,0,none⟩),.pointer (some ⟨w.heap.size + 1,0,none⟩),.pointer (some ⟨w.heap.size + 2,0,none⟩)] (fun o => eraseO o x y b) (((w.alloc (.cells #[.int .i64 x] 3)).alloc (.cells #[.int .i64 y] 3)).alloc (.cells #[.int .i64 b.k,.int .i64 b.n] 61)) (hl.below hb0) h0 hz (by rw [eraseO_len,mendL_len]) (fun args w => by kernel_rfl) (fun g cap w' hc hb => by
  have:=erase1_any _ g cap (mendL l) _ _ _ x y b w' hc (by rw [mendL_len];exact hz) (holda hb (range_box hp0 0 _ rfl)) (holda hb (range_box hp1 0 _ rfl)) (holda hb (range_box hp2 0 _ rfl)) (holda hb (range_box hp2 1 _ rfl))
  rwa [mendL_len] at this))
 have HL:=Hd (show mendL ((fun o => eraseO o x y b) (mendL l)) = eraseL l x y b from by unfold eraseL;rw [wipeL_O])
 rw [HL.out] at HW
 clear hl hb0 hp0 hp1 hp2
 go_enter Tryz.func292,Tryz.ntmps292
 go_wp2_with (go_at_call 104;refine HW.out.mono ?_;intro e w1 hp;obtain ⟨g,cap,rfl,hc,hb⟩:=WithPost.rebase HB0.out hp;have HC:=Hd hc;clear hc hp)
 go_ret
 exact ⟨g,cap,rfl,HC.out,hb⟩
set_option maxHeartbeats 3200000 in
theorem cInsert_any (A:Option Addr) (l:List Cl) (ca:Nat) (x n:Int) (b:Col) (w:World) (hl:GrAt encCl 8 w A l) (h0:0 < l.length) (hz:l.length ≤ 10000) :
 Calls Tryz.prog 344 #[.slice A l.length ca,.int .i64 x,.int .i64 n,.agg #[.int .i64 b.k,.int .i64 b.n]] w (WithPost (insertL l x n b) w):=by
 have hb0:Below w.heap.size w (((w.alloc (.cells #[.int .i64 x] 3)).alloc (.cells #[.int .i64 n] 3)).alloc (.cells #[.int .i64 b.k,.int .i64 b.n] 61)):=below_allocs (below_allocs (below_allocs (Below.refl w.heap.size w) _) _) _
 have hp0:((((w.alloc (.cells #[.int .i64 x] 3)).alloc (.cells #[.int .i64 n] 3)).alloc (.cells #[.int .i64 b.k,.int .i64 b.n] 61)):World).heap[w.heap.size + 0]? = some (.cells #[.int .i64 x] 3 (0,0)):=by first | exact hp_old (hp_old (hp_new (by simp))) | (refine hp_old ?_;refine hp_old ?_;exact hp_new rfl)
 have hp1:((((w.alloc (.cells #[.int .i64 x] 3)).alloc (.cells #[.int .i64 n] 3)).alloc (.cells #[.int .i64 b.k,.int .i64 b.n] 61)):World).heap[w.heap.size + 1]? = some (.cells #[.int .i64 n] 3 (0,0)):=by first | exact hp_old (hp_new (by simp)) | (refine hp_old ?_;refine hp_old ?_;exact hp_new rfl)
 have hp2:((((w.alloc (.cells #[.int .i64 x] 3)).alloc (.cells #[.int .i64 n] 3)).alloc (.cells #[.int .i64 b.k,.int .i64 b.n] 61)):World).heap[w.heap.size + 2]? = some (.cells #[.int .i64 b.k,.int .i64 b.n] 61 (0,0)):=by first | exact hp_new (by simp) | (refine hp_old ?_;refine hp_old ?_;exact hp_new rfl)
 have HB0:=Hd hb0
 have HW:=Hd (cwith_any A l ca 380 #[.pointer (some ⟨w.heap.size,0,none⟩),.pointer (some ⟨w.heap.size + 1,0,none⟩),.pointer (some ⟨w.heap.size + 2,0,none⟩)] (fun o => insertO o x n b) (((w.alloc (.cells #[.int .i64 x] 3)).alloc (.cells #[.int .i64 n] 3)).alloc (.cells #[.int .i64 b.k,.int .i64 b.n] 61)) (hl.below hb0) h0 hz (by rw [insertO_len,mendL_len]) (fun args w => by kernel_rfl) (fun g cap w' hc hb => by
  have:=insert1_any _ g cap (mendL l) _ _ _ x n b w' hc (by rw [mendL_len];exact hz) (holda hb (range_box hp0 0 _ rfl)) (holda hb (range_box hp1 0 _ rfl)) (holda hb (range_box hp2 0 _ rfl)) (holda hb (range_box hp2 1 _ rfl)) (by simp <;> omega) (by simp <;> omega) (by simp <;> omega)
  rwa [mendL_len] at this))
 have HL:=Hd (show mendL ((fun o => insertO o x n b) (mendL l)) = insertL l x n b from insertL_O l x n b)
 rw [HL.out] at HW
 clear hl hb0 hp0 hp1 hp2
 go_enter Tryz.func344,Tryz.ntmps344
 go_wp2_with (go_at_call 104;refine HW.out.mono ?_;intro e w1 hp;obtain ⟨g,cap,rfl,hc,hb⟩:=WithPost.rebase HB0.out hp;have HC:=Hd hc;clear hc hp)
 go_ret
 exact ⟨g,cap,rfl,HC.out,hb⟩
set_option maxHeartbeats 3200000 in
theorem cPut_any (A:Option Addr) (l:List Cl) (ca:Nat) (x r:Int) (a:Atr) (w:World) (hl:GrAt encCl 8 w A l) (h0:0 < l.length) (hz:l.length ≤ 10000) :
 Calls Tryz.prog 295 #[.slice A l.length ca,.int .i64 x,.int .i32 r,.agg #[.int .i64 a.fk,.int .i64 a.fn,.int .i64 a.bk,.int .i64 a.bn,.int .i64 a.fl]] w (WithPost (putL l x r a) w):=by
 have hb0:Below w.heap.size w (((w.alloc (.cells #[.int .i64 x] 3)).alloc (.cells #[.int .i32 r] 21)).alloc (.cells #[.int .i64 a.fk,.int .i64 a.fn,.int .i64 a.bk,.int .i64 a.bn,.int .i64 a.fl] 63)):=below_allocs (below_allocs (below_allocs (Below.refl w.heap.size w) _) _) _
 have hp0:((((w.alloc (.cells #[.int .i64 x] 3)).alloc (.cells #[.int .i32 r] 21)).alloc (.cells #[.int .i64 a.fk,.int .i64 a.fn,.int .i64 a.bk,.int .i64 a.bn,.int .i64 a.fl] 63)):World).heap[w.heap.size + 0]? = some (.cells #[.int .i64 x] 3 (0,0)):=by first | exact hp_old (hp_old (hp_new (by simp))) | (refine hp_old ?_;refine hp_old ?_;exact hp_new rfl)
 have hp1:((((w.alloc (.cells #[.int .i64 x] 3)).alloc (.cells #[.int .i32 r] 21)).alloc (.cells #[.int .i64 a.fk,.int .i64 a.fn,.int .i64 a.bk,.int .i64 a.bn,.int .i64 a.fl] 63)):World).heap[w.heap.size + 1]? = some (.cells #[.int .i32 r] 21 (0,0)):=by first | exact hp_old (hp_new (by simp)) | (refine hp_old ?_;refine hp_old ?_;exact hp_new rfl)
 have hp2:((((w.alloc (.cells #[.int .i64 x] 3)).alloc (.cells #[.int .i32 r] 21)).alloc (.cells #[.int .i64 a.fk,.int .i64 a.fn,.int .i64 a.bk,.int .i64 a.bn,.int .i64 a.fl] 63)):World).heap[w.heap.size + 2]? = some (.cells #[.int .i64 a.fk,.int .i64 a.fn,.int .i64 a.bk,.int .i64 a.bn,.int .i64 a.fl] 63 (0,0)):=by first | exact hp_new (by simp) | (refine hp_old ?_;refine hp_old ?_;exact hp_new rfl)
 have HB0:=Hd hb0
 have HW:=Hd (cwith_any A l ca 352 #[.pointer (some ⟨w.heap.size + 1,0,none⟩),.pointer (some ⟨w.heap.size,0,none⟩),.pointer (some ⟨w.heap.size + 2,0,none⟩)] (fun o => putO o x r a) (((w.alloc (.cells #[.int .i64 x] 3)).alloc (.cells #[.int .i32 r] 21)).alloc (.cells #[.int .i64 a.fk,.int .i64 a.fn,.int .i64 a.bk,.int .i64 a.bn,.int .i64 a.fl] 63)) (hl.below hb0) h0 hz (by rw [putO_len,mendL_len]) (fun args w => by kernel_rfl) (fun g cap w' hc hb => by
  have:=put1_any _ g cap (mendL l) _ _ _ x r a w' hc (by rw [mendL_len];exact hz) (holda hb (range_box hp1 0 _ rfl)) (holda hb (range_box hp0 0 _ rfl)) (fun j v hv => by rw [Nat.zero_add];exact holda hb (range_box (cs:=encAt a) hp2 j v hv)) (by simp <;> omega) (by simp <;> omega) (by simp <;> omega)
  rwa [mendL_len] at this))
 have HL:=Hd (show mendL ((fun o => putO o x r a) (mendL l)) = putL l x r a from putL_O l x r a)
 rw [HL.out] at HW
 clear hl hb0 hp0 hp1 hp2
 go_enter Tryz.func295,Tryz.ntmps295
 go_wp2_with (go_at_call 104;refine HW.out.mono ?_;intro e w1 hp;obtain ⟨g,cap,rfl,hc,hb⟩:=WithPost.rebase HB0.out hp;have HC:=Hd hc;clear hc hp)
 go_ret
 exact ⟨g,cap,rfl,HC.out,hb⟩
end Go.Proofs.YtaefcahblmopfaaGreatDoor
