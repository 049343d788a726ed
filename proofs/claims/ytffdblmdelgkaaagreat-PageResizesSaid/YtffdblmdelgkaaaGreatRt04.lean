/- Joined by a tool of this claim out of smaller texts. Conditions: as stated. -/
import Derived.Test.YtffdblmdelgkaaaGreatRt03
import Derived.Deep.CutBlock
import Derived.Deep.DeepCutAuto
set_option linter.unusedVariables false
set_option linter.unusedSimpArgs false
set_option maxRecDepth 100000
open Go.Lib renaming hid → Hd
namespace Go.Proofs.YtffdblmdelgkaaaGreat
def zC:Cl:=blankC ⟨0,0⟩
def nPad (c:Cl):Bool:=decide (c.half ≠ 3)
def roSize (r:Ro):Nat:=(r.cs.filter nPad).length
def cntL (l:List Ro):Nat:=(l.map roSize).sum
def flatR (l:List Ro):List Cl:=l.flatMap (fun r => r.cs.filter nPad)
def flowL (rows:List Ro):List Cl:=(mendL (flatR rows)).take (usedL (mendL (flatR rows)))
def unpad (c:Cl):Cl:=if c.half = 3 then emptyC c else c
def plainL (l:List Cl):List Cl:=mendL (l.map unpad)
def takeN (cols:Nat) (l:List Cl):Nat:=if l.length < cols then l.length else if (l.getD (cols - 1) zC).half = 1 then cols - 1 else cols
def rowCs (cols:Nat) (l:List Cl):List Cl:=l.take (takeN cols l) ++ (if takeN cols l + 1 = cols∧takeN cols l < l.length then [padC] else List.replicate (cols - takeN cols l) zC)
def splitG (cols:Nat):Nat→Bool→List Cl→List Ro
 | 0,_,_ => []
 | f + 1,c,l => ⟨rowCs cols l,c⟩ :: (if takeN cols l < l.length then splitG cols f true (l.drop (takeN cols l)) else [])
def splitL (cols:Nat) (l:List Cl):List Ro:=splitG cols (l.length + 1) false (plainL l)
theorem takeN_le (cols:Nat) (l:List Cl):takeN cols l ≤ l.length:=by unfold takeN;split <;> (try split) <;> omega
theorem takeN_cols (cols:Nat) (l:List Cl):takeN cols l ≤ cols:=by unfold takeN;split <;> (try split) <;> omega
theorem takeN_pos {cols:Nat} (hc:2 ≤ cols) {l:List Cl} (h:0 < l.length):0 < takeN cols l:=by unfold takeN;split <;> (try split) <;> omega
theorem rowCs_len {cols:Nat} (hc:2 ≤ cols) (l:List Cl):(rowCs cols l).length = cols:=by
 unfold rowCs
 have h1:=takeN_le cols l
 have h2:=takeN_cols cols l
 rw [List.length_append,List.length_take]
 split
 · simp only [List.length_cons,List.length_nil];omega
 · rw [List.length_replicate];omega
theorem splitG_wide {cols:Nat} (hc:2 ≤ cols):∀ (f:Nat) (c:Bool) (l:List Cl),∀ r ∈ splitG cols f c l,r.cs.length = cols
 | 0,_,_,r,h => by cases h
 | f + 1,c,l,r,h => by
   rw [splitG] at h
   rcases List.mem_cons.1 h with rfl | h
   · exact rowCs_len hc l
   · split at h
     · exact splitG_wide hc f true _ r h
     · cases h
theorem splitG_len {cols:Nat} (hc:2 ≤ cols):∀ (f:Nat) (c:Bool) (l:List Cl),(splitG cols f c l).length ≤ l.length + 1
 | 0,_,_ => by simp [splitG]
 | f + 1,c,l => by
   rw [splitG,List.length_cons]
   split
   · next h =>
     have:=splitG_len hc f true (l.drop (takeN cols l))
     rw [List.length_drop] at this
     have:=takeN_pos hc (l:=l) (by omega)
     omega
   · simp
theorem splitG_fuel {cols:Nat} (hc:2 ≤ cols):∀ (f f':Nat) (c:Bool) (l:List Cl),l.length < f→l.length < f'→splitG cols f c l = splitG cols f' c l
 | 0,_,_,_,h,_ => by omega
 | _ + 1,0,_,_,_,h => by omega
 | f + 1,f' + 1,c,l,h,h' => by
   rw [splitG,splitG]
   split
   · next hl =>
     have:=takeN_pos hc (l:=l) (by omega)
     rw [splitG_fuel hc f f' true (l.drop (takeN cols l)) (by rw [List.length_drop];omega) (by rw [List.length_drop];omega)]
   · rfl
def docStep (cols:Nat) (s:List (List Cl) × List Cl) (c:Cl):List (List Cl) × List Cl :=
 let cur:=if s.2.length + 1 = cols∧c.half = 1 then s.2 ++ [padC] else s.2
 if cur.length = cols then (s.1 ++ [cur],[c]) else (s.1,cur ++ [c])
def docFin (cols:Nat) (s:List (List Cl) × List Cl):List (List Cl):=s.1 ++ [s.2 ++ List.replicate (cols - s.2.length) zC]
theorem docStep_pad {cols:Nat} {D:List (List Cl)} {cur:List Cl} {c:Cl} (h1:cur.length + 1 = cols) (h2:c.half = 1):docStep cols (D,cur) c = (D ++ [cur ++ [padC]],[c]):=by
 have h3:(cur ++ [padC]).length = cols:=by simp;omega
 simp only [docStep,h1,h2,and_self,if_true,h3]
theorem docStep_full {cols:Nat} {D:List (List Cl)} {cur:List Cl} {c:Cl} (h1:cur.length = cols):docStep cols (D,cur) c = (D ++ [cur],[c]):=by
 have h3:¬ (cur.length + 1 = cols∧c.half = 1):=by omega
 simp only [docStep,if_neg h3,if_pos h1]
theorem docStep_add {cols:Nat} {D:List (List Cl)} {cur:List Cl} {c:Cl} (h1:cur.length + 1 < cols ∨ (cur.length + 1 = cols∧c.half ≠ 1)):docStep cols (D,cur) c = (D,cur ++ [c]):=by
 have h3:¬ (cur.length + 1 = cols∧c.half = 1):=fun ⟨a,b⟩ => by
  rcases h1 with h1 | h1
  · omega
  · exact h1.2 b
 have h4:¬ cur.length = cols:=by omega
 simp only [docStep,if_neg h3,if_neg h4]
theorem docStep_new {cols:Nat} (hc:2 ≤ cols) (D:List (List Cl)) (c:Cl):(D,[c]) = docStep cols (D,[]) c:=(docStep_add (D:=D) (cur:=[]) (c:=c) (.inl (by simp;omega))).symm
theorem fold_short {cols:Nat} (D:List (List Cl)):∀ (l cur:List Cl),cur.length + l.length + 1 ≤ cols→l.foldl (docStep cols) (D,cur) = (D,cur ++ l)
 | [],cur,_ => by simp
 | c :: l,cur,h => by
   simp only [List.length_cons] at h
   rw [List.foldl_cons,docStep_add (.inl (by omega)),fold_short D l (cur ++ [c]) (by simp;omega)]
   simp
theorem doc_split {cols:Nat} (hc:2 ≤ cols):∀ (f:Nat) (c:Bool) (l:List Cl) (D:List (List Cl)),l.length < f→docFin cols (l.foldl (docStep cols) (D,[])) = D ++ (splitG cols f c l).map (·.cs)
 | 0,_,_,_,h => by omega
 | f + 1,c,l,D,h => by
   by_cases hl:l.length < cols
   · rw [fold_short D l [] (by simp;omega)]
     have ht:takeN cols l = l.length:=by unfold takeN;rw [if_pos hl]
     rw [splitG,ht,if_neg (by omega)]
     unfold rowCs docFin
     rw [ht,if_neg (by omega)]
     simp
   · have hk:cols - 1 < l.length:=by omega
     have hdrop:l.drop (cols - 1) = l[cols - 1] :: l.drop cols:=by
      have h1:l.drop (cols - 1) = l[cols - 1] :: l.drop (cols - 1 + 1):=List.drop_eq_getElem_cons hk
      rwa [show cols - 1 + 1 = cols by omega] at h1
     have hgd:l.getD (cols - 1) zC = l[cols - 1]:=by rw [List.getD_eq_getElem?_getD,List.getElem?_eq_getElem hk];rfl
     have htl:(l.take (cols - 1)).length = cols - 1:=by rw [List.length_take];omega
     have hfold:l.foldl (docStep cols) (D,[]) = (l.drop cols).foldl (docStep cols) (docStep cols (D,l.take (cols - 1)) l[cols - 1]):=by
      conv => lhs;rw [← List.take_append_drop (cols - 1) l,hdrop]
      rw [List.foldl_append,List.foldl_cons,fold_short D _ [] (by simp;omega)]
      rfl
     rw [hfold]
     generalize l[cols - 1] = c1 at hdrop hgd
     by_cases hh:c1.half = 1
     · have ht:takeN cols l = cols - 1:=by unfold takeN;rw [if_neg hl,hgd,if_pos hh]
       rw [docStep_pad (by omega) hh,docStep_new hc (D ++ [l.take (cols - 1) ++ [padC]]) c1,← List.foldl_cons (f:=docStep cols),← hdrop,doc_split hc f true (l.drop (cols - 1)) _ (by rw [List.length_drop];omega)]
       rw [splitG,ht,if_pos (by omega),List.map_cons]
       unfold rowCs
       rw [ht,if_pos ⟨by omega,by omega⟩]
       simp
     · have ht:takeN cols l = cols:=by unfold takeN;rw [if_neg hl,hgd,if_neg hh]
       have hrow:rowCs cols l = l.take cols:=by
        unfold rowCs
        rw [ht,if_neg (by omega),Nat.sub_self]
        simp
       have htk:l.take (cols - 1) ++ [c1] = l.take cols:=by
        have:(l.take (cols - 1) ++ c1 :: l.drop cols).take cols = l.take cols:=by rw [← hdrop,List.take_append_drop]
        rw [← this,List.take_append,htl,List.take_of_length_le (l:=l.take (cols - 1)) (by omega),show cols - (cols - 1) = 1 by omega]
        rfl
       rw [docStep_add (cur:=l.take (cols - 1)) (c:=c1) (.inr ⟨by omega,hh⟩),htk,splitG,ht,hrow,List.map_cons]
       cases hd:l.drop cols with
       | nil =>
         have:l.length ≤ cols:=by simpa using hd
         rw [if_neg (by omega)]
         simp only [List.foldl_nil,docFin,List.length_take,List.map_nil]
         rw [show cols - min cols l.length = 0 by omega]
         simp
       | cons d r =>
         have hlen:cols < l.length:=by
          have:=congrArg List.length hd
          simp at this;omega
         rw [if_pos hlen,List.foldl_cons,docStep_full (by rw [List.length_take];omega),docStep_new hc (D ++ [l.take cols]) d,← List.foldl_cons (f:=docStep cols),doc_split hc f true (d :: r) _ (by rw [← hd,List.length_drop];omega)]
         simp
def rowsOf (b:Bool):List (List Cl)→List Ro
 | [] => []
 | x :: l => ⟨x,b⟩ :: rowsOf true l
theorem splitG_rows (cols:Nat):∀ (f:Nat) (c:Bool) (l:List Cl),splitG cols f c l = rowsOf c ((splitG cols f c l).map (·.cs))
 | 0,_,_ => rfl
 | f + 1,c,l => by
   rw [splitG]
   split
   · next h =>
     rw [List.map_cons,rowsOf,← splitG_rows cols f true _]
   · rfl
theorem plainL_len (l:List Cl):(plainL l).length = l.length:=by unfold plainL;rw [mendL_len,List.length_map]
theorem doc_splitL {cols:Nat} (hc:2 ≤ cols) (l:List Cl):rowsOf false (docFin cols ((plainL l).foldl (docStep cols) ([],[]))) = splitL cols l:=by
 rw [doc_split hc (l.length + 1) false (plainL l) [] (by rw [plainL_len];omega),List.nil_append]
 exact (splitG_rows cols _ false _).symm
def groupsL:List Ro→List (List Ro)
 | [] => []
 | r :: l => match groupsL l with
   | [] => [[r]]
   | g :: gs => if (l.head?.map (·.cont)).getD false then (r :: g) :: gs else [r] :: g :: gs
theorem groupsL_nil_iff (l:List Ro):groupsL l = [] ↔ l = []:=by
 cases l with
 | nil => simp [groupsL]
 | cons r l =>
   rw [groupsL]
   split
   · simp
   · split <;> simp
theorem groupsL_flat:∀ l:List Ro,(groupsL l).flatten = l
 | [] => rfl
 | r :: l => by
   have ih:=groupsL_flat l
   rw [groupsL]
   split
   · next h => rw [(groupsL_nil_iff l).1 h];rfl
   · next g gs h =>
     rw [h] at ih
     rw [← ih]
     split <;> simp
theorem groupsL_cut (pre:List Ro) (post:List Ro) (hp:∀ x,post.head? = some x→x.cont = false):groupsL (pre ++ post) = groupsL pre ++ groupsL post:=by
 induction pre with
 | nil => rfl
 | cons r l ih =>
   rw [List.cons_append,groupsL,groupsL,ih]
   cases hl:groupsL l with
   | nil =>
     rw [(groupsL_nil_iff l).1 hl]
     simp only [List.nil_append]
     cases hq:groupsL post with
     | nil => rfl
     | cons g gs =>
       cases post with
       | nil => rw [groupsL] at hq;cases hq
       | cons x post => have:=hp x rfl;simp [this]
   | cons g gs =>
     have hne:l ≠ []:=fun h => by rw [h,groupsL] at hl;cases hl
     obtain ⟨x,l',rfl⟩:∃ x l',l = x :: l':=by cases l with
      | nil => exact absurd rfl hne
      | cons x l' => exact ⟨x,l',rfl⟩
     simp only [List.cons_append,List.head?_cons,Option.map_some,Option.getD_some]
     by_cases hx:x.cont = true <;> simp [hx]
def ivs:Nat→List (List Ro)→List (Nat × Nat)
 | _,[] => []
 | a,g :: gs => (a,a + g.length) :: ivs (a + g.length) gs
theorem ivs_append:∀ (a:Nat) (G H:List (List Ro)),ivs a (G ++ H) = ivs a G ++ ivs (a + G.flatten.length) H
 | a,[],H => by simp [ivs]
 | a,g :: G,H => by
   rw [List.cons_append,ivs,ivs,ivs_append (a + g.length) G H,List.cons_append,List.flatten_cons,List.length_append,Nat.add_assoc]
def offP (rows:List Ro) (y x:Int):Nat :=
 if y < 0 ∨ rows = [] then 0
 else if (rows.length:Int) ≤ y then cntL rows
 else cntL (rows.take y.toNat) + min x.toNat (roSize (rows.getD y.toNat ⟨[],false⟩))
def sumsL (rows:List Ro):List Nat:=(List.range rows.length).map (fun k => cntL (rows.take (k + 1)))
def firstGt (rows:List Ro) (off:Nat):Nat:=(List.range rows.length).countP (fun k => decide (cntL (rows.take (k + 1)) ≤ off))
theorem sumsL_len (rows:List Ro):(sumsL rows).length = rows.length:=by simp [sumsL]
theorem sumsL_at {rows:List Ro} {k:Nat} (h:k < rows.length):(sumsL rows)[k]? = some (cntL (rows.take (k + 1))):=by
 unfold sumsL
 rw [List.getElem?_map,List.getElem?_range h]
 rfl
theorem cntL_append (a b:List Ro):cntL (a ++ b) = cntL a + cntL b:=by simp [cntL]
theorem cntL_take_succ {rows:List Ro} {k:Nat} {r:Ro} (h:rows[k]? = some r):cntL (rows.take (k + 1)) = cntL (rows.take k) + roSize r:=by
 rw [List.take_add_one,h,cntL_append]
 simp [cntL]
theorem cntL_mono (rows:List Ro) {a b:Nat} (h:a ≤ b):cntL (rows.take a) ≤ cntL (rows.take b):=by
 have e:rows.take b = rows.take a ++ (rows.take b).drop a:=by
  conv => lhs;rw [← List.take_append_drop a (rows.take b),List.take_take,Nat.min_eq_left h]
 rw [e,cntL_append]
 omega
theorem countP_mono_spec {p:Nat→Bool} (hp:∀ a b,a ≤ b→p b = true→p a = true):∀ (n k:Nat),k < n→(p k = true ↔ k < (List.range n).countP p)
 | 0,k,h => by omega
 | n + 1,k,h => by
   rw [List.range_succ,List.countP_append,List.countP_singleton]
   have hle:=List.countP_le_length (p:=p) (l:=List.range n)
   rw [List.length_range] at hle
   by_cases hn:p n = true
   · have hall:(List.range n).countP p = n:=by
      have:=List.countP_eq_length (p:=p) (l:=List.range n) |>.2 (fun a ha => hp a n (by have:=List.mem_range.1 ha;omega) hn)
      rw [this,List.length_range]
     rw [hall,if_pos hn]
     exact ⟨fun _ => h,fun _ => hp k n (by omega) hn⟩
   · rw [if_neg hn,Nat.add_zero]
     by_cases hk:k < n
     · exact countP_mono_spec hp n k hk
     · have:k = n:=by omega
       subst this
       exact ⟨fun h => absurd h hn,fun h => by omega⟩
theorem firstGt_spec (rows:List Ro) (off:Nat) {k:Nat} (hk:k < rows.length):cntL (rows.take (k + 1)) ≤ off ↔ k < firstGt rows off:=by
 have:=countP_mono_spec (p:=fun k => decide (cntL (rows.take (k + 1)) ≤ off)) (fun a b hab h => by
  have:=cntL_mono rows (show a + 1 ≤ b + 1 by omega)
  simp only [decide_eq_true_eq] at h ⊢;omega) rows.length k hk
 rw [decide_eq_true_eq] at this
 exact this
def plP (rows:List Ro) (off:Nat):Nat × Nat :=
 if rows = [] then (0,0)
 else if firstGt rows off < rows.length then (firstGt rows off,off - cntL (rows.take (firstGt rows off)))
 else (rows.length - 1,min off (cntL rows) - cntL (rows.take (rows.length - 1)))
def madeG (cols:Nat) (g:List Ro):List Ro:=splitL cols (flowL g)
def placeG (cols:Nat) (x:Int):List (List Ro)→Nat→Nat→Nat × Nat
 | [],_,out => (out,0)
 | g :: gs,y,out => if y < g.length then (out + (plP (madeG cols g) (offP g y x)).1,(plP (madeG cols g) (offP g y x)).2) else placeG cols x gs (y - g.length) (out + (madeG cols g).length)
def reflowL (cols:Nat) (rows:List Ro):List Ro:=(groupsL rows).flatMap (madeG cols)
def reflowP (cols:Nat) (rows:List Ro) (p:Int × Int):Nat × Nat:=placeG cols (if p.1 < 0 then 0 else p.2) (groupsL rows) p.1.toNat 0
theorem splitL_wide {cols:Nat} (hc:2 ≤ cols) (l:List Cl):∀ r ∈ splitL cols l,r.cs.length = cols:=splitG_wide hc _ _ _
theorem reflowL_wide {cols:Nat} (hc:2 ≤ cols) (rows:List Ro):∀ r ∈ reflowL cols rows,r.cs.length = cols:=fun r hr => by
 obtain ⟨g,-,hg⟩:=List.mem_flatMap.1 hr
 exact splitL_wide hc _ r hg
open Go.RowKit
def encCl (c:Cl):List Value:=[.int .i32 c.r,.string c.more,.int .i64 c.half,.int .i64 c.fk,.int .i64 c.fn,.int .i64 c.bk,.int .i64 c.bn,.int .i64 c.fl]
theorem encCl_len:∀ c,(encCl c).length = 8:=fun _ => rfl
theorem encCl_one:∀ c,∀ v ∈ encCl c,v.oneCell' = true:=fun c v hv => by
 simp only [encCl,List.mem_cons,List.not_mem_nil,or_false] at hv
 rcases hv with rfl | rfl | rfl | rfl | rfl | rfl | rfl | rfl <;> rfl
theorem info_cell:(Tryz.prog.info? 109).map (·.size) = some 8:=by kernel_rfl
theorem cl_one (c:Cl):(encCl c).toArray.all (·.oneCell') = true:=all_oneCell_toArray (encCl_one c)
theorem ret_cell {fn:Func} {p:Tmp} (hr:fn.results = #[.cell p 109]) (tmps:Array Value) (w:World) (b:Nat) (c:Cl) (hp:tmps.getD p undef = .pointer (some ⟨b,0,none⟩)) (h:w.rangeAt b 0 (encCl c)) :
 (results fn tmps).run Tryz.prog w = .ok (clV c) w:=by
 rw [results_cell1 hr,hp]
 have:=run_loadVar_mid (P:=Tryz.prog) w b 0 109 (encCl c) _ h Tryz.underlying109 rfl info_cell
 simp only [asAddr,Sem.run_pure,Result.andThen_ok,this]
 rfl
theorem range_new {w:World} {g:Nat} {cs:List Value} {t:TypeId} (h:w.heap[g]? = some (.cells cs.toArray t (0,0))):w.rangeAt g 0 cs:=fun j v hj => by rw [Nat.zero_add];exact (whole_at h j v hj).1
def CellPost (c:Cl) (w:World) (e:Ending) (w':World):Prop:=e = .returned (clV c)∧Below w.heap.size w w'
set_option maxHeartbeats 1600000 in
theorem cempty_any (a:Atr) (w:World):Calls Tryz.prog 152 #[.agg #[.int .i64 a.fk,.int .i64 a.fn,.int .i64 a.bk,.int .i64 a.bn,.int .i64 a.fl]] w (CellPost (emptyA a) w):=by
 go_enter Tryz.func152,Tryz.ntmps152
 go_wp2
 exact bodyPost_ret (ret_cell rfl _ _ (w.heap.size + 1) (emptyA a) rfl (range_new (hp_new (by simp)))) rfl ⟨rfl,below_allocs (below_allocs (Below.refl _ _) _) _⟩
set_option maxHeartbeats 1600000 in
theorem cblank_any (b:Col) (w:World):Calls Tryz.prog 149 #[.agg #[.int .i64 b.k,.int .i64 b.n]] w (CellPost (blankC b) w):=by
 have HE:=Hd (fun w => cempty_any ⟨0,0,b.k,b.n,0⟩ w)
 have HB0:=Hd (below_allocs (below_allocs (Below.refl w.heap.size w) (.cells #[.int .i64 b.k,.int .i64 b.n] 32)) (.cells (encCl (emptyA ⟨0,0,0,0,0⟩)).toArray 109))
 have HT0:=Hd (there_new (cs:=(encCl (emptyA ⟨0,0,0,0,0⟩)).toArray) (w:=(w.alloc (.cells #[.int .i64 b.k,.int .i64 b.n] 32)).alloc (.cells (encCl (emptyA ⟨0,0,0,0,0⟩)).toArray 109)) (g:=w.heap.size + 1) (hp_new (by simp)))
 go_enter Tryz.func149,Tryz.ntmps149
 go_wp2_with (first
  | (go_at_call 152;refine (HE.out _).mono ?_;rintro e w1 ⟨rfl,hb⟩;have HB1:=Hd hb;clear hb;have HT1:=Hd (there_below HT0.out HB1.out))
  | (refine wpList_store_mid (op:=⟨none,.store 109 (.tmp 2) (.tmp 5),_,_,_,_⟩) rfl 109 (.tmp 2) (.tmp 5) rfl (w.heap.size + 1) 0 (encCl (blankC b)).toArray rfl rfl HT1.out info_cell (cl_one (blankC b)) ?_))
 exact bodyPost_ret (ret_cell rfl _ _ (w.heap.size + 1) (blankC b) rfl (World.rangeAt_setCells_same _ _ _ _ HT1.out)) rfl ⟨rfl,below_setCells (below_tail HB0.out HB1.out) (by omega) _ _⟩
def pairH (a b:Cl):Bool:=decide (a.half = 1) && decide (a = { b with half:=1 })
set_option maxHeartbeats 1600000 in
theorem cpair_any (a b:Cl) (w:World):Calls Tryz.prog 151 #[clV a,clV b] w fun e w' => e = .returned (.bool (pairH a b))∧Below w.heap.size w w':=by
 unfold clV
 have HB2:=Hd (below_allocs (below_allocs (Below.refl w.heap.size w) (.cells (encCl a).toArray 109)) (.cells (encCl { b with half:=1 }).toArray 109))
 have HA2:=Hd (show ((w.alloc (.cells (encCl a).toArray 109)).alloc (.cells (encCl { b with half:=1 }).toArray 109)).heap[w.heap.size]? = some (.cells (encCl a).toArray 109 (0,0)) from hp_old (hp_new rfl))
 have HC2:=Hd (show ((w.alloc (.cells (encCl a).toArray 109)).alloc (.cells (encCl { b with half:=1 }).toArray 109)).heap[w.heap.size + 1]? = some (.cells (encCl { b with half:=1 }).toArray 109 (0,0)) from hp_new (by simp))
 by_cases h:a.half = 1
 · have hv:pairH a b = decide (a = { b with half:=1 }):=by unfold pairH;rw [h];simp
   rw [hv]
   clear hv
   obtain ⟨ar,am,ah,a1,a2,a3,a4,a5⟩:=a
   obtain rfl:ah = 1:=h
   go_enter Tryz.func151,Tryz.ntmps151
   go_upto_region 2 with fail
   refine wp_region_lit ?_
   refine wpList_valG (.pointer (some ⟨w.heap.size,2,none⟩)) (by rfl) (by go_simp) ?_
   simp only [Act.put,List.setIfInBounds_toArray,List.set_cons_zero,List.set_cons_succ]
   refine wpList_valG (.int .i64 1) (by rfl) (by go_simp) ?_
   simp only [Act.put,List.setIfInBounds_toArray,List.set_cons_zero,List.set_cons_succ]
   refine wpList_valG (.bool true) (by rfl) (by go_simp) ?_
   simp only [Act.put,List.setIfInBounds_toArray,List.set_cons_zero,List.set_cons_succ]
   refine wpList_valG (.bool true) (by rfl) (by rfl) ?_
   simp only [Act.put,List.setIfInBounds_toArray,List.set_cons_zero,List.set_cons_succ]
   refine load_mid_g (by rfl) 109 (.tmp 2) rfl w.heap.size 0 rfl (encCl ⟨ar,am,1,a1,a2,a3,a4,a5⟩) _ (range_new HA2.out) Tryz.underlying109 rfl info_cell ?_
   simp only [Act.put,List.setIfInBounds_toArray,List.set_cons_zero,List.set_cons_succ]
   refine load_mid_g (by rfl) 109 (.tmp 3) rfl (w.heap.size + 1) 0 rfl (encCl { b with half:=1 }) _ (range_new HC2.out) Tryz.underlying109 rfl info_cell ?_
   simp only [Act.put,List.setIfInBounds_toArray,List.set_cons_zero,List.set_cons_succ]
   refine wpList_valG (.bool (decide ((⟨ar,am,1,a1,a2,a3,a4,a5⟩:Cl) = { b with half:=1 }))) (by rfl) (exec_eql_cell _ _ _ _ _ _ (.tmp 10) (.tmp 11) ⟨ar,am,1,a1,a2,a3,a4,a5⟩ { b with half:=1 } rfl rfl _) ?_
   simp only [Act.put,List.setIfInBounds_toArray,List.set_cons_zero,List.set_cons_succ]
   generalize hD:decide ((⟨ar,am,1,a1,a2,a3,a4,a5⟩:Cl) = { b with half:=1 }) = D
   have HD:=Hd hD
   clear hD
   go_wp2
   go_ret
   exact ⟨by rw [← HD.out];rfl,HB2.out⟩
 · have hv:pairH a b = false:=by unfold pairH;simp [h]
   rw [hv]
   have h1:(a.half == 1) = false:=beq_eq_false_iff_ne.2 h
   clear hv
   go_enter Tryz.func151,Tryz.ntmps151
   go_wp2
   go_ret
   exact ⟨rfl,HB2.out⟩
def dcRow (d:Dc) (y:Int) (f:List Cl→List Cl):Dc:=if dcIn d y then { d with L:=d.L.modify (d.base + y.toNat) (fun r => { r with cs:=f r.cs }) } else d
def dcWrap (d:Dc) (y:Int):Dc:=if dcIn d y then { d with L:=d.L.modify (d.base + y.toNat) (fun r => { r with cont:=true }) } else d
def dcErase (d:Dc) (y x z:Int) (b:Col):Dc :=
 if dcIn d y then
  let d1:=dcRow d y (fun l => eraseL l x z b)
  if x < d.cols∧(d.cols:Int) ≤ z then (if x < 1 then dcPart (dcPart d1 (y + 1)) y else dcPart d1 (y + 1)) else d1
 else d
theorem dcOf_row (g:Pg) (y:Int) (f:List Cl→List Cl):dcRow (dcOf g) y f = dcOf (rowP g y f):=by
 unfold dcRow rowP
 rw [dcOf_in]
 split
 · show Dc.mk ((g.hist ++ g.scr).modify (g.hist.length + y.toNat) _) _ _ _ _ _ = _
   rw [modify_append]
   rfl
 · rfl
theorem dcOf_wrap (g:Pg) (y:Int):dcWrap (dcOf g) y = dcOf (contP g y true):=by
 unfold dcWrap contP
 rw [dcOf_in]
 split
 · show Dc.mk ((g.hist ++ g.scr).modify (g.hist.length + y.toNat) _) _ _ _ _ _ = _
   rw [modify_append]
   rfl
 · rfl
theorem dcOf_erase (g:Pg) (y x z:Int) (b:Col):dcErase (dcOf g) y x z b = dcOf (eraseP g y x z b):=by
 unfold dcErase eraseP
 rw [dcOf_in]
 by_cases h:inP g y = true
 · rw [if_pos h,if_pos h]
   simp only []
   rw [dcOf_row]
   show (if x < (g.cols:Int)∧(g.cols:Int) ≤ z then _ else _) = _
   by_cases h2:x < (g.cols:Int)∧(g.cols:Int) ≤ z
   · rw [if_pos h2,if_pos h2,dcOf_part,dcOf_part]
     by_cases h3:x < 1
     · rw [if_pos h3,if_pos (by omega)]
     · rw [if_neg h3,if_neg (by omega)]
   · rw [if_neg h2,if_neg h2]
 · rw [if_neg h,if_neg h]
def inPr (r:Int) (x:Int × Int):Bool:=decide (x.1 ≤ r) && decide (r ≤ x.2)
theorem among_take {l:List (Int × Int)} {r:Int} {k:Nat} {x:Int × Int} (hx:l[k]? = some x):amongB (l.take (k + 1)) r = (amongB (l.take k) r || inPr r x):=by
 have hk:=List.getElem?_eq_some_iff.1 hx
 rw [List.take_succ_eq_append_getElem hk.1,hk.2]
 unfold amongB inPr
 simp
theorem among_of_take {l:List (Int × Int)} {r:Int} {k:Nat} (h:amongB (l.take k) r = true):amongB l r = true:=by
 unfold amongB at h ⊢
 rw [List.any_eq_true] at h ⊢
 obtain ⟨x,hx,h⟩:=h
 exact ⟨x,List.mem_of_mem_take hx,h⟩
def IxPost (l:List (Int × Int)) (r:Int) (w:World) (e:Ending) (w':World):Prop:=∃ n:Int,e = .returned (.int .i64 n)∧decide (0 ≤ n) = amongB l r∧Below w.heap.size w w'
set_option maxHeartbeats 1600000 in
theorem indexPr_any (r:Int) (g a:Nat) (l:List (Int × Int)) (w:World) (hg:w.cell? ⟨g,0,none⟩ = some (.int .i32 r)) (hl:GrAt encPr 2 w (some ⟨a,0,none⟩) l) (hz:l.length ≤ 1000) :
 Calls Tryz.prog 155 #[.slice (some ⟨a,0,none⟩) l.length l.length,.func (.func 154) #[] #[.pointer (some ⟨g,0,none⟩)]] w (IxPost l r w):=by
 have HG:=Hd hg
 have HL:=Hd hl
 clear hg hl
 go_enter Tryz.func155,Tryz.ntmps155
 go_wp2_with fail
 go_loopw [8] (fun s8 wr => ∃ k:Nat,k ≤ l.length∧s8 = .int .i64 k∧amongB (l.take k) r = false∧Below w.heap.size w wr) (fun s8 _ => l.length - (intOf s8).toNat)
 case atStart => exact ⟨0,Nat.zero_le _,rfl,rfl,Below.refl _ _⟩
 case round =>
  obtain ⟨k,hk,rfl,hno,hb⟩:=hrel
  have HNO:=Hd hno
  have HB:=Hd hb
  clear hno hb
  by_cases hlt:k < l.length
  rotate_left
  · have hge:¬ (k:Int) < (l.length:Int):=by omega
    go_wp2
    go_ret
    refine ⟨-1,rfl,?_,HB.out⟩
    have:=HNO.out
    rw [List.take_of_length_le (by omega)] at this
    rw [this];rfl
  · have hltI:(k:Int) < (l.length:Int):=by omega
    obtain ⟨b,off,x,hA,hx,cx⟩:=(HL.out.below HB.out).at_ hlt
    simp only [Option.some.injEq,Addr.mk.injEq,and_true] at hA
    obtain ⟨rfl,rfl⟩:=hA
    have c0:wr.cell? ⟨a,k * 2,none⟩ = some (.int .i32 x.1):=by have:=cx 0 _ rfl;rwa [Nat.zero_add] at this
    have c1:wr.cell? ⟨a,k * 2 + 1,none⟩ = some (.int .i32 x.2):=by have:=cx 1 _ rfl;rwa [Nat.zero_add] at this
    have HT:=Hd (among_take (r:=r) hx)
    have HC:=Hd (among1_any r g x wr (holda HB.out HG.out))
    have HO:=Hd (fun h => among_of_take (l:=l) (r:=r) (k:=k + 1) h)
    cases hp:inPr r x with
    | false =>
      have HP:=Hd hp
      have HC2:Hid (Calls Tryz.prog 154 #[.agg #[.int .i32 x.1,.int .i32 x.2],.pointer (some ⟨g,0,none⟩)] wr fun e w' => e = .returned (.bool false)∧Below wr.heap.size wr w'):=Hd (HC.out.mono fun e w' ⟨he,hb⟩ => ⟨by rw [he];unfold inPr at hp;rw [hp],hb⟩)
      clear hx cx hp
      go_wp2_with (go_at_call 154;refine HC2.out.mono ?_;rintro e w1 ⟨rfl,hb1⟩)
      go_roundw
      case rel => exact ⟨k + 1,by omega,by go_num,by rw [HT.out,HNO.out,HP.out];rfl,below_tail HB.out hb1⟩
      case measure => simp [intOf];omega
    | true =>
      have HP:=Hd hp
      have HC2:Hid (Calls Tryz.prog 154 #[.agg #[.int .i32 x.1,.int .i32 x.2],.pointer (some ⟨g,0,none⟩)] wr fun e w' => e = .returned (.bool true)∧Below wr.heap.size wr w'):=Hd (HC.out.mono fun e w' ⟨he,hb⟩ => ⟨by rw [he];unfold inPr at hp;rw [hp],hb⟩)
      clear hx cx hp
      go_wp2_with (go_at_call 154;refine HC2.out.mono ?_;rintro e w1 ⟨rfl,hb1⟩)
      go_ret
      refine ⟨k,rfl,?_,below_tail HB.out hb1⟩
      rw [HO.out (by rw [HT.out,HP.out];simp)]
      simp
def AmPost (l:List (Int × Int)) (r:Int) (w:World) (e:Ending) (w':World):Prop:=e = .returned (.bool (amongB l r))∧Below w.heap.size w w'
theorem containsPr_any (r:Int) (g a:Nat) (l:List (Int × Int)) (w:World) (hg:w.cell? ⟨g,0,none⟩ = some (.int .i32 r)) (hl:GrAt encPr 2 w (some ⟨a,0,none⟩) l) (hz:l.length ≤ 1000) :
 Calls Tryz.prog 153 #[.slice (some ⟨a,0,none⟩) l.length l.length,.func (.func 154) #[] #[.pointer (some ⟨g,0,none⟩)]] w (AmPost l r w):=by
 have HI:=Hd (indexPr_any r g a l w hg hl hz)
 clear hg hl
 go_enter Tryz.func153,Tryz.ntmps153
 go_wp2_with (go_at_call 155;refine HI.out.mono ?_;rintro e w1 ⟨n,rfl,hn,hb⟩;have HN:=Hd hn;clear hn)
 go_ret
 exact ⟨by rw [HN.out];rfl,hb⟩
theorem among_any (r:Int) (a:Nat) (l:List (Int × Int)) (w:World) (hl:GrAt encPr 2 w (some ⟨a,0,none⟩) l) (hz:l.length ≤ 1000) :
 Calls Tryz.prog 144 #[.slice (some ⟨a,0,none⟩) l.length l.length,.int .i32 r] w (AmPost l r w):=by
 have hb0:=below_allocs (Below.refl w.heap.size w) (.cells #[.int .i32 r] 21)
 have HC:=Hd (containsPr_any r w.heap.size a l _ (at_ (hp_new rfl) 0 _ rfl).1 (hl.below hb0) hz)
 have HB0:=Hd hb0
 clear hl hb0
 go_enter Tryz.func144,Tryz.ntmps144
 go_wp2_with (go_at_call 153;refine HC.out.mono ?_;rintro e w1 ⟨rfl,hb⟩)
 go_ret
 exact ⟨rfl,below_tail HB0.out hb⟩
set_option maxHeartbeats 1600000 in
theorem widOf_any (r:Int) (w:World):Calls Tryz.prog 116 #[.int .i32 r] w fun e w' => e = .returned (.int .i64 (widOf r))∧Below w.heap.size w w':=by
 have HN:=Hd (fun w => wnone_any r w)
 by_cases h0:r < 768
 · have hw:=widOf_low h0
   rw [hw]
   clear hw
   cases hn:noneW r with
   | true =>
     rw [hn] at HN
     clear hn
     go_enter Tryz.func116,Tryz.ntmps116
     go_wp2_with (go_at_call 143;refine (HN.out _).mono ?_;rintro e w1 ⟨rfl,rfl⟩)
     go_ret
     exact ⟨rfl,Below.refl _ _⟩
   | false =>
     rw [hn] at HN
     clear hn
     go_enter Tryz.func116,Tryz.ntmps116
     go_wp2_with (go_at_call 143;refine (HN.out _).mono ?_;rintro e w1 ⟨rfl,rfl⟩)
     go_ret
     exact ⟨rfl,Below.refl _ _⟩
 · have HM:=Hd (fun w => wmarks_any w)
   have HW:=Hd (fun w => wwides_any w)
   have HA1:=Hd (fun a w hl => among_any r a marksT w hl (by decide))
   have HA2:=Hd (fun a w hl => among_any r a widesT w hl (by decide))
   unfold widOf
   unfold AmPost at HA1 HA2
   generalize noneW r = b0 at HN
   generalize amongB marksT r = b1 at HA1
   generalize amongB widesT r = b2 at HA2
   cases b0 <;> cases b1 <;> cases b2
   all_goals
    go_enter Tryz.func116,Tryz.ntmps116
    go_wp2_with (first
     | (go_at_call 143;refine (HN.out _).mono ?_;rintro e w1 ⟨rfl,rfl⟩)
     | (go_at_call 145;refine (HM.out _).mono ?_;rintro e w2 ⟨g,rfl,hg,hb2⟩;have HG:=Hd hg;have HB:=Hd hb2;clear hg hb2)
     | (go_at_call 146;refine (HW.out _).mono ?_;rintro e w4 ⟨g2,rfl,hg,hb2⟩;have HG2:=Hd hg;have HB3:=Hd (below_tail HB2.out hb2);clear hg hb2)
     | (go_at_call 144;first
         | (have hpv:=HB3.out;clear hpv;refine (HA2.out _ _ HG2.out).mono ?_;rintro e w5 ⟨rfl,hb3⟩;have HB4:=Hd (below_tail HB3.out hb3);clear hb3)
         | (refine (HA1.out _ _ HG.out).mono ?_;rintro e w3 ⟨rfl,hb3⟩;have HB2:=Hd (below_tail HB.out hb3);clear hb3)))
    go_ret
    exact ⟨rfl,by first | exact HB4.out | exact HB2.out | exact Below.refl _ _⟩
theorem pairB_H (c d:Cl):pairB c d = (pairH c d && decide (d.half = 2)):=by
 unfold pairB pairH
 cases decide (c.half = 1) <;> cases decide (d.half = 2) <;> cases decide (c = { d with half:=1 }) <;> rfl
theorem mendL_pair {c d:Cl} (h:pairB c d = true) (l:List Cl):mendL (c :: d :: l) = c :: d :: mendL l:=by
 have h0:¬ c.half = 0:=fun e => by unfold pairB at h;simp [e] at h
 rw [mendL_cons,if_neg h0,if_pos h]
theorem mendL_other {c:Cl} {l:List Cl} (h0:¬ c.half = 0) (h3:¬ (c.half = 3∧l = [])) (hp:∀ d m,l = d :: m→pairB c d = false):mendL (c :: l) = emptyC c :: mendL l:=by
 match l with
 | [] => rw [mendL_one,if_neg (fun h => h.elim h0 (fun h => h3 ⟨h,rfl⟩))];rfl
 | d :: m => rw [mendL_cons,if_neg h0,hp d m rfl];rfl
theorem mendL_pad {c:Cl} (h:c.half = 3):mendL [c] = [c]:=by rw [mendL_one,if_pos (.inr h)]
def CrO (w:World) (base g cap:Nat) (l:List Cl):Prop:=w.ownsRow base 109 8 (.slice (some ⟨g,0,none⟩) l.length cap) l.length (flat encCl l)
theorem CrO.mod {w w':World} {base g cap:Nat} {l:List Cl} {X:List Nat} (h:CrO w base g cap l) (hm:Mod X w w') (hX:g ∉ X):CrO w' base g cap l:=owns_mod h hm (fun k hk => by simp [Value.ownBlock] at hk;rw [← hk];exact hX)
theorem CrO.below {w w':World} {base g cap:Nat} {l:List Cl} (h:CrO w base g cap l) (hb:Below w.heap.size w w'):CrO w' base g cap l:=h.mod (Mod.of_below (X:=[]) hb) (fun h => by cases h)
theorem CrO.lt {w:World} {base g cap:Nat} {l:List Cl} (h:CrO w base g cap l):base ≤ g∧g < w.heap.size:=World.ownsRow.lt h g rfl
theorem CrO.range {w:World} {base g cap:Nat} {l:List Cl} (h:CrO w base g cap l) {i:Nat} {c:Cl} (hc:l[i]? = some c):w.rangeAt g (i * 8) (encCl c):=fun j v hj => by
 have hj8:j < 8:=by have:=(List.getElem?_eq_some_iff.1 hj).1;rwa [encCl_len] at this
 exact (owns_hold h (i:=i * 8 + j) (v:=v) (by rw [flat_at2 encCl_len l i c j hc hj8];exact hj)).1
theorem CrO.there {w:World} {base g cap:Nat} {l:List Cl} (h:CrO w base g cap l) {i:Nat} (hi:i < l.length):w.there g (i * 8) 8:=fun j hj => by
 obtain ⟨c,hc⟩:∃ c,l[i]? = some c:=⟨l[i],List.getElem?_eq_getElem hi⟩
 obtain ⟨v,hv⟩:∃ v,(encCl c)[j]? = some v:=⟨_,List.getElem?_eq_getElem (by rw [encCl_len];exact hj)⟩
 have:=owns_hold h (i:=i * 8 + j) (v:=v) (by rw [flat_at2 encCl_len l i c j hc hj];exact hv)
 exact ⟨by rw [this.1];rfl,this.2⟩
theorem CrO.set {w:World} {base g cap:Nat} {l:List Cl} (h:CrO w base g cap l) {i:Nat} (hi:i < l.length) (c:Cl):CrO (w.setCells g (i * 8) (encCl c)) base g cap (l.set i c)∧Mod [g] w (w.setCells g (i * 8) (encCl c)):=by
 refine ⟨?_,mod_setCellsN (.inl (by simp)) _ _ _ (Mod.refl _ _)⟩
 have h1:=owns_setCells (encCl c) (i * 8) (flat encCl l) w h (by rw [flat_len encCl_len,encCl_len];omega)
 unfold CrO
 rw [List.length_set]
 have e:(flat encCl l).take (i * 8) ++ (encCl c ++ (flat encCl l).drop (i * 8 + (encCl c).length)) = flat encCl (l.set i c):=by
  rw [encCl_len]
  clear h h1
  induction l generalizing i with
  | nil => simp at hi
  | cons x l ih =>
    have e:flat encCl (x :: l) = encCl x ++ flat encCl l:=rfl
    match i with
    | 0 =>
      have e2:flat encCl ((x :: l).set 0 c) = encCl c ++ flat encCl l:=rfl
      rw [e,e2,Nat.zero_mul,List.take_zero,List.nil_append,Nat.zero_add,List.drop_left' (encCl_len x)]
    | i + 1 =>
      have e2:flat encCl ((x :: l).set (i + 1) c) = encCl x ++ flat encCl (l.set i c):=rfl
      rw [e,e2,← ih (by simpa using hi),Nat.add_mul,Nat.one_mul]
      rw [List.take_append,List.drop_append,encCl_len,List.take_of_length_le (by rw [encCl_len];omega),List.drop_eq_nil_of_le (by rw [encCl_len];omega)]
      rw [show i * 8 + 8 - 8 = i * 8 by omega,show i * 8 + 8 + 8 - 8 = i * 8 + 8 by omega,List.nil_append,List.append_assoc]
 rw [e] at h1
 exact h1
end Go.Proofs.YtffdblmdelgkaaaGreat
