/- Joined by a tool of this claim out of smaller texts. Conditions: as stated. -/
import Derived.Test.YtffdblmdelgkaaaGreatRt02
import Derived.Laws.IdiomCopy
set_option linter.unusedVariables false
set_option linter.unusedSimpArgs false
set_option maxRecDepth 100000
open Go.Lib renaming hid → Hd
namespace Go.Proofs.YtffdblmdelgkaaaGreat
structure Ro where
 cs:List Cl
 cont:Bool
structure Tl where
 k:Int
 a:Int
 n:Int
structure Pg where
 room:Nat
 hist:List Ro
 gone:Int
 scr:List Ro
 cols:Nat
 told:List Tl
def blankR (cols:Nat) (b:Col):Ro:=⟨List.replicate cols (blankC b),false⟩
def inP (g:Pg) (y:Int):Bool:=decide (0 ≤ y) && decide (y < g.scr.length)
def rowP (g:Pg) (y:Int) (f:List Cl→List Cl):Pg:=if inP g y then { g with scr:=g.scr.modify y.toNat (fun r => { r with cs:=f r.cs }) } else g
def contP (g:Pg) (y:Int) (b:Bool):Pg:=if inP g y then { g with scr:=g.scr.modify y.toNat (fun r => { r with cont:=b }) } else g
def tellP (g:Pg) (k a n:Int):Pg:={ g with told:=g.told ++ [⟨k,a,n⟩] }
def pushP (g:Pg) (r:Ro):Pg × Bool :=
 if g.room = 0 then ({ g with gone:=g.gone + 1 },true)
 else if g.hist.length = g.room then ({ g with hist:=g.hist.drop 1 ++ [r],gone:=g.gone + 1 },true)
 else ({ g with hist:=g.hist ++ [r] },false)
def slideUp (l:List Ro) (top bottom:Nat) (b:Ro):List Ro:=l.take top ++ ((l.drop (top + 1)).take (bottom - top) ++ (b :: l.drop (bottom + 1)))
def slideDn (l:List Ro) (top bottom:Nat) (b:Ro):List Ro:=l.take top ++ (b :: ((l.drop top).take (bottom - top) ++ l.drop (bottom + 1)))
def cutP (g:Pg) (top bottom:Nat) (b:Col):Pg :=
 let g1:=tellP (tellP g 1 (g.hist.length + top) 1) 0 (g.hist.length + bottom) 1
 let g2:={ g1 with scr:=slideUp g.scr top bottom (blankR g.cols b) }
 contP (contP g2 top false) (bottom + 1) false
def upP (g:Pg) (top bottom:Nat) (b:Col):Pg :=
 if 0 < top then cutP g top bottom b
 else
  let g1:=tellP g 0 (g.hist.length + bottom + 1) 1
  let p:=pushP g1 (g.scr.getD 0 ⟨[],false⟩)
  let g2:=if p.2 then tellP p.1 2 0 1 else p.1
  let g3:={ g2 with scr:=slideUp g.scr 0 bottom (blankR g.cols b) }
  contP g3 (bottom + 1) false
def downP (g:Pg) (top bottom:Nat) (b:Col):Pg :=
 let g1:=tellP (tellP g 1 (g.hist.length + bottom) 1) 0 (g.hist.length + top) 1
 let g2:={ g1 with scr:=slideDn g.scr top bottom (blankR g.cols b) }
 contP (contP g2 (top + 1) false) (bottom + 1) false
def iterP (f:Pg→Pg):Nat→Pg→Pg
 | 0,g => g
 | n + 1,g => f (iterP f n g)
def timesP (g:Pg) (top bottom n:Int) (f:Nat→Nat→Pg→Pg):Pg :=
 if inP g top && inP g bottom && decide (top ≤ bottom) then iterP (f top.toNat bottom.toNat) (min n.toNat (bottom - top + 1).toNat) g else g
def forgetP (g:Pg):Pg:=if g.hist.length = 0 then g else contP (tellP { g with hist:=[],gone:=g.gone + g.hist.length } 2 0 g.hist.length) 0 false
def eraseP (g:Pg) (y x z:Int) (b:Col):Pg :=
 if inP g y then
  let g1:=rowP g y (fun l => eraseL l x z b)
  if x < g.cols∧(g.cols:Int) ≤ z then (if x ≤ 0 then contP (contP g1 (y + 1) false) y false else contP g1 (y + 1) false) else g1
 else g
theorem slideUp_len {l:List Ro} {top bottom:Nat} {b:Ro} (h:top ≤ bottom) (h2:bottom < l.length):(slideUp l top bottom b).length = l.length:=by
 unfold slideUp
 simp only [List.length_append,List.length_take,List.length_drop,List.length_cons]
 omega
theorem slideDn_len {l:List Ro} {top bottom:Nat} {b:Ro} (h:top ≤ bottom) (h2:bottom < l.length):(slideDn l top bottom b).length = l.length:=by
 unfold slideDn
 simp only [List.length_append,List.length_take,List.length_drop,List.length_cons]
 omega
structure Dc where
 L:List Ro
 base:Nat
 cols:Nat
 room:Nat
 gone:Int
 told:List Tl
def dcOf (g:Pg):Dc:=⟨g.hist ++ g.scr,g.hist.length,g.cols,g.room,g.gone,g.told⟩
def dcRows (d:Dc):Int:=(d.L.length:Int) - d.base
def dcIn (d:Dc) (y:Int):Bool:=decide (0 ≤ y) && decide (y < dcRows d)
def dcInsert (d:Dc) (at_:Nat) (r:Ro):Dc:={ d with L:=d.L.take at_ ++ (r :: d.L.drop at_),told:=d.told ++ [⟨0,at_,1⟩] }
def dcRemove (d:Dc) (at_:Nat):Dc:={ d with L:=d.L.take at_ ++ d.L.drop (at_ + 1),told:=d.told ++ [⟨1,at_,1⟩] }
def dcEvict (d:Dc) (n:Nat):Dc:={ d with L:=d.L.drop n,base:=d.base - n,gone:=d.gone + n,told:=d.told ++ [⟨2,0,n⟩] }
def dcPart (d:Dc) (y:Int):Dc:=if dcIn d y then { d with L:=d.L.modify (d.base + y.toNat) (fun r => { r with cont:=false }) } else d
def dcCut (d:Dc) (top bottom:Nat) (b:Col):Dc:=dcPart (dcPart (dcInsert (dcRemove d (d.base + top)) (d.base + bottom) (blankR d.cols b)) top) (bottom + 1)
def dcUp (d:Dc) (top bottom:Nat) (b:Col):Dc :=
 if top = 0 then
  let d1:=dcInsert d (d.base + bottom + 1) (blankR d.cols b)
  let d2:=dcPart { d1 with base:=d1.base + 1 } (bottom + 1)
  if d2.room < d2.base then dcEvict d2 1 else d2
 else dcCut d top bottom b
def dcDown (d:Dc) (top bottom:Nat) (b:Col):Dc:=dcPart (dcPart (dcInsert (dcRemove d (d.base + bottom)) (d.base + top) (blankR d.cols b)) (top + 1)) (bottom + 1)
theorem dcOf_in (g:Pg) (y:Int):dcIn (dcOf g) y = inP g y:=by
 unfold dcIn inP dcRows dcOf
 simp only [List.length_append]
 congr 1
 exact decide_eq_decide.2 (by omega)
theorem modify_append {α:Type} (a b:List α) (k:Nat) (f:α→α):(a ++ b).modify (a.length + k) f = a ++ b.modify k f:=by
 induction a with
 | nil => simp
 | cons x a ih => simp [Nat.succ_add,ih]
theorem dcOf_part (g:Pg) (y:Int):dcPart (dcOf g) y = dcOf (contP g y false):=by
 unfold dcPart contP
 rw [dcOf_in]
 split
 · show Dc.mk ((g.hist ++ g.scr).modify (g.hist.length + y.toNat) _) _ _ _ _ _ = _
   rw [modify_append]
   rfl
 · rfl
theorem take_cut (h l:List Ro) (k:Nat):(h ++ l).take (h.length + k) = h ++ l.take k:=by rw [List.take_length_add_append]
theorem drop_cut (h l:List Ro) (k:Nat):(h ++ l).drop (h.length + k) = l.drop k:=by rw [List.drop_length_add_append]
theorem dcOf_cut (g:Pg) (top bottom:Nat) (b:Col) (h1:top ≤ bottom) (h2:bottom < g.scr.length):dcCut (dcOf g) top bottom b = dcOf (cutP g top bottom b):=by
 unfold dcCut cutP
 rw [← dcOf_part,← dcOf_part]
 congr 2
 unfold dcInsert dcRemove dcOf tellP slideUp
 simp only [Dc.mk.injEq,true_and]
 refine ⟨?_,by simp⟩
 rw [take_cut,show g.hist.length + top + 1 = g.hist.length + (top + 1) by omega,drop_cut,List.append_assoc,take_cut,drop_cut,List.append_assoc]
 congr 1
 rw [List.take_append,List.drop_append]
 have e1:(g.scr.take top).length = top:=by rw [List.length_take];omega
 rw [e1,List.take_take,show min bottom top = top by omega,List.append_assoc]
 congr 1
 rw [List.drop_eq_nil_of_le (show (g.scr.take top).length ≤ bottom by rw [e1];exact h1),List.nil_append,List.drop_drop,show top + 1 + (bottom - top) = bottom + 1 by omega]
theorem dcOf_down (g:Pg) (top bottom:Nat) (b:Col) (h1:top ≤ bottom) (h2:bottom < g.scr.length):dcDown (dcOf g) top bottom b = dcOf (downP g top bottom b):=by
 unfold dcDown downP
 rw [← dcOf_part,← dcOf_part]
 congr 2
 unfold dcInsert dcRemove dcOf tellP slideDn
 simp only [Dc.mk.injEq,true_and]
 refine ⟨?_,by simp⟩
 rw [take_cut,show g.hist.length + bottom + 1 = g.hist.length + (bottom + 1) by omega,drop_cut,List.append_assoc,take_cut,drop_cut,List.append_assoc]
 congr 1
 have e1:(g.scr.take bottom).length = bottom:=by rw [List.length_take];omega
 rw [List.take_append,List.drop_append,e1,List.take_take,show min top bottom = top by omega,show top - bottom = 0 by omega]
 rw [List.take_zero,List.append_nil,List.drop_zero,List.drop_take]
theorem dcOf_evict (g:Pg) (n:Nat) (h:n ≤ g.hist.length):dcEvict (dcOf g) n = dcOf (tellP { g with hist:=g.hist.drop n,gone:=g.gone + n } 2 0 n):=by
 unfold dcEvict dcOf tellP
 simp only [Dc.mk.injEq,true_and]
 exact ⟨by rw [List.drop_append_of_le_length h],by rw [List.length_drop],trivial⟩
theorem contP_other (g:Pg) (h:List Ro) (gn:Int) (td:List Tl) (y:Int) (b:Bool):contP { g with hist:=h,gone:=gn,told:=td } y b = { contP g y b with hist:=h,gone:=gn,told:=td }:=by
 unfold contP
 have e:inP { g with hist:=h,gone:=gn,told:=td } y = inP g y:=rfl
 rw [e]
 split <;> rfl
theorem contP_hist (g:Pg) (y:Int) (b:Bool):(contP g y b).hist = g.hist∧(contP g y b).gone = g.gone∧(contP g y b).told = g.told∧(contP g y b).cols = g.cols∧(contP g y b).room = g.room∧(contP g y b).scr.length = g.scr.length:=by
 unfold contP
 split
 · exact ⟨rfl,rfl,rfl,rfl,rfl,by simp⟩
 · exact ⟨rfl,rfl,rfl,rfl,rfl,rfl⟩
theorem dcOf_up (g:Pg) (top bottom:Nat) (b:Col) (h1:top ≤ bottom) (h2:bottom < g.scr.length) (hr:g.hist.length ≤ g.room):dcUp (dcOf g) top bottom b = dcOf (upP g top bottom b):=by
 unfold dcUp upP
 by_cases ht:top = 0
 rotate_left
 · rw [if_neg ht,if_pos (by omega)]
   exact dcOf_cut g top bottom b h1 h2
 subst ht
 rw [if_pos rfl,if_neg (show ¬ (0:Nat) < 0 by omega)]
 simp only []
 obtain ⟨s0,l,hs⟩:∃ s0 l,g.scr = s0 :: l:=by
  match h:g.scr,h2 with
  | s0 :: l,_ => exact ⟨s0,l,rfl⟩
 have key:{ dcInsert (dcOf g) ((dcOf g).base + bottom + 1) (blankR (dcOf g).cols b) with base:=(dcInsert (dcOf g) ((dcOf g).base + bottom + 1) (blankR (dcOf g).cols b)).base + 1 } = dcOf { g with hist:=g.hist ++ [s0],scr:=slideUp g.scr 0 bottom (blankR g.cols b),told:=g.told ++ [⟨0,g.hist.length + bottom + 1,1⟩] }:=by
  unfold dcInsert dcOf slideUp
  simp only [Dc.mk.injEq,true_and]
  refine ⟨?_,by simp,by simp⟩
  rw [show g.hist.length + bottom + 1 = g.hist.length + (bottom + 1) by omega,take_cut,drop_cut,hs]
  simp
 rw [key,dcOf_part]
 have hg0:g.scr.getD 0 ⟨[],false⟩ = s0:=by rw [hs];rfl
 rw [hg0]
 have hh:=contP_hist { g with hist:=g.hist ++ [s0],scr:=slideUp g.scr 0 bottom (blankR g.cols b),told:=g.told ++ [⟨0,g.hist.length + bottom + 1,1⟩] } (bottom + 1) false
 obtain ⟨q1,q2,q3,q4,q5,q6⟩:=hh
 by_cases hf:g.hist.length = g.room
 · have c1:(dcOf (contP { g with hist:=g.hist ++ [s0],scr:=slideUp g.scr 0 bottom (blankR g.cols b),told:=g.told ++ [⟨0,g.hist.length + bottom + 1,1⟩] } (bottom + 1) false)).room < (dcOf (contP { g with hist:=g.hist ++ [s0],scr:=slideUp g.scr 0 bottom (blankR g.cols b),told:=g.told ++ [⟨0,g.hist.length + bottom + 1,1⟩] } (bottom + 1) false)).base:=by
    show (contP _ _ _).room < (contP _ _ _).hist.length
    rw [q1,q5];simp;omega
   rw [if_pos c1,dcOf_evict _ 1 (by rw [q1];simp)]
   congr 1
   unfold tellP
   rw [q1,q2,q3,← contP_other]
   unfold pushP
   by_cases h0:g.room = 0
   · have hn:g.hist = []:=List.length_eq_zero_iff.1 (by omega)
     simp only [h0,if_true,hn,List.nil_append,List.drop_succ_cons,List.drop_nil]
     simp
   · simp only [h0,if_false,hf,if_true]
     have e1:(g.hist ++ [s0]).drop 1 = g.hist.drop 1 ++ [s0]:=List.drop_append_of_le_length (by omega)
     rw [e1]
     simp
 · have c1:¬ ((dcOf (contP { g with hist:=g.hist ++ [s0],scr:=slideUp g.scr 0 bottom (blankR g.cols b),told:=g.told ++ [⟨0,g.hist.length + bottom + 1,1⟩] } (bottom + 1) false)).room < (dcOf (contP { g with hist:=g.hist ++ [s0],scr:=slideUp g.scr 0 bottom (blankR g.cols b),told:=g.told ++ [⟨0,g.hist.length + bottom + 1,1⟩] } (bottom + 1) false)).base):=by
    show ¬ ((contP _ _ _).room < (contP _ _ _).hist.length)
    rw [q1,q5];simp;omega
   rw [if_neg c1]
   congr 1
   unfold pushP tellP
   have h0:¬ g.room = 0:=by omega
   simp only [h0,if_false,hf]
   simp
def dcForget (d:Dc):Dc:=if 0 < d.base then dcPart (dcEvict d d.base) 0 else d
theorem dcOf_forget (g:Pg):dcForget (dcOf g) = dcOf (forgetP g):=by
 unfold dcForget forgetP
 by_cases h:g.hist.length = 0
 · rw [if_neg (by show ¬ 0 < g.hist.length;omega),if_pos h]
 · rw [if_pos (by show 0 < g.hist.length;omega),if_neg h,show (dcOf g).base = g.hist.length from rfl,dcOf_evict g _ (Nat.le_refl _),dcOf_part,List.drop_length]
open Go.RowKit
def encPr (x:Int × Int):List Value:=[.int .i32 x.1,.int .i32 x.2]
theorem encPr_len:∀ x,(encPr x).length = 2:=fun _ => rfl
theorem flat_at2 {α:Type} {enc:α→List Value} {K:Nat} (hl:∀ x,(enc x).length = K):∀ (X:List α) (k:Nat) (x:α) (j:Nat),X[k]? = some x→j < K→(flat enc X)[k * K + j]? = (enc x)[j]?
 | [],k,x,j,h,_ => by simp at h
 | y :: X,0,x,j,h,hj => by
   obtain rfl:y = x:=by simpa using h
   have e:flat enc (y :: X) = enc y ++ flat enc X:=rfl
   rw [e,Nat.zero_mul,Nat.zero_add,List.getElem?_append_left (by rw [hl];exact hj)]
 | y :: X,k + 1,x,j,h,hj => by
   have e:flat enc (y :: X) = enc y ++ flat enc X:=rfl
   rw [e,List.getElem?_append_right (by rw [hl,Nat.add_mul];omega),hl,show (k + 1) * K + j - K = k * K + j by rw [Nat.add_mul];omega]
   exact flat_at2 hl X k x j (by simpa using h) hj
theorem gr_lit {α:Type} {enc:α→List Value} {K:Nat} (hl:∀ x,(enc x).length = K) {w:World} {g:Nat} {t:TypeId} {l:List α} (h:w.heap[g]? = some (.cells (flat enc l).toArray t (0,0))):GrAt enc K w (some ⟨g,0,none⟩) l:=fun _ => by
 refine ⟨g,0,rfl,fun i x hx j v hv => ?_⟩
 have hj:j < K:=by have:=(List.getElem?_eq_some_iff.1 hv).1;rwa [hl] at this
 have:=flat_at2 hl l i x j hx hj
 rw [Nat.zero_add]
 exact (whole_at h _ _ (this.trans hv)).1
set_option maxHeartbeats 800000 in
theorem wnone_any (r:Int) (w:World):Calls Tryz.prog 143 #[.int .i32 r] w fun e w' => e = .returned (.bool (noneW r))∧w = w':=by
 by_cases h1:r < 32
 · skip
   have hv:noneW r = true:=by simp [noneW];omega
   rw [hv]
   clear hv
   go_enter Tryz.func143,Tryz.ntmps143
   go_wp2
   go_ret
   exact ⟨rfl,rfl⟩
 by_cases h2:127 ≤ r
 · by_cases h3:r < 160
   · skip
     have hv:noneW r = true:=by simp [noneW];omega
     rw [hv]
     clear hv
     go_enter Tryz.func143,Tryz.ntmps143
     go_wp2
     go_ret
     exact ⟨rfl,rfl⟩
   · by_cases h4:55296 ≤ r
     · by_cases h5:r < 57344
       · skip
         have hv:noneW r = true:=by simp [noneW];omega
         rw [hv]
         clear hv
         go_enter Tryz.func143,Tryz.ntmps143
         go_wp2
         go_ret
         exact ⟨rfl,rfl⟩
       · by_cases h6:1114111 < r
         · skip
           have hv:noneW r = true:=by simp [noneW];omega
           rw [hv]
           clear hv
           go_enter Tryz.func143,Tryz.ntmps143
           go_wp2
           go_ret
           exact ⟨rfl,rfl⟩
         · skip
           have hv:noneW r = false:=by simp [noneW];omega
           rw [hv]
           clear hv
           go_enter Tryz.func143,Tryz.ntmps143
           go_wp2
           go_ret
           exact ⟨rfl,rfl⟩
     · have h6:¬ 1114111 < r:=by omega
       have hv:noneW r = false:=by simp [noneW];omega
       rw [hv]
       clear hv
       go_enter Tryz.func143,Tryz.ntmps143
       go_wp2
       go_ret
       exact ⟨rfl,rfl⟩
 · have h4:¬ 55296 ≤ r:=by omega
   have h6:¬ 1114111 < r:=by omega
   have hv:noneW r = false:=by simp [noneW];omega
   rw [hv]
   clear hv
   go_enter Tryz.func143,Tryz.ntmps143
   go_wp2
   go_ret
   exact ⟨rfl,rfl⟩
def TabPost (l:List (Int × Int)) (w:World) (e:Ending) (w':World):Prop:=∃ g,e = .returned (.slice (some ⟨g,0,none⟩) l.length l.length)∧GrAt encPr 2 w' (some ⟨g,0,none⟩) l∧Below w.heap.size w w'
set_option maxHeartbeats 1600000 in
theorem wmarks_any (w:World):Calls Tryz.prog 145 #[] w (TabPost marksT w):=by
 go_enter Tryz.func145,Tryz.ntmps145
 go_wp2
 go_ret
 exact ⟨w.heap.size,rfl,gr_lit encPr_len (l:=marksT) (hp_new rfl),below_allocs (Below.refl _ _) _⟩
set_option maxHeartbeats 1600000 in
theorem wwides_any (w:World):Calls Tryz.prog 146 #[] w (TabPost widesT w):=by
 go_enter Tryz.func146,Tryz.ntmps146
 go_wp2
 go_ret
 exact ⟨w.heap.size,rfl,gr_lit encPr_len (l:=widesT) (hp_new rfl),below_allocs (Below.refl _ _) _⟩
def PrPost (r:Int) (x:Int × Int) (w:World) (e:Ending) (w':World):Prop:=e = .returned (.bool (decide (x.1 ≤ r) && decide (r ≤ x.2)))∧Below w.heap.size w w'
set_option maxHeartbeats 800000 in
theorem among1_any (r:Int) (g:Nat) (x:Int × Int) (w:World) (hg:w.cell? ⟨g,0,none⟩ = some (.int .i32 r)):Calls Tryz.prog 154 #[.agg #[.int .i32 x.1,.int .i32 x.2],.pointer (some ⟨g,0,none⟩)] w (PrPost r x w):=by
 have hgl:=lt_of_cell hg
 by_cases h1:x.1 ≤ r <;> by_cases h2:r ≤ x.2
 all_goals
  go_enter Tryz.func154,Tryz.ntmps154
  go_wp2
  go_ret
  exact ⟨by simp [h1,h2],below_allocs (Below.refl _ _) _⟩
theorem there_below {w w1:World} {b o n:Nat} (h:w.there b o n) (hb:Below w.heap.size w w1):w1.there b o n:=fun j hj => by
 obtain ⟨h1,h2⟩:=h j hj
 obtain ⟨u,hu⟩:=Option.isSome_iff_exists.1 h1
 have:=hold hb ⟨hu,h2⟩
 exact ⟨by rw [this.1];rfl,this.2⟩
theorem below_setCells {B:Nat} {W w1:World} (h:Below B W w1) {b:Nat} (hb:B ≤ b):∀ (vs:List Value) (o:Nat),Below B W (w1.setCells b o vs)
 | [],o => h
 | v :: vs,o => by
   rw [World.setCells]
   exact below_setCells (below_set' h hb v) hb vs (o + 1)
where below_set' {B:Nat} {W w1:World} (h:Below B W w1) {b o:Nat} (hb:B ≤ b) (v:Value):Below B W (w1.setCell ⟨b,o,none⟩ v):=h.setCell (p:=⟨b,o,none⟩) hb v
theorem there_new {w:World} {g:Nat} {cs:Array Value} {t:TypeId} (h:w.heap[g]? = some (.cells cs t (0,0))):w.there g 0 cs.size:=fun j hj => by
 rw [Nat.zero_add]
 exact ⟨by rw [cell_of_row w g j cs t (0,0) h,Array.getElem?_eq_getElem hj];rfl,frozen_of_row w g j cs t h⟩
theorem range_below {w w1:World} {b o:Nat} {cs:List Value} (h:w.rangeAt b o cs) (hb:Below w.heap.size w w1):w1.rangeAt b o cs:=fun j v hj => holda hb (h j v hj)
section
variable {P:Program}
theorem run_copy_k (w:World) (dT sT ty elem:TypeId) (b o dLen dCap:Nat) (a:Addr) (sLen sCap k:Nat) (cs:List Value) (hu:P.underlying dT = some (.slice elem)) (hs:(P.info? elem).map (·.size) = some k) (hn:cs.length = Nat.min sLen dLen * k)
 (hsrc:∀ j v,cs[j]? = some v→w.cell? (a.add j) = some v) (hc:∀ j,j < cs.length→(w.cell? ⟨b,o + j,none⟩).isSome = true) (hf:∀ j,j < cs.length→w.frozen? ⟨b,o + j,none⟩ = false) (h1:∀ v ∈ cs,v.oneCell' = true) :
 (Builtin.copy_ #[dT,sT] ty #[.slice (some ⟨b,o,none⟩) dLen dCap,.slice (some a) sLen sCap]).run P w = .ok (goInt (Nat.min sLen dLen)) (w.setCells b o cs):=by
 have hl:=run_loadCells_list (P:=P) w a cs hsrc
 have hst:=run_storeCells_cells (P:=P) b o cs 0 w (by simpa using hc) (by simpa using hf) h1
 cases hq:P.info? elem with
 | none => simp [hq] at hs
 | some i =>
   have hi:i.size = k:=by simpa [hq] using hs
   simp [Builtin.copy_,run_underlying hu,Builtin.lenOf,Builtin.firstCells,sizeOf,typeInfo,hq,hi,← hn,hl,hst]
theorem results_cell1 {fn:Func} {p:Tmp} {ty:TypeId} (h:fn.results = #[.cell p ty]) (tmps:Array Value) (P:Program) (w:World) :
 (results fn tmps).run P w = ((asAddr (tmps.getD p undef)).run P w).andThen fun a w₁ => (loadVar ty a).run P w₁:=by
 simp only [results,h]
 simp [Sem.run_bind,Result.andThen]
end
theorem whole_setCells {b:Nat} {t:TypeId}:∀ (vs:List Value) (o:Nat) (cs:List Value) (w:World),w.heap[b]? = some (.cells cs.toArray t (0,0))→o + vs.length ≤ cs.length→(w.setCells b o vs).heap[b]? = some (.cells (cs.take o ++ (vs ++ cs.drop (o + vs.length))).toArray t (0,0))
 | [],o,cs,w,h,_ => by simpa [World.setCells] using h
 | v :: vs,o,cs,w,h,hl => by
   rw [List.length_cons] at hl
   have h1:=whole_set h o v rfl
   have ih:=whole_setCells vs (o + 1) (cs.set o v) (w.setCell ⟨b,o,none⟩ v) h1 (by rw [List.length_set];omega)
   have hlt:o < (cs.set o v).length:=by rw [List.length_set];omega
   rw [List.take_succ_eq_append_getElem hlt,List.getElem_set_self,List.take_set_of_le (Nat.le_refl o),List.drop_set_of_lt (by omega),List.append_assoc] at ih
   rw [World.setCells,List.length_cons,show o + (vs.length + 1) = o + 1 + vs.length by omega]
   exact ih
theorem mod_setCellsN {X:List Nat} {w:World} {g:Nat} (hg:g ∈ X ∨ w.heap.size ≤ g):∀ (cs:List Value) (o:Nat) (w1:World),Mod X w w1→Mod X w (w1.setCells g o cs)
 | [],_,_,h => h
 | v :: r,o,_,h => mod_setCellsN hg r (o + 1) _ (h.setCell (a:=⟨g,o,none⟩) hg v)
theorem owns_set1 {w:World} {base g:Nat} {e:TypeId} {size n cap:Nat} {xs:List Value} (h:w.ownsRow base e size (.slice (some ⟨g,0,none⟩) n cap) n xs) (o:Nat) (v:Value) :
 (w.setCell ⟨g,o,none⟩ v).ownsRow base e size (.slice (some ⟨g,0,none⟩) n cap) n (xs.set o v):=by
 obtain ⟨h1,h2 | ⟨g',cap',cur,hv,e2,e3,e4,e5,e6,e7⟩⟩:=h
 · exact absurd h2.1 (by simp)
 · simp only [Value.slice.injEq,Option.some.injEq,Addr.mk.injEq,and_true,true_and] at hv
   obtain ⟨rfl,rfl⟩:=hv
   refine ⟨by simpa using h1,.inr ⟨g,cap,cur.setIfInBounds o v,rfl,e2,heap_setCell_eq e3,e4,e5,by simpa using e6,?_⟩⟩
   rw [← e7,Array.toList_setIfInBounds]
   rw [List.take_set]
theorem owns_hold {w:World} {base g:Nat} {e:TypeId} {size n cap:Nat} {xs:List Value} (h:w.ownsRow base e size (.slice (some ⟨g,0,none⟩) n cap) n xs) {i:Nat} {v:Value} (hi:xs[i]? = some v):HoldAt w g i v:=by
 obtain ⟨-,h2 | ⟨g',cap',cur,hv,-,e3,-,-,-,e7⟩⟩:=h
 · exact absurd h2.1 (by simp)
 · simp only [Value.slice.injEq,Option.some.injEq,Addr.mk.injEq,and_true,true_and] at hv
   obtain ⟨rfl,rfl⟩:=hv
   refine at_ e3 i v ?_
   rw [← e7,List.getElem?_take] at hi
   split at hi
   · simpa using hi
   · cases hi
theorem flat_set1 {α:Type} {enc:α→List Value} {K:Nat} (hl:∀ x,(enc x).length = K):∀ (X:List α) (k:Nat) (x x':α) (j:Nat) (v:Value),X[k]? = some x→j < K→(enc x).set j v = enc x'→(flat enc X).set (k * K + j) v = flat enc (X.set k x')
 | [],k,x,x',j,v,h,_,_ => by simp at h
 | y :: X,0,x,x',j,v,h,hj,he => by
   obtain rfl:y = x:=by simpa using h
   have e:flat enc (y :: X) = enc y ++ flat enc X:=rfl
   have e2:flat enc ((y :: X).set 0 x') = enc x' ++ flat enc X:=rfl
   rw [e,e2,Nat.zero_mul,Nat.zero_add,List.set_append_left _ _ (by rw [hl];exact hj),he]
 | y :: X,k + 1,x,x',j,v,h,hj,he => by
   have e:flat enc (y :: X) = enc y ++ flat enc X:=rfl
   have e2:flat enc ((y :: X).set (k + 1) x') = enc y ++ flat enc (X.set k x'):=rfl
   rw [e,e2,List.set_append_right _ _ (by rw [hl,Nat.add_mul];omega),hl,show (k + 1) * K + j - K = k * K + j by rw [Nat.add_mul];omega,flat_set1 hl X k x x' j v (by simpa using h) hj he]
theorem owns_setCells {base g:Nat} {e:TypeId} {size n cap:Nat}:∀ (vs:List Value) (o:Nat) (xs:List Value) (w:World),w.ownsRow base e size (.slice (some ⟨g,0,none⟩) n cap) n xs→o + vs.length ≤ xs.length →
 (w.setCells g o vs).ownsRow base e size (.slice (some ⟨g,0,none⟩) n cap) n (xs.take o ++ (vs ++ xs.drop (o + vs.length)))
 | [],o,xs,w,h,_ => by simpa [World.setCells] using h
 | v :: vs,o,xs,w,h,hl => by
   rw [List.length_cons] at hl
   have h1:=owns_set1 h o v
   have ih:=owns_setCells vs (o + 1) (xs.set o v) (w.setCell ⟨g,o,none⟩ v) h1 (by rw [List.length_set];omega)
   have e1:(xs.set o v).take (o + 1) = xs.take o ++ [v]:=by
    rw [List.take_succ_eq_append_getElem (by rw [List.length_set];omega),List.getElem_set_self,List.take_set_of_le (Nat.le_refl _)]
   have e2:(xs.set o v).drop (o + 1 + vs.length) = xs.drop (o + (v :: vs).length):=by
    rw [List.drop_set_of_lt (by omega),List.length_cons,show o + 1 + vs.length = o + (vs.length + 1) by omega]
   rw [e1,e2,List.append_assoc] at ih
   exact ih
theorem load_mid_g {P:Program} {ops:Array Oper} {rest:List Oper} {op:Oper} {a:Act} {w:World} {Q:Exit→Act→World→Prop} (hw:Region.wanted op (yielded ops a.tmps) = true) (ty:TypeId) (x:Operand) (ho:op.op = .load ty x)
 (b o:Nat) (hx:a.eval x = .pointer (some ⟨b,o,none⟩)) (cs:List Value) (d:TypeDesc) (hc:w.rangeAt b o cs)
 (hu:P.underlying ty = some d) (hd:d.isRow = true) (hi:(P.info? ty).map (·.size) = some cs.length)
 (h:wpList P ops Q rest (a.put op.dst (.agg cs.toArray)) w):wpList P ops Q (op :: rest) a w:=by
 unfold wpList
 rw [if_pos hw]
 exact .inl (wp_load_mid ty x ho b o hx cs d hc hu hd hi h)
def isScal (r:Int):Bool:=decide (0 ≤ r) && decide (r ≤ 0x10ffff) && (decide (r < 0xd800) || decide (0xdfff < r))
def putB (r:Int):ByteArray :=
 if isScal r then
  (if r < 0x80 then ⟨#[r.toNat.toUInt8]⟩
  else if r < 0x800 then ⟨#[(192 + r / 64).toNat.toUInt8,(128 + r % 64).toNat.toUInt8]⟩
  else if r < 0x10000 then ⟨#[(224 + r / 4096).toNat.toUInt8,(128 + r / 64 % 64).toNat.toUInt8,(128 + r % 64).toNat.toUInt8]⟩
  else ⟨#[(240 + r / 262144).toNat.toUInt8,(128 + r / 4096 % 64).toNat.toUInt8,(128 + r / 64 % 64).toNat.toUInt8,(128 + r % 64).toNat.toUInt8]⟩)
 else ByteArray.empty
def withMore (m:ByteArray) (c:Cl):Cl:={ c with more:=m }
def markL (l:List Cl) (x r:Int):List Cl :=
 let o:=mendL l
 match o[x.toNat]? with
 | none => o
 | some c =>
   if x < 0 ∨ c.r = 0 ∨ widOf r ≠ 0 ∨ 32 < (c.more ++ putB r).size then o
   else
    let m:=c.more ++ putB r
    let o1:=if c.half = 1 then o.modify (x.toNat + 1) (withMore m) else if c.half = 2 then o.modify (x.toNat - 1) (withMore m) else o
    mendL (o1.modify x.toNat (withMore m))
theorem markL_len (l:List Cl) (x r:Int):(markL l x r).length = l.length:=by
 unfold markL
 simp only []
 split
 · exact mendL_len l
 · split
   · exact mendL_len l
   · rw [mendL_len,List.length_modify]
     split
     · rw [List.length_modify,mendL_len]
     split
     · rw [List.length_modify,mendL_len]
     · exact mendL_len l
structure Pop where
 kind:Int
 x:Int
 n:Int
 r:Int
 at_:Atr
 y:Int
 top:Int
 bottom:Int
def backOf (a:Atr):Col:=⟨a.bk,a.bn⟩
def stepP (g:Pg) (o:Pop):Pg :=
 if o.kind = 0 then rowP g o.y (fun l => putL l o.x o.r o.at_)
 else if o.kind = 1 then rowP g o.y (fun l => markL l o.x o.r)
 else if o.kind = 2 then eraseP g o.y o.x o.n (backOf o.at_)
 else if o.kind = 3 then rowP g o.y (fun l => insertL l o.x o.n (backOf o.at_))
 else if o.kind = 4 then rowP g o.y (fun l => deleteL l o.x o.n (backOf o.at_))
 else if o.kind = 5 then contP g o.y true
 else if o.kind = 6 then timesP g o.top o.bottom o.n (fun t b g => upP g t b (backOf o.at_))
 else if o.kind = 7 then timesP g o.top o.bottom o.n (fun t b g => downP g t b (backOf o.at_))
 else if o.kind = 8 then forgetP g
 else if o.kind = 9 then rowP g o.y closeL
 else if o.kind = 10 then timesP g o.top o.bottom o.n (fun t b g => cutP g t b (backOf o.at_))
 else g
structure PgInv (rows cols room:Nat) (g:Pg):Prop where
 hrows:g.scr.length = rows
 hcols:g.cols = cols
 hroom:g.room = room
 hhist:g.hist.length ≤ room
 wide:∀ r ∈ g.hist ++ g.scr,r.cs.length = cols
theorem mem_modify {α:Type} {f:α→α} {y:α}:∀ {l:List α} {i:Nat},y ∈ l.modify i f→y ∈ l ∨ ∃ x ∈ l,y = f x
 | [],i,h => by simp at h
 | x :: l,0,h => by
   rw [List.modify_zero_cons] at h
   rcases List.mem_cons.1 h with rfl | h
   · exact .inr ⟨x,by simp,rfl⟩
   · exact .inl (by simp [h])
 | x :: l,i + 1,h => by
   rw [List.modify_succ_cons] at h
   rcases List.mem_cons.1 h with rfl | h
   · exact .inl (by simp)
   · rcases mem_modify h with h | ⟨z,hz,e⟩
     · exact .inl (by simp [h])
     · exact .inr ⟨z,by simp [hz],e⟩
theorem PgInv.mod {rows cols room:Nat} {g:Pg} (h:PgInv rows cols room g) (i:Nat) (f:Ro→Ro) (hf:∀ r,(f r).cs.length = r.cs.length):PgInv rows cols room { g with scr:=g.scr.modify i f }:=by
 refine ⟨by show (g.scr.modify i f).length = rows;rw [List.length_modify];exact h.hrows,h.hcols,h.hroom,h.hhist,fun r hr => ?_⟩
 rcases List.mem_append.1 (show r ∈ g.hist ++ g.scr.modify i f from hr) with hr | hr
 · exact h.wide r (by simp [hr])
 · rcases mem_modify hr with hr | ⟨x,hx,rfl⟩
   · exact h.wide r (by simp [hr])
   · rw [hf];exact h.wide x (by simp [hx])
theorem PgInv.row {rows cols room:Nat} {g:Pg} (h:PgInv rows cols room g) (y:Int) (f:List Cl→List Cl) (hf:∀ l,(f l).length = l.length):PgInv rows cols room (rowP g y f):=by
 unfold rowP
 split
 · exact h.mod _ _ (fun r => hf r.cs)
 · exact h
theorem PgInv.cont {rows cols room:Nat} {g:Pg} (h:PgInv rows cols room g) (y:Int) (b:Bool):PgInv rows cols room (contP g y b):=by
 unfold contP
 split
 · exact h.mod _ _ (fun r => rfl)
 · exact h
theorem PgInv.tell {rows cols room:Nat} {g:Pg} (h:PgInv rows cols room g) (k a n:Int):PgInv rows cols room (tellP g k a n):=⟨h.hrows,h.hcols,h.hroom,h.hhist,h.wide⟩
theorem mem_slideUp {l:List Ro} {top bottom:Nat} {b r:Ro} (h:r ∈ slideUp l top bottom b):r ∈ l ∨ r = b:=by
 unfold slideUp at h
 simp only [List.mem_append,List.mem_cons] at h
 rcases h with h | h | h | h
 · exact .inl (List.mem_of_mem_take h)
 · exact .inl (List.mem_of_mem_drop (List.mem_of_mem_take h))
 · exact .inr h
 · exact .inl (List.mem_of_mem_drop h)
theorem mem_slideDn {l:List Ro} {top bottom:Nat} {b r:Ro} (h:r ∈ slideDn l top bottom b):r ∈ l ∨ r = b:=by
 unfold slideDn at h
 simp only [List.mem_append,List.mem_cons] at h
 rcases h with h | h | h | h
 · exact .inl (List.mem_of_mem_take h)
 · exact .inr h
 · exact .inl (List.mem_of_mem_drop (List.mem_of_mem_take h))
 · exact .inl (List.mem_of_mem_drop h)
theorem PgInv.slide {rows cols room:Nat} {g:Pg} (h:PgInv rows cols room g) {s:List Ro} {b:Col} (hl:s.length = g.scr.length) (hm:∀ r ∈ s,r ∈ g.scr ∨ r = blankR g.cols b):PgInv rows cols room { g with scr:=s }:=by
 refine ⟨hl.trans h.hrows,h.hcols,h.hroom,h.hhist,fun r hr => ?_⟩
 rcases List.mem_append.1 (show r ∈ g.hist ++ s from hr) with hr | hr
 · exact h.wide r (by simp [hr])
 · rcases hm r hr with hr | rfl
   · exact h.wide r (by simp [hr])
   · unfold blankR;rw [List.length_replicate];exact h.hcols
theorem PgInv.cut {rows cols room:Nat} {g:Pg} (h:PgInv rows cols room g) {top bottom:Nat} (h1:top ≤ bottom) (h2:bottom < g.scr.length) (b:Col):PgInv rows cols room (cutP g top bottom b):=by
 unfold cutP
 exact ((PgInv.slide (g:=tellP (tellP g 1 (g.hist.length + top) 1) 0 (g.hist.length + bottom) 1) ((h.tell _ _ _).tell _ _ _) (b:=b) (slideUp_len h1 h2) (fun r hr => mem_slideUp hr)).cont _ _).cont _ _
theorem PgInv.down {rows cols room:Nat} {g:Pg} (h:PgInv rows cols room g) {top bottom:Nat} (h1:top ≤ bottom) (h2:bottom < g.scr.length) (b:Col):PgInv rows cols room (downP g top bottom b):=by
 unfold downP
 exact ((PgInv.slide (g:=tellP (tellP g 1 (g.hist.length + bottom) 1) 0 (g.hist.length + top) 1) ((h.tell _ _ _).tell _ _ _) (b:=b) (slideDn_len h1 h2) (fun r hr => mem_slideDn hr)).cont _ _).cont _ _
theorem PgInv.push {rows cols room:Nat} {g:Pg} (h:PgInv rows cols room g) {r:Ro} (hr:r.cs.length = cols):PgInv rows cols room (pushP g r).1∧(pushP g r).1.scr = g.scr:=by
 have hh:=h.hhist
 have hr0:=h.hroom
 unfold pushP
 split
 · exact ⟨⟨h.hrows,h.hcols,h.hroom,h.hhist,h.wide⟩,rfl⟩
 split
 · next h0 h1 =>
   refine ⟨⟨h.hrows,h.hcols,h.hroom,by show (g.hist.drop 1 ++ [r]).length ≤ room;simp;omega,fun x hx => ?_⟩,rfl⟩
   rcases List.mem_append.1 (show x ∈ (g.hist.drop 1 ++ [r]) ++ g.scr from hx) with hx | hx
   · rcases List.mem_append.1 hx with hx | hx
     · exact h.wide x (List.mem_append_left _ (List.mem_of_mem_drop hx))
     · rw [List.mem_singleton.1 hx];exact hr
   · exact h.wide x (by simp [hx])
 · next h0 h1 =>
   refine ⟨⟨h.hrows,h.hcols,h.hroom,by show (g.hist ++ [r]).length ≤ room;simp;omega,fun x hx => ?_⟩,rfl⟩
   rcases List.mem_append.1 (show x ∈ (g.hist ++ [r]) ++ g.scr from hx) with hx | hx
   · rcases List.mem_append.1 hx with hx | hx
     · exact h.wide x (by simp [hx])
     · rw [List.mem_singleton.1 hx];exact hr
   · exact h.wide x (by simp [hx])
theorem PgInv.up {rows cols room:Nat} {g:Pg} (h:PgInv rows cols room g) {top bottom:Nat} (h1:top ≤ bottom) (h2:bottom < g.scr.length) (b:Col):PgInv rows cols room (upP g top bottom b):=by
 unfold upP
 split
 · exact h.cut h1 h2 b
 · next ht =>
   simp only []
   have hw:(g.scr.getD 0 ⟨[],false⟩).cs.length = cols:=by
    rw [List.getD_eq_getElem?_getD,List.getElem?_eq_getElem (by omega)]
    exact h.wide _ (by simp)
   have hp:=(h.tell 0 (g.hist.length + bottom + 1) 1).push hw
   have hc:(pushP (tellP g 0 (g.hist.length + bottom + 1) 1) (g.scr.getD 0 ⟨[],false⟩)).1.cols = g.cols:=hp.1.hcols.trans h.hcols.symm
   generalize pushP (tellP g 0 (g.hist.length + bottom + 1) 1) (g.scr.getD 0 ⟨[],false⟩) = q at hp hc
   obtain ⟨q,e⟩:=q
   refine PgInv.cont ?_ _ _
   have hq:PgInv rows cols room (if e = true then tellP q 2 0 1 else q):=by
    split
    · exact hp.1.tell _ _ _
    · exact hp.1
   have hs:(if e = true then tellP q 2 0 1 else q).scr = g.scr:=by
    split <;> exact hp.2
   have hcc:(if e = true then tellP q 2 0 1 else q).cols = g.cols:=by
    split <;> exact hc
   exact hq.slide (b:=b) (by rw [hs];exact slideUp_len (by omega) h2) (fun r hr => by rw [hs,hcc];exact mem_slideUp hr)
theorem PgInv.iter {rows cols room:Nat} {f:Pg→Pg} (hf:∀ g,PgInv rows cols room g→PgInv rows cols room (f g)):∀ (n:Nat) {g:Pg},PgInv rows cols room g→PgInv rows cols room (iterP f n g)
 | 0,_,h => h
 | n + 1,_,h => hf _ (PgInv.iter hf n h)
theorem PgInv.times {rows cols room:Nat} {g:Pg} (h:PgInv rows cols room g) (top bottom n:Int) (f:Nat→Nat→Pg→Pg) (hf:∀ t b:Nat,t ≤ b→∀ g,PgInv rows cols room g→b < g.scr.length→PgInv rows cols room (f t b g)):PgInv rows cols room (timesP g top bottom n f):=by
 unfold timesP
 split
 · next hc =>
   simp only [Bool.and_eq_true,inP,decide_eq_true_eq] at hc
   refine PgInv.iter (fun g' h' => hf _ _ (by omega) g' h' ?_) _ h
   have:=h.hrows
   have:=h'.hrows
   omega
 · exact h
theorem PgInv.forget {rows cols room:Nat} {g:Pg} (h:PgInv rows cols room g):PgInv rows cols room (forgetP g):=by
 unfold forgetP
 split
 · exact h
 · exact PgInv.cont (PgInv.tell (g:={ g with hist:=[],gone:=g.gone + g.hist.length }) ⟨h.hrows,h.hcols,h.hroom,Nat.zero_le _,fun r hr => h.wide r (by have hr':r ∈ ([]:List Ro) ++ g.scr:=hr;simp at hr';simp [hr'])⟩ _ _ _) _ _
theorem PgInv.erase {rows cols room:Nat} {g:Pg} (h:PgInv rows cols room g) (y x z:Int) (b:Col):PgInv rows cols room (eraseP g y x z b):=by
 unfold eraseP
 have h1:=h.row y (fun l => eraseL l x z b) (fun l => eraseL_len l x z b)
 split
 · simp only []
   split
   · split
     · exact (h1.cont _ _).cont _ _
     · exact h1.cont _ _
   · exact h1
 · exact h
theorem PgInv.step {rows cols room:Nat} {g:Pg} (h:PgInv rows cols room g) (o:Pop):PgInv rows cols room (stepP g o):=by
 unfold stepP
 split
 · exact h.row _ _ (fun l => putL_len l _ _ _)
 split
 · exact h.row _ _ (fun l => markL_len l _ _)
 split
 · exact h.erase _ _ _ _
 split
 · exact h.row _ _ (fun l => insertL_len l _ _ _)
 split
 · exact h.row _ _ (fun l => deleteL_len l _ _ _)
 split
 · exact h.cont _ _
 split
 · exact h.times _ _ _ _ (fun t b htb g' h' hb => h'.up htb hb _)
 split
 · exact h.times _ _ _ _ (fun t b htb g' h' hb => h'.down htb hb _)
 split
 · exact h.forget
 split
 · exact h.row _ _ closeL_len
 split
 · exact h.times _ _ _ _ (fun t b htb g' h' hb => h'.cut htb hb _)
 · exact h
end Go.Proofs.YtffdblmdelgkaaaGreat
