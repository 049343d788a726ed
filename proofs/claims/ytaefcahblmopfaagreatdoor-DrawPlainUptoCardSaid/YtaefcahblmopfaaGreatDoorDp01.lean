/- Joined by a tool of this claim out of smaller texts. Conditions: as stated. -/
import Derived.Test.YtaefcahblmopfaaGreatDoorRows
import Derived.WalkKit
import Derived.WalkSpells
import Derived.WalkLawsBesides
import Derived.Lib.Hide
import Derived.Outline
set_option linter.unusedVariables false
set_option linter.unusedSimpArgs false
set_option maxRecDepth 100000
open Go.Lib renaming hid → Hd
namespace Go.Proofs.YtaefcahblmopfaaGreatDoor
open Go.RowKit
theorem lt_of_cell {W:World} {b o:Nat} {v:Value} (h:W.cell? ⟨b,o,none⟩ = some v):b < W.heap.size:=World.block_lt_of_cell? W ⟨b,o,none⟩ h
theorem hold {W w1:World} (hb:Below W.heap.size W w1) {b o:Nat} {v:Value} (h:W.cell? ⟨b,o,none⟩ = some v∧W.frozen? ⟨b,o,none⟩ = false) :
 w1.cell? ⟨b,o,none⟩ = some v∧w1.frozen? ⟨b,o,none⟩ = false :=
 ⟨(hb.cell (p:=⟨b,o,none⟩) (lt_of_cell h.1)).trans h.1,(hb.frozen (p:=⟨b,o,none⟩) (lt_of_cell h.1)).trans h.2⟩
theorem holda {W w1:World} (hb:Below W.heap.size W w1) {a:Addr} {v:Value} (h:W.cell? a = some v):w1.cell? a = some v :=
 (hb.cell (World.block_lt_of_cell? W a h)).trans h
theorem below_tail {W w1 w2:World} (h:Below W.heap.size W w1) (hb:Below w1.heap.size w1 w2):Below W.heap.size W w2:=h.trans (hb.mono h.size)
theorem below_allocs {W w1:World} (h:Below W.heap.size W w1) (o:Obj):Below W.heap.size W (w1.alloc o):=h.alloc h.size o
theorem below_set {W w1:World} (h:Below W.heap.size W w1) {b o:Nat} (hb:W.heap.size ≤ b) (v:Value):Below W.heap.size W (w1.setCell ⟨b,o,none⟩ v):=h.setCell (p:=⟨b,o,none⟩) hb v
theorem heap_alloc_get (w:World) (o:Obj) (k:Nat):(w.alloc o).heap[k]? = if k = w.heap.size then some o else w.heap[k]?:=by
 show (w.heap.push o)[k]? = _
 rw [Array.getElem?_push]
theorem hp_new {W:World} {b:Nat} {o:Obj} (h:W.heap.size = b):(W.alloc o).heap[b]? = some o:=by rw [heap_alloc_get,if_pos h.symm]
theorem hp_old {W:World} {b:Nat} {o x:Obj} (h:W.heap[b]? = some x):(W.alloc o).heap[b]? = some x:=by
 rw [heap_alloc_get,if_neg,h]
 rintro rfl
 rw [Array.getElem?_eq_none (Nat.le_refl _)] at h;cases h
theorem at_new {W w1:World} {b:Nat} {cs:Array Value} {t:TypeId} (hb:Below W.heap.size W w1) (h:W.heap[b]? = some (.cells cs t (0,0))) (i:Nat) (v:Value) (hv:cs[i]? = some v) :
 w1.cell? ⟨b,i,none⟩ = some v∧w1.frozen? ⟨b,i,none⟩ = false:=by
 have hlt:b < W.heap.size:=by
  rcases Nat.lt_or_ge b W.heap.size with hlt | hge
  · exact hlt
  · rw [Array.getElem?_eq_none hge] at h;cases h
 refine ⟨(hb.cell (p:=⟨b,i,none⟩) hlt).trans ?_,(hb.frozen (p:=⟨b,i,none⟩) hlt).trans ?_⟩
 · simp [World.cell?,h,hv]
 · simp [World.frozen?,h]
theorem hold_set {W:World} {b i b' i':Nat} {u v:Value} (h:W.cell? ⟨b,i,none⟩ = some v∧W.frozen? ⟨b,i,none⟩ = false) (hne:b' ≠ b ∨ i' ≠ i):(W.setCell ⟨b',i',none⟩ u).cell? ⟨b,i,none⟩ = some v∧(W.setCell ⟨b',i',none⟩ u).frozen? ⟨b,i,none⟩ = false:=by
 refine ⟨(World.cell?_setCell_other W _ _ u (fun e => ?_)).trans h.1,?_⟩
 · injection e with e1 e2
   rcases hne with h | h
   · exact h e1
   · exact h e2
 · have e:(W.setCell ⟨b',i',none⟩ u).frozen? ⟨b,i,none⟩ = W.frozen? ⟨b,i,none⟩:=by simp [go_sem]
   rw [e];exact h.2
theorem set_self {W:World} {b i:Nat} {u v:Value} (h:W.cell? ⟨b,i,none⟩ = some v∧W.frozen? ⟨b,i,none⟩ = false):(W.setCell ⟨b,i,none⟩ u).cell? ⟨b,i,none⟩ = some u∧(W.setCell ⟨b,i,none⟩ u).frozen? ⟨b,i,none⟩ = false:=by
 have h1:=h.1
 have e:(W.setCell ⟨b,i,none⟩ u).frozen? ⟨b,i,none⟩ = W.frozen? ⟨b,i,none⟩:=by simp [go_sem]
 refine ⟨by simp [go_sem,h1],by rw [e];exact h.2⟩
theorem at_ {W:World} {b:Nat} {cs:Array Value} {t:TypeId} (h:W.heap[b]? = some (.cells cs t (0,0))) (i:Nat) (v:Value) (hv:cs[i]? = some v):W.cell? ⟨b,i,none⟩ = some v∧W.frozen? ⟨b,i,none⟩ = false:=by
 refine ⟨?_,?_⟩
 · simp [World.cell?,h,hv]
 · simp [World.frozen?,h]
theorem wpList_val {P:Program} {ops:Array Oper} {Q:Exit→Act→World→Prop} {o:Oper} {rest:List Oper} {a:Act} {w:World} (v:Value) (hg:o.guard = none) (hr:(execOp a.eval o).run P w = .ok (.value v) w) (h:wpList P ops Q rest (a.put o.dst v) w):wpList P ops Q (o :: rest) a w :=
 wpList_plain hg fun _ hK => by unfold Oper.wp;rw [hr];exact hK _ _ h
structure Cl where
 r:Int
 more:ByteArray
 half:Int
 fk:Int
 fn:Int
 bk:Int
 bn:Int
 fl:Int
deriving DecidableEq
def clV (c:Cl):Value:=.agg #[.int .i32 c.r,.string c.more,.int .i64 c.half,.int .i64 c.fk,.int .i64 c.fn,.int .i64 c.bk,.int .i64 c.bn,.int .i64 c.fl]
theorem cl_eq_iff (a b:Cl):a = b ↔ a.r = b.r∧a.more.toList = b.more.toList∧a.half = b.half∧a.fk = b.fk∧a.fn = b.fn∧a.bk = b.bk∧a.bn = b.bn∧a.fl = b.fl:=by
 obtain ⟨a0,a1,a2,a3,a4,a5,a6,a7⟩:=a
 obtain ⟨b0,b1,b2,b3,b4,b5,b6,b7⟩:=b
 simp only [Cl.mk.injEq]
 constructor
 · rintro ⟨h0,h1,h2,h3,h4,h5,h6,h7⟩
   exact ⟨h0,by rw [h1],h2,h3,h4,h5,h6,h7⟩
 · rintro ⟨h0,h1,h2,h3,h4,h5,h6,h7⟩
   exact ⟨h0,WideShapes.bytes_inj (by rw [← ByteArray.toList_eq,← ByteArray.toList_eq,h1]),h2,h3,h4,h5,h6,h7⟩
theorem exec_eql_cell (ρ:Operand→Value) (dst:Option Tmp) (ty:TypeId) (pos:String) (af:Array Edge) (gd:Option (Nat × Bool)) (x y:Operand) (a b:Cl) (hx:ρ x = clV a) (hy:ρ y = clV b) (w:World) :
 (execOp ρ ⟨dst,.binOp .eql 65 x y 65,ty,pos,af,gd⟩).run Tryz.prog w = .ok (.value (.bool (decide (a = b)))) w:=by
 have e:decide (a = b) = decide (a.r = b.r∧a.more.toList = b.more.toList∧a.half = b.half∧a.fk = b.fk∧a.fn = b.fn∧a.bk = b.bk∧a.bn = b.bn∧a.fl = b.fl):=decide_eq_decide.2 (cl_eq_iff a b)
 rw [e]
 unfold clV at hx hy
 go_simp
 repeat' split
 all_goals simp_all
theorem exec_neq_cell (ρ:Operand→Value) (dst:Option Tmp) (ty:TypeId) (pos:String) (af:Array Edge) (gd:Option (Nat × Bool)) (x y:Operand) (a b:Cl) (hx:ρ x = clV a) (hy:ρ y = clV b) (w:World) :
 (execOp ρ ⟨dst,.binOp .neq 65 x y 65,ty,pos,af,gd⟩).run Tryz.prog w = .ok (.value (.bool (!decide (a = b)))) w:=by
 have e:decide (a = b) = decide (a.r = b.r∧a.more.toList = b.more.toList∧a.half = b.half∧a.fk = b.fk∧a.fn = b.fn∧a.bk = b.bk∧a.bn = b.bn∧a.fl = b.fl):=decide_eq_decide.2 (cl_eq_iff a b)
 rw [e]
 unfold clV at hx hy
 go_simp
 repeat' split
 all_goals simp_all
def ClAt (w:World) (b o:Nat) (c:Cl):Prop:=w.cell? ⟨b,o,none⟩ = some (.int .i32 c.r)∧w.cell? ⟨b,o + 1,none⟩ = some (.string c.more)∧w.cell? ⟨b,o + 2,none⟩ = some (.int .i64 c.half)∧w.cell? ⟨b,o + 3,none⟩ = some (.int .i64 c.fk)∧w.cell? ⟨b,o + 4,none⟩ = some (.int .i64 c.fn)∧w.cell? ⟨b,o + 5,none⟩ = some (.int .i64 c.bk)∧w.cell? ⟨b,o + 6,none⟩ = some (.int .i64 c.bn)∧w.cell? ⟨b,o + 7,none⟩ = some (.int .i64 c.fl)
theorem ClAt.below {w w1:World} {b o:Nat} {c:Cl} (h:ClAt w b o c) (hb:Below w.heap.size w w1):ClAt w1 b o c:=by
 obtain ⟨h0,h1,h2,h3,h4,h5,h6,h7⟩:=h
 exact ⟨holda hb h0,holda hb h1,holda hb h2,holda hb h3,holda hb h4,holda hb h5,holda hb h6,holda hb h7⟩
def ClsAt (w:World) (A:Option Addr) (l:List Cl):Prop:=0 < l.length→∃ b off,A = some ⟨b,off,none⟩∧∀ i c,l[i]? = some c→ClAt w b (off + i * 8) c
theorem ClsAt.below {w w1:World} {A:Option Addr} {l:List Cl} (h:ClsAt w A l) (hb:Below w.heap.size w w1):ClsAt w1 A l:=fun hl => by
 obtain ⟨b,off,e,hc⟩:=h hl
 exact ⟨b,off,e,fun i s hs => (hc i s hs).below hb⟩
theorem ClsAt.at_ {w:World} {A:Option Addr} {l:List Cl} (h:ClsAt w A l) {k:Nat} (hk:k < l.length):∃ b off c,A = some ⟨b,off,none⟩∧l[k]? = some c∧ClAt w b (off + k * 8) c:=by
 obtain ⟨b,off,hA,hc⟩:=h (by omega)
 exact ⟨b,off,l[k],hA,List.getElem?_eq_getElem hk,hc k _ (List.getElem?_eq_getElem hk)⟩
def marksT:List (Int × Int):=[(0x300,0x36f),(0x483,0x489),(0x591,0x5bd),(0x610,0x61a),(0x64b,0x65f),(0x900,0x902),(0x93c,0x93c),(0x941,0x948),(0xe31,0xe31),(0xe34,0xe3a),(0x1ab0,0x1aff),(0x1dc0,0x1dff),(0x200b,0x200f),(0x20d0,0x20ff),(0x2060,0x2064),(0xfe00,0xfe0f),(0xfe20,0xfe2f),(0xfeff,0xfeff),(0xe0100,0xe01ef)]
def widesT:List (Int × Int):=[(0x1100,0x115f),(0x231a,0x231b),(0x2329,0x232a),(0x23e9,0x23ec),(0x25fd,0x25fe),(0x2614,0x2615),(0x2e80,0x303e),(0x3041,0x33ff),(0x3400,0x4dbf),(0x4e00,0x9fff),(0xa000,0xa4cf),(0xa960,0xa97f),(0xac00,0xd7a3),(0xf900,0xfaff),(0xfe30,0xfe6f),(0xff00,0xff60),(0xffe0,0xffe6),(0x1f300,0x1f64f),(0x1f680,0x1f6ff),(0x1f900,0x1f9ff),(0x20000,0x2fffd),(0x30000,0x3fffd)]
def amongB (l:List (Int × Int)) (r:Int):Bool:=l.any (fun x => decide (x.1 ≤ r) && decide (r ≤ x.2))
def noneW (r:Int):Bool:=decide (r < 32) || (decide (127 ≤ r) && decide (r < 160)) || (decide (0xd800 ≤ r) && decide (r < 0xe000)) || decide (0x10ffff < r)
def widOf (r:Int):Int:=if noneW r then -1 else if amongB marksT r then 0 else if amongB widesT r then 2 else 1
theorem among_low {r:Int} (h:r < 0x300):amongB marksT r = false∧amongB widesT r = false:=by
 constructor <;>
 · simp only [amongB,marksT,widesT,List.any_cons,List.any_nil,Bool.or_false,Bool.or_eq_false_iff,Bool.and_eq_false_iff,decide_eq_false_iff_not]
   omega
theorem widOf_low {r:Int} (h:r < 0x300):widOf r = if noneW r then -1 else 1:=by
 unfold widOf
 rw [(among_low h).1,(among_low h).2]
 rfl
structure Atr where
 fk:Int
 fn:Int
 bk:Int
 bn:Int
 fl:Int
structure Col where
 k:Int
 n:Int
def atrOf (c:Cl):Atr:=⟨c.fk,c.fn,c.bk,c.bn,c.fl⟩
def mkCl (r:Int) (more:ByteArray) (half:Int) (a:Atr):Cl:=⟨r,more,half,a.fk,a.fn,a.bk,a.bn,a.fl⟩
def emptyA (a:Atr):Cl:=mkCl 0 ByteArray.empty 0 a
def emptyC (c:Cl):Cl:=emptyA (atrOf c)
def blankC (b:Col):Cl:=emptyA ⟨0,0,b.k,b.n,0⟩
def padC:Cl:=mkCl 0 ByteArray.empty 3 ⟨0,0,0,0,0⟩
def pairB (a b:Cl):Bool:=decide (a.half = 1) && decide (b.half = 2) && decide (a = { b with half:=1 })
def mendL:List Cl→List Cl
 | [] => []
 | [c] => if c.half = 0 ∨ c.half = 3 then [c] else [emptyC c]
 | c :: d :: l => if c.half = 0 then c :: mendL (d :: l) else if pairB c d then c :: d :: mendL l else emptyC c :: mendL (d :: l)
theorem mendL_cons (c d:Cl) (l:List Cl):mendL (c :: d :: l) = if c.half = 0 then c :: mendL (d :: l) else if pairB c d then c :: d :: mendL l else emptyC c :: mendL (d :: l):=by rw [mendL]
theorem mendL_one (c:Cl):mendL [c] = if c.half = 0 ∨ c.half = 3 then [c] else [emptyC c]:=by rw [mendL]
theorem mendL_len:∀ l:List Cl,(mendL l).length = l.length
 | [] => rfl
 | [c] => by rw [mendL];split <;> rfl
 | c :: d :: l => by
   rw [mendL]
   have h1:=mendL_len (d :: l)
   have h2:=mendL_len l
   split
   · simp only [List.length_cons] at h1 ⊢;omega
   split
   · simp only [List.length_cons];omega
   · simp only [List.length_cons] at h1 ⊢;omega
theorem mendL_zero {c:Cl} (h:c.half = 0) (l:List Cl):mendL (c :: l) = c :: mendL l:=by
 match l with
 | [] => rw [mendL_one,if_pos (Or.inl h)];rfl
 | d :: l => rw [mendL,if_pos h]
theorem mendL_idem:∀ l:List Cl,mendL (mendL l) = mendL l
 | [] => rfl
 | [c] => by
   rw [mendL]
   split
   · next h => rw [mendL,if_pos h]
   · rw [mendL_zero rfl];rfl
 | c :: d :: l => by
   have h1:=mendL_idem (d :: l)
   have h2:=mendL_idem l
   rw [mendL]
   split
   · next h => rw [mendL_zero h,h1]
   split
   · next h hp => rw [mendL,if_neg h,if_pos hp,h2]
   · rw [mendL_zero rfl,h1]
def putL (l:List Cl) (x r:Int) (a:Atr):List Cl :=
 let o:=mendL l
 if widOf r = 1∧0 ≤ x∧x < o.length then mendL (o.set x.toNat (mkCl r ByteArray.empty 0 a))
 else if widOf r = 2∧0 ≤ x∧x + 1 < o.length then mendL ((o.set x.toNat (mkCl r ByteArray.empty 1 a)).set (x.toNat + 1) (mkCl r ByteArray.empty 2 a))
 else o
def closeL (l:List Cl):List Cl:=mendL ((mendL l).set (l.length - 1) padC)
def wipeL (b:Col) (x y:Int) (l:List Cl):List Cl:=l.mapIdx (fun i c => if x ≤ i∧(i:Int) < y then blankC b else c)
def eraseL (l:List Cl) (x y:Int) (b:Col):List Cl:=mendL (wipeL b x y (mendL l))
def insertL (l:List Cl) (x n:Int) (b:Col):List Cl :=
 let o:=mendL l
 if x < 0 ∨ (o.length:Int) ≤ x ∨ n < 1 then o
 else mendL ((o.take x.toNat ++ List.replicate n.toNat (blankC b) ++ o.drop x.toNat).take o.length)
def usedL (l:List Cl):Nat:=(l.reverse.dropWhile (fun c => decide (c.r = 0))).length
theorem putL_len (l:List Cl) (x r:Int) (a:Atr):(putL l x r a).length = l.length:=by
 unfold putL
 simp only []
 split
 · rw [mendL_len,List.length_set,mendL_len]
 split
 · rw [mendL_len,List.length_set,List.length_set,mendL_len]
 · rw [mendL_len]
theorem closeL_len (l:List Cl):(closeL l).length = l.length:=by unfold closeL;rw [mendL_len,List.length_set,mendL_len]
theorem eraseL_len (l:List Cl) (x y:Int) (b:Col):(eraseL l x y b).length = l.length:=by unfold eraseL wipeL;rw [mendL_len,List.length_mapIdx,mendL_len]
theorem insertL_len (l:List Cl) (x n:Int) (b:Col):(insertL l x n b).length = l.length:=by
 unfold insertL
 simp only []
 split
 · exact mendL_len l
 · rw [mendL_len,List.length_take]
   have:=mendL_len l
   simp only [List.length_append,List.length_take,List.length_replicate,List.length_drop]
   omega
structure Ro where
 cs:List Cl
 cont:Bool
structure Tl where
 k:Int
 a:Int
 n:Int
structure Pg where
 room:Nat
 hist:List Ro
 gone:Int
 scr:List Ro
 cols:Nat
 told:List Tl
def blankR (cols:Nat) (b:Col):Ro:=⟨List.replicate cols (blankC b),false⟩
def inP (g:Pg) (y:Int):Bool:=decide (0 ≤ y) && decide (y < g.scr.length)
def rowP (g:Pg) (y:Int) (f:List Cl→List Cl):Pg:=if inP g y then { g with scr:=g.scr.modify y.toNat (fun r => { r with cs:=f r.cs }) } else g
def contP (g:Pg) (y:Int) (b:Bool):Pg:=if inP g y then { g with scr:=g.scr.modify y.toNat (fun r => { r with cont:=b }) } else g
def tellP (g:Pg) (k a n:Int):Pg:={ g with told:=g.told ++ [⟨k,a,n⟩] }
def pushP (g:Pg) (r:Ro):Pg × Bool :=
 if g.room = 0 then ({ g with gone:=g.gone + 1 },true)
 else if g.hist.length = g.room then ({ g with hist:=g.hist.drop 1 ++ [r],gone:=g.gone + 1 },true)
 else ({ g with hist:=g.hist ++ [r] },false)
def slideUp (l:List Ro) (top bottom:Nat) (b:Ro):List Ro:=l.take top ++ ((l.drop (top + 1)).take (bottom - top) ++ (b :: l.drop (bottom + 1)))
def slideDn (l:List Ro) (top bottom:Nat) (b:Ro):List Ro:=l.take top ++ (b :: ((l.drop top).take (bottom - top) ++ l.drop (bottom + 1)))
def cutP (g:Pg) (top bottom:Nat) (b:Col):Pg :=
 let g1:=tellP (tellP g 1 (g.hist.length + top) 1) 0 (g.hist.length + bottom) 1
 let g2:={ g1 with scr:=slideUp g.scr top bottom (blankR g.cols b) }
 contP (contP g2 top false) (bottom + 1) false
def upP (g:Pg) (top bottom:Nat) (b:Col):Pg :=
 if 0 < top then cutP g top bottom b
 else
  let g1:=tellP g 0 (g.hist.length + bottom + 1) 1
  let p:=pushP g1 (g.scr.getD 0 ⟨[],false⟩)
  let g2:=if p.2 then tellP p.1 2 0 1 else p.1
  let g3:={ g2 with scr:=slideUp g.scr 0 bottom (blankR g.cols b) }
  contP g3 (bottom + 1) false
def iterP (f:Pg→Pg):Nat→Pg→Pg
 | 0,g => g
 | n + 1,g => f (iterP f n g)
def timesP (g:Pg) (top bottom n:Int) (f:Nat→Nat→Pg→Pg):Pg :=
 if inP g top && inP g bottom && decide (top ≤ bottom) then iterP (f top.toNat bottom.toNat) (min n.toNat (bottom - top + 1).toNat) g else g
def eraseP (g:Pg) (y x z:Int) (b:Col):Pg :=
 if inP g y then
  let g1:=rowP g y (fun l => eraseL l x z b)
  if x < g.cols∧(g.cols:Int) ≤ z then (if x ≤ 0 then contP (contP g1 (y + 1) false) y false else contP g1 (y + 1) false) else g1
 else g
theorem slideUp_len {l:List Ro} {top bottom:Nat} {b:Ro} (h:top ≤ bottom) (h2:bottom < l.length):(slideUp l top bottom b).length = l.length:=by
 unfold slideUp
 simp only [List.length_append,List.length_take,List.length_drop,List.length_cons]
 omega
theorem modify_append {α:Type} (a b:List α) (k:Nat) (f:α→α):(a ++ b).modify (a.length + k) f = a ++ b.modify k f:=by
 induction a with
 | nil => simp
 | cons x a ih => simp [Nat.succ_add,ih]
theorem contP_hist (g:Pg) (y:Int) (b:Bool):(contP g y b).hist = g.hist∧(contP g y b).gone = g.gone∧(contP g y b).told = g.told∧(contP g y b).cols = g.cols∧(contP g y b).room = g.room∧(contP g y b).scr.length = g.scr.length:=by
 unfold contP
 split
 · exact ⟨rfl,rfl,rfl,rfl,rfl,by simp⟩
 · exact ⟨rfl,rfl,rfl,rfl,rfl,rfl⟩
def isScal (r:Int):Bool:=decide (0 ≤ r) && decide (r ≤ 0x10ffff) && (decide (r < 0xd800) || decide (0xdfff < r))
def putB (r:Int):ByteArray :=
 if isScal r then
  (if r < 0x80 then ⟨#[r.toNat.toUInt8]⟩
  else if r < 0x800 then ⟨#[(192 + r / 64).toNat.toUInt8,(128 + r % 64).toNat.toUInt8]⟩
  else if r < 0x10000 then ⟨#[(224 + r / 4096).toNat.toUInt8,(128 + r / 64 % 64).toNat.toUInt8,(128 + r % 64).toNat.toUInt8]⟩
  else ⟨#[(240 + r / 262144).toNat.toUInt8,(128 + r / 4096 % 64).toNat.toUInt8,(128 + r / 64 % 64).toNat.toUInt8,(128 + r % 64).toNat.toUInt8]⟩)
 else ByteArray.empty
def withMore (m:ByteArray) (c:Cl):Cl:={ c with more:=m }
def markL (l:List Cl) (x r:Int):List Cl :=
 let o:=mendL l
 match o[x.toNat]? with
 | none => o
 | some c =>
   if x < 0 ∨ c.r = 0 ∨ widOf r ≠ 0 ∨ 32 < (c.more ++ putB r).size then o
   else
    let m:=c.more ++ putB r
    let o1:=if c.half = 1 then o.modify (x.toNat + 1) (withMore m) else if c.half = 2 then o.modify (x.toNat - 1) (withMore m) else o
    mendL (o1.modify x.toNat (withMore m))
theorem markL_len (l:List Cl) (x r:Int):(markL l x r).length = l.length:=by
 unfold markL
 simp only []
 split
 · exact mendL_len l
 · split
   · exact mendL_len l
   · rw [mendL_len,List.length_modify]
     split
     · rw [List.length_modify,mendL_len]
     split
     · rw [List.length_modify,mendL_len]
     · exact mendL_len l
def backOf (a:Atr):Col:=⟨a.bk,a.bn⟩
theorem mem_modify {α:Type} {f:α→α} {y:α}:∀ {l:List α} {i:Nat},y ∈ l.modify i f→y ∈ l ∨ ∃ x ∈ l,y = f x
 | [],i,h => by simp at h
 | x :: l,0,h => by
   rw [List.modify_zero_cons] at h
   rcases List.mem_cons.1 h with rfl | h
   · exact .inr ⟨x,by simp,rfl⟩
   · exact .inl (by simp [h])
 | x :: l,i + 1,h => by
   rw [List.modify_succ_cons] at h
   rcases List.mem_cons.1 h with rfl | h
   · exact .inl (by simp)
   · rcases mem_modify h with h | ⟨z,hz,e⟩
     · exact .inl (by simp [h])
     · exact .inr ⟨z,by simp [hz],e⟩
structure Dk where
 n:Int
 need:Int
 hv:Int
 lo:Int
 hi:Int
deriving DecidableEq
def leadD (c:Int):Dk :=
 if c < 224 then ⟨c % 32,1,1,128,191⟩
 else if c < 240 then ⟨c % 16,2,1,if c = 224 then 160 else 128,if c = 237 then 159 else 191⟩
 else ⟨c % 8,3,1,if c = 240 then 144 else 128,if c = 244 then 143 else 191⟩
def stepD8 (d:Dk) (c:Int):Option Int × Dk :=
 if d.need = 0 then (if c < 128 then (some c,d) else (none,leadD c))
 else if d.need = 1 then (some (64 * d.n + c % 64),⟨64 * d.n + c % 64,0,0,128,191⟩)
 else (none,⟨64 * d.n + c % 64,d.need - 1,d.hv + 1,128,191⟩)
def okD (d:Dk) (c:Int):Prop :=
 (d.need = 0∧d.hv = 0∧(0 ≤ c∧c < 128 ∨ 194 ≤ c∧c ≤ 244)) ∨ (1 ≤ d.need∧d.need ≤ 3∧1 ≤ d.hv∧d.hv ≤ 3∧128 ≤ d.lo∧d.lo ≤ c∧c ≤ d.hi∧d.hi ≤ 191∧0 ≤ d.n∧d.n < 32768)
def runD:Dk→List Int→List Int × Dk
 | d,[] => ([],d)
 | d,c :: cs => ((stepD8 d c).1.toList ++ (runD (stepD8 d c).2 cs).1,(runD (stepD8 d c).2 cs).2)
def okRun:Dk→List Int→Prop
 | _,[] => True
 | d,c :: cs => okD d c∧okRun (stepD8 d c).2 cs
theorem runD_append (d:Dk) (a b:List Int):runD d (a ++ b) = ((runD d a).1 ++ (runD (runD d a).2 b).1,(runD (runD d a).2 b).2):=by
 induction a generalizing d with
 | nil => simp [runD]
 | cons c a ih => simp [runD,ih]
theorem okRun_append (d:Dk) (a b:List Int) (ha:okRun d a) (hb:okRun (runD d a).2 b):okRun d (a ++ b):=by
 induction a generalizing d with
 | nil => exact hb
 | cons c a ih => exact ⟨ha.1,ih _ ha.2 hb⟩
theorem okRun_at {d:Dk} {l:List Int} (h:okRun d l) {i:Nat} (hi:i < l.length):okD (runD d (l.take i)).2 (l[i]'hi):=by
 induction l generalizing d i with
 | nil => simp at hi
 | cons c l ih =>
   cases i with
   | zero => exact h.1
   | succ i => exact ih h.2 (by simpa using hi)
theorem runD_take_succ (d:Dk) (l:List Int) {i:Nat} (hi:i < l.length) :
 runD d (l.take (i + 1)) = ((runD d (l.take i)).1 ++ (stepD8 (runD d (l.take i)).2 l[i]).1.toList,(stepD8 (runD d (l.take i)).2 l[i]).2):=by
 rw [List.take_succ_eq_append_getElem hi,runD_append]
 simp [runD]
def bytesR (r:Int):List Int :=
 if r < 128 then [r]
 else if r < 2048 then [192 + r / 64,128 + r % 64]
 else if r < 65536 then [224 + r / 4096,128 + r / 64 % 64,128 + r % 64]
 else [240 + r / 262144,128 + r / 4096 % 64,128 + r / 64 % 64,128 + r % 64]
theorem bytesR_put (r:Int) (h:isScal r = true):putB r = strOfNums (bytesR r):=by
 unfold putB bytesR strOfNums
 rw [h,if_pos rfl]
 repeat' split
 all_goals first | rfl | omega
theorem bytesR_one (r:Int) (h:isScal r = true) (d:Dk) (hd:d.need = 0∧d.hv = 0) :
 okRun d (bytesR r)∧(runD d (bytesR r)).1 = [r]∧(runD d (bytesR r)).2.need = 0∧(runD d (bytesR r)).2.hv = 0:=by
 obtain ⟨n,need,hv,lo,hi⟩:=d
 obtain ⟨h1,h2⟩:=hd
 simp only at h1 h2
 subst h1 h2
 have hr:0 ≤ r∧r ≤ 1114111∧(r < 55296 ∨ 57343 < r):=by unfold isScal at h;simp at h;omega
 unfold bytesR
 by_cases hA:r < 128
 · rw [if_pos hA]
   simp [okRun,okD,runD,stepD8,hA]
   omega
 rw [if_neg hA]
 by_cases hB:r < 2048
 · rw [if_pos hB]
   have e1:¬ 192 + r / 64 < 128:=by omega
   have e2:192 + r / 64 < 224:=by omega
   simp only [okRun,okD,runD,stepD8,leadD,if_pos,e1,e2,if_false,if_true,Option.toList,List.nil_append,and_true]
   simp
   omega
 rw [if_neg hB]
 by_cases hC:r < 65536
 · rw [if_pos hC]
   have e1:¬ 224 + r / 4096 < 128:=by omega
   have e2:¬ 224 + r / 4096 < 224:=by omega
   have e3:224 + r / 4096 < 240:=by omega
   simp only [okRun,okD,runD,stepD8,leadD,if_pos,e1,e2,e3,if_false,if_true,Option.toList,List.nil_append,and_true]
   simp
   refine ⟨⟨by omega,?_,by omega⟩,by omega⟩
   split <;> split <;> omega
 rw [if_neg hC]
 have e1:¬ 240 + r / 262144 < 128:=by omega
 have e2:¬ 240 + r / 262144 < 224:=by omega
 have e3:¬ 240 + r / 262144 < 240:=by omega
 simp only [okRun,okD,runD,stepD8,leadD,if_pos,e1,e2,e3,if_false,if_true,Option.toList,List.nil_append,and_true]
 simp
 refine ⟨⟨by omega,?_,by omega,by omega⟩,by omega⟩
 split <;> split <;> omega
theorem bytesR_all (l:List Int) (h:∀ r ∈ l,isScal r = true) (d:Dk) (hd:d.need = 0∧d.hv = 0) :
 okRun d (l.flatMap bytesR)∧(runD d (l.flatMap bytesR)).1 = l∧(runD d (l.flatMap bytesR)).2.need = 0∧(runD d (l.flatMap bytesR)).2.hv = 0:=by
 induction l generalizing d with
 | nil => exact ⟨trivial,rfl,hd⟩
 | cons r l ih =>
   obtain ⟨h1,h2,h3⟩:=bytesR_one r (h r (by simp)) d hd
   obtain ⟨i1,i2,i3⟩:=ih (fun x hx => h x (by simp [hx])) (runD d (bytesR r)).2 h3
   rw [List.flatMap_cons,runD_append]
   exact ⟨okRun_append _ _ _ h1 i1,by rw [h2,i2];rfl,i3⟩
def sizeB (c:Int):Int:=if c < 128 then 1 else if c < 194 ∨ 244 < c then 0 else if c < 224 then 2 else if c < 240 then 3 else 4
def beginD (d:Dk) (c:Int):List Int × Dk:=if sizeB c = 0 then ([65533],d) else if sizeB c = 1 then ([c],d) else ([],leadD c)
def wipeD (d:Dk):Dk:={ d with need:=0,hv:=0 }
def stepDk (d:Dk) (c:Int):List Int × Dk :=
 if d.need = 0 then beginD d c
 else if c < d.lo ∨ d.hi < c then (65533 :: (beginD (wipeD d) c).1,(beginD (wipeD d) c).2)
 else if d.need = 1 then ([64 * d.n + c % 64],⟨64 * d.n + c % 64,0,0,128,191⟩)
 else ([],⟨64 * d.n + c % 64,d.need - 1,d.hv + 1,128,191⟩)
def endD (d:Dk):List Int × Dk:=if d.hv = 0 then ([],d) else ([65533],⟨0,0,0,0,0⟩)
structure DkOk (d:Dk):Prop where
 need:d.need = 0 ∨ d.need = 1 ∨ d.need = 2 ∨ d.need = 3
 hv:0 ≤ d.hv∧d.hv + d.need ≤ 4
 n:d.need = 0 ∨ (0 ≤ d.n∧(d.need = 1→d.n < 32768)∧(d.need = 2→d.n < 512)∧(d.need = 3→d.n < 8))
 b:0 ≤ d.lo∧d.lo ≤ 255∧0 ≤ d.hi∧d.hi ≤ 255
structure Ev where
 kind:Int
 r:Int
 byte:Int
 pre:Int
 nums:List (List Int)
 inter:List Int
 text:List Int
 cut:Bool
def evE:Ev:=⟨0,0,0,0,[],[],[],false⟩
structure Pz where
 pre:Int
 head:List Int
 inter:List Int
 text:List Int
 last:Int
 wrong:Bool
 cut:Bool
 most:Int
 state:Int
 dec:Dk
def newPz (most:Int):Pz:=⟨0,[],[],[],0,false,false,most,0,⟨0,0,0,0,0⟩⟩
def spoilP (p:Pz):Pz:={ p with pre:=0,head:=[],inter:=[],text:=[],last:=0,wrong:=true,cut:=false }
def enterP (p:Pz) (s:Int):Pz:={ p with pre:=0,head:=[],inter:=[],text:=[],last:=0,wrong:=false,cut:=false,state:=s }
def interP (p:Pz) (c:Int):Pz:=if p.wrong then p else { p with inter:=p.inter ++ [c] }
def betweenP (p:Pz) (c:Int):Pz:=interP (if p.inter.length = 2 then spoilP p else p) c
def numberP (p:Pz) (c:Int):Pz :=
 if p.wrong then p
 else if 60 ≤ c∧p.pre = 0∧p.head.length = 0∧p.inter.length = 0 then { p with pre:=c }
 else if 60 ≤ c ∨ 0 < p.inter.length ∨ p.head.length = 256 then spoilP p
 else { p with head:=p.head ++ [c] }
def putPz (p:Pz) (c:Int):Pz:=if p.most ≤ p.text.length then { p with cut:=true } else { p with text:=p.text ++ [c] }
def partsN (sep:Int):Nat→List Int→List (List Int)
 | 0,_ => []
 | n + 1,s => if sep ∈ s then s.takeWhile (· ≠ sep) :: partsN sep n ((s.dropWhile (· ≠ sep)).drop 1) else [s]
def valN (s:List Int):Int:=if s.length = 0 then -1 else s.foldl (fun n c => min (n * 10 + (c - 48)) 65535) 0
def numsN (s:List Int):List (List Int):=(partsN 59 32 s).map (fun g => (partsN 58 8 g).map valN)
def wholeP (p:Pz) (kind last:Int):Ev:=⟨kind,0,last,p.pre,numsN p.head,p.inter,p.text,p.cut⟩
def endsP (p:Pz):List Ev :=
 if p.state = 4 then [{ evE with kind:=4,text:=p.text,cut:=p.cut }]
 else if p.state = 3∧p.last ≠ 0∧p.wrong = false then [wholeP p 5 p.last]
 else []
def escE (p:Pz) (c:Int):List Ev:=if p.wrong then [] else [{ evE with kind:=2,byte:=c,inter:=p.inter }]
def finalP (p:Pz) (c:Int):Pz × List Ev :=
 if p.inter.length = 0∧p.wrong = false∧c = 91 then (enterP p 2,[])
 else if p.inter.length = 0∧p.wrong = false∧c = 93 then (enterP p 4,[])
 else if p.inter.length = 0∧p.wrong = false∧c = 80 then (enterP p 3,[])
 else if p.inter.length = 0∧p.wrong = false∧(c = 88 ∨ c = 94 ∨ c = 95) then (enterP p 5,[])
 else (enterP p 0,escE p c)
def execE (c:Int):Ev:={ evE with kind:=1,byte:=c }
def print1 (p:Pz) (r:Int):Pz × List Ev :=
 if r < 32 then (p,[execE r]) else if r = 127 then (p,[]) else if 128 ≤ r∧r < 160 then finalP p (r - 64) else (p,[{ evE with r:=r }])
def printsP:Pz→List Int→Pz × List Ev
 | p,[] => (p,[])
 | p,r :: l => ((printsP (print1 p r).1 l).1,(print1 p r).2 ++ (printsP (print1 p r).1 l).2)
def inEscapeP (p:Pz) (c:Int):Pz × List Ev:=if c < 48 then (betweenP p c,[]) else finalP p c
def csiE (p:Pz) (c:Int):List Ev:=if p.wrong then [] else [wholeP p 3 c]
def inSeqP (p:Pz) (c:Int):Pz × List Ev :=
 if c < 48 then (betweenP p c,[]) else if c < 64 then (numberP p c,[]) else if p.state = 3 then ({ p with last:=c },[]) else (enterP p 0,csiE p c)
def inStringP (p:Pz) (c:Int):Pz × List Ev :=
 if p.state = 3∧p.wrong = false then (putPz p c,[])
 else if p.state ≠ 4 then (p,[])
 else if c = 7 then (enterP p 0,endsP p)
 else if 32 ≤ c∧c ≠ 127 then (putPz p c,[])
 else (p,[])
def decP (p:Pz) (c:Int):Pz × List Ev:=printsP { p with dec:=(stepDk p.dec c).2 } (stepDk p.dec c).1
def doneP (p:Pz):Pz × List Ev:=printsP { p with dec:=(endD p.dec).2 } (endD p.dec).1
def inHeadP (p:Pz) (c:Int):Pz × List Ev :=
 if 128 ≤ c then decP (enterP p 0) c
 else if c = 127 ∨ (c < 32∧p.state = 3) then (p,[])
 else if c < 32 then (p,[execE c])
 else if p.state = 1 then inEscapeP p c
 else inSeqP p c
def stepPz (p:Pz) (c:Int):Pz × List Ev :=
 if c = 24 ∨ c = 26 then (enterP (doneP p).1 0,(doneP p).2 ++ [execE c])
 else if c = 27 then (enterP (doneP p).1 1,(doneP p).2 ++ endsP (doneP p).1)
 else if p.state = 0 then decP p c
 else if p.state = 4 ∨ p.state = 5 ∨ (p.state = 3∧p.last ≠ 0) then inStringP p c
 else inHeadP p c
structure PzOk (p:Pz):Prop where
 pre:0 ≤ p.pre∧p.pre ≤ 255
 head:p.head.length ≤ 256∧∀ c ∈ p.head,48 ≤ c∧c < 60
 inter:p.inter.length ≤ 2∧∀ c ∈ p.inter,0 ≤ c∧c ≤ 255
 text:(p.text.length:Int) ≤ p.most∧∀ c ∈ p.text,0 ≤ c∧c ≤ 255
 last:0 ≤ p.last∧p.last ≤ 255
 most:1 ≤ p.most∧p.most ≤ 65536
 state:0 ≤ p.state∧p.state ≤ 5
 dec:DkOk p.dec
theorem DkOk.zero:DkOk ⟨0,0,0,0,0⟩:=⟨.inl rfl,by simp,.inl rfl,by simp⟩
theorem DkOk.wipe {d:Dk} (h:DkOk d):DkOk (wipeD d):=⟨.inl rfl,by simp [wipeD],.inl rfl,h.b⟩
theorem DkOk.begin {d:Dk} {c:Int} (h:DkOk d) (hc:0 ≤ c∧c ≤ 255):DkOk (beginD d c).2:=by
 unfold beginD
 split
 · exact h
 split
 · exact h
 · rename_i h0 h1
   unfold sizeB at h0 h1
   show DkOk (leadD c)
   unfold leadD
   have:194 ≤ c∧c ≤ 244:=by
    constructor
    · rcases Int.lt_or_le c 128 with h | h
      · exact absurd (if_pos h) h1
      · rcases Int.lt_or_le c 194 with h2 | h2
        · exact absurd (by rw [if_neg (by omega),if_pos (.inl h2)]) h0
        · exact h2
    · rcases Int.lt_or_le 244 c with h2 | h2
      · exact absurd (by rw [if_neg (by omega),if_pos (.inr h2)]) h0
      · exact h2
   split
   · exact ⟨by simp,by simp,.inr ⟨by simp;omega,by simp;omega,by simp,by simp⟩,by simp⟩
   split
   · exact ⟨by simp,by simp,.inr ⟨by simp;omega,by simp,by simp;omega,by simp⟩,by simp only [];split <;> split <;> omega⟩
   · exact ⟨by simp,by simp,.inr ⟨by simp;omega,by simp,by simp,by simp;omega⟩,by simp only [];split <;> split <;> omega⟩
theorem DkOk.step {d:Dk} {c:Int} (h:DkOk d) (hc:0 ≤ c∧c ≤ 255):DkOk (stepDk d c).2:=by
 unfold stepDk
 split
 · exact h.begin hc
 split
 · exact h.wipe.begin hc
 rename_i h0 h1
 obtain ⟨a1,a2,a3,a4⟩:=h
 split
 · exact ⟨.inl rfl,by simp,.inl rfl,by simp⟩
 · exact ⟨by simp only [];omega,by simp only [];omega,.inr ⟨by simp only [];omega,by simp only [];omega,by simp only [];omega,by simp only [];omega⟩,by simp⟩
theorem DkOk.ends {d:Dk} (h:DkOk d):DkOk (endD d).2:=by
 unfold endD
 split
 · exact h
 · exact DkOk.zero
theorem PzOk.spoil {p:Pz} (h:PzOk p):PzOk (spoilP p):=⟨by simp [spoilP],by simp [spoilP],by simp [spoilP],⟨by have:=h.most;simp [spoilP];omega,by simp [spoilP]⟩,by simp [spoilP],h.most,h.state,h.dec⟩
theorem PzOk.enter {p:Pz} (h:PzOk p) {s:Int} (hs:0 ≤ s∧s ≤ 5):PzOk (enterP p s):=⟨by simp [enterP],by simp [enterP],by simp [enterP],⟨by have:=h.most;simp [enterP];omega,by simp [enterP]⟩,by simp [enterP],h.most,hs,h.dec⟩
theorem mem_snoc {l:List Int} {x c:Int} {P:Int→Prop} (h:∀ c ∈ l,P c) (hx:P x) (hc:c ∈ l ++ [x]):P c:=by
 rcases List.mem_append.1 hc with h1 | h1
 · exact h c h1
 · rw [List.mem_singleton.1 h1];exact hx
theorem PzOk.between {p:Pz} (h:PzOk p) {c:Int} (hc:0 ≤ c∧c ≤ 255):PzOk (betweenP p c):=by
 unfold betweenP
 have key:∀ q:Pz,PzOk q→q.inter.length < 2 ∨ q.wrong = true→PzOk (interP q c):=fun q hq h2 => by
  unfold interP
  split
  · exact hq
  · rename_i hw
    have h3:q.inter.length < 2:=by rcases h2 with h2 | h2;exact h2;exact absurd h2 hw
    exact ⟨hq.pre,hq.head,⟨by simp;omega,fun x hx => mem_snoc hq.inter.2 hc hx⟩,hq.text,hq.last,hq.most,hq.state,hq.dec⟩
 split
 · exact key _ h.spoil (.inr rfl)
 · exact key _ h (.inl (by have:=h.inter.1;omega))
theorem PzOk.number {p:Pz} (h:PzOk p) {c:Int} (hc:48 ≤ c∧c < 64):PzOk (numberP p c):=by
 unfold numberP
 split
 · exact h
 split
 · exact ⟨by simp;omega,h.head,h.inter,h.text,h.last,h.most,h.state,h.dec⟩
 split
 · exact h.spoil
 · rename_i h1 h2 h3
   exact ⟨h.pre,⟨by have:=h.head.1;simp;omega,fun x hx => mem_snoc h.head.2 (by omega) hx⟩,h.inter,h.text,h.last,h.most,h.state,h.dec⟩
theorem PzOk.put {p:Pz} (h:PzOk p) {c:Int} (hc:0 ≤ c∧c ≤ 255):PzOk (putPz p c):=by
 unfold putPz
 split
 · exact ⟨h.pre,h.head,h.inter,h.text,h.last,h.most,h.state,h.dec⟩
 · exact ⟨h.pre,h.head,h.inter,⟨by simp;omega,fun x hx => mem_snoc h.text.2 hc hx⟩,h.last,h.most,h.state,h.dec⟩
theorem PzOk.final {p:Pz} (h:PzOk p) (c:Int):PzOk (finalP p c).1:=by
 unfold finalP
 split
 · exact h.enter (by omega)
 split
 · exact h.enter (by omega)
 split
 · exact h.enter (by omega)
 split
 · exact h.enter (by omega)
 · exact h.enter (by omega)
theorem PzOk.print1 {p:Pz} (h:PzOk p) (r:Int):PzOk (print1 p r).1:=by
 unfold Go.Proofs.YtaefcahblmopfaaGreatDoor.print1
 split
 · exact h
 split
 · exact h
 split
 · exact h.final _
 · exact h
theorem PzOk.prints {p:Pz} (h:PzOk p):∀ l:List Int,PzOk (printsP p l).1:=fun l => by
 induction l generalizing p with
 | nil => exact h
 | cons r l ih => exact ih (h.print1 r)
theorem PzOk.withDec {p:Pz} (h:PzOk p) {d:Dk} (hd:DkOk d):PzOk { p with dec:=d }:=⟨h.pre,h.head,h.inter,h.text,h.last,h.most,h.state,hd⟩
theorem PzOk.decode {p:Pz} (h:PzOk p) {c:Int} (hc:0 ≤ c∧c ≤ 255):PzOk (decP p c).1:=(h.withDec (h.dec.step hc)).prints _
theorem PzOk.done {p:Pz} (h:PzOk p):PzOk (doneP p).1:=(h.withDec h.dec.ends).prints _
theorem PzOk.inEscape {p:Pz} (h:PzOk p) {c:Int} (hc:0 ≤ c∧c ≤ 255):PzOk (inEscapeP p c).1:=by
 unfold inEscapeP
 split
 · exact h.between hc
 · exact h.final c
theorem PzOk.inSeq {p:Pz} (h:PzOk p) {c:Int} (hc:0 ≤ c∧c ≤ 255):PzOk (inSeqP p c).1:=by
 unfold inSeqP
 split
 · exact h.between hc
 split
 · exact h.number (by omega)
 split
 · exact ⟨h.pre,h.head,h.inter,h.text,hc,h.most,h.state,h.dec⟩
 · exact h.enter (by omega)
theorem PzOk.inString {p:Pz} (h:PzOk p) {c:Int} (hc:0 ≤ c∧c ≤ 255):PzOk (inStringP p c).1:=by
 unfold inStringP
 split
 · exact h.put hc
 split
 · exact h
 split
 · exact h.enter (by omega)
 split
 · exact h.put hc
 · exact h
theorem PzOk.inHead {p:Pz} (h:PzOk p) {c:Int} (hc:0 ≤ c∧c ≤ 255):PzOk (inHeadP p c).1:=by
 unfold inHeadP
 split
 · exact (h.enter (by omega)).decode hc
 split
 · exact h
 split
 · exact h
 split
 · exact h.inEscape hc
 · exact h.inSeq hc
theorem PzOk.step {p:Pz} (h:PzOk p) {c:Int} (hc:0 ≤ c∧c ≤ 255):PzOk (stepPz p c).1:=by
 unfold stepPz
 split
 · exact h.done.enter (by omega)
 split
 · exact h.done.enter (by omega)
 split
 · exact h.decode hc
 split
 · exact h.inString hc
 · exact h.inHead hc
structure Ch where
 g0:Int
 g1:Int
 g2:Int
 g3:Int
 use:Int
 once:Int
structure Pe where
 at_:Atr
 ch:Ch
 put:Bool
 wrap:Bool
 home:Bool
structure Sc where
 pg:Pg
 st:List Bool
 pen:Pe
 y:Int
 x:Int
 top:Int
 bot:Int
 sp:Pe
 sy:Int
 sx:Int
 has:Bool
 last:Int
def zeroA:Atr:=⟨0,0,0,0,0⟩
def firstCh:Ch:=⟨66,66,66,66,0,0⟩
def firstPe:Pe:=⟨zeroA,firstCh,false,true,false⟩
def zeroPe:Pe:=⟨zeroA,⟨0,0,0,0,0,0⟩,false,false,false⟩
def drawnT:List Int:=[0x25c6,0x2592,0x2409,0x240c,0x240d,0x240a,0xb0,0xb1,0x2424,0x240b,0x2518,0x2510,0x250c,0x2514,0x253c,0x23ba,0x23bb,0x2500,0x23bc,0x23bd,0x251c,0x2524,0x2534,0x252c,0x2502,0x2264,0x2265,0x3c0,0x2260,0xa3,0xb7]
def shownC (kind r:Int):Int :=
 if kind = 65∧r = 35 then 163 else if kind = 48∧r = 95 then 32 else if kind = 48∧96 ≤ r∧r ≤ 126 then drawnT.getD (r - 96).toNat 0 else r
def usedC (c:Ch):Int:=if c.once = 2 ∨ c.once = 3 then c.once else if 0 ≤ c.use∧c.use ≤ 3 then c.use else 0
def setC (c:Ch) (k:Int):Int:=if k = 0 then c.g0 else if k = 1 then c.g1 else if k = 2 then c.g2 else c.g3
def mapC (c:Ch) (r:Int):Int:=shownC (setC c (usedC c)) r
def onceC (c:Ch):Ch:={ c with once:=0 }
def nearI (n lo hi:Int):Int:=max lo (min n hi)
def backS (s:Sc):Col:=backOf s.pen.at_
def rowsS (s:Sc):Int:=s.pg.scr.length
def colsS (s:Sc):Int:=s.pg.cols
def inS (s:Sc):Int:=min s.x (colsS s - 1)
def feedS (s:Sc):Sc × Bool :=
 if s.y = s.bot then ({ s with x:=inS s,pg:=timesP s.pg s.top s.bot 1 (fun t b g => upP g t b (backS s)) },true)
 else if s.y < rowsS s - 1 then ({ s with x:=inS s,y:=s.y + 1 },true)
 else ({ s with x:=inS s },false)
def padS (s:Sc):Sc:=if s.x < colsS s then { s with pg:=rowP s.pg s.y closeL } else s
def onS (p:Sc × Bool):Sc:=if p.2 then { p.1 with x:=0,pg:=contP p.1.pg p.1.y true } else { p.1 with x:=0 }
def roomS (s:Sc) (w:Int):Sc :=
 if s.x + w ≤ colsS s then s
 else if s.pen.wrap = false then { s with x:=colsS s - w }
 else onS (feedS (padS s))
def shoveS (s:Sc) (w:Int):Sc:=if s.pen.put then { s with pg:=rowP s.pg s.y (fun l => insertL l s.x w (backS s)) } else s
def layS (s:Sc) (r w:Int):Sc:={ s with pg:=rowP s.pg s.y (fun l => putL l s.x r s.pen.at_),x:=s.x + w,last:=r }
def writeS (s:Sc) (r:Int):Sc :=
 if widOf r = 0 then { s with pg:=rowP s.pg s.y (fun l => markL l (s.x - 1) r) }
 else if widOf r < 1 then s
 else layS (shoveS (roomS s (widOf r)) (widOf r)) r (widOf r)
def printS (s:Sc) (r:Int):Sc:=writeS { s with pen:={ s.pen with ch:=onceC s.pen.ch } } (mapC s.pen.ch r)
def newS (rows cols lines:Nat) (st:List Bool):Sc:=⟨⟨lines,[],0,List.replicate rows (blankR cols ⟨0,0⟩),cols,[]⟩,st,firstPe,0,0,0,rows - 1,zeroPe,0,0,false,0⟩
def cleanN (n:Int):Int:=max (-1) (min n 65535)
def cleanG (g:List Int):List Int:=if g.length = 0 then [-1] else (g.take 8).map cleanN
def cleanL (l:List (List Int)):List (List Int):=if l.length = 0 then [[-1]] else (l.take 32).map cleanG
theorem cleanN_in (n:Int):-1 ≤ cleanN n∧cleanN n ≤ 65535:=by unfold cleanN;omega
def Clean (l:List (List Int)):Prop:=∀ g ∈ l,0 < g.length∧g.length ≤ 8∧∀ n ∈ g,-1 ≤ n∧n ≤ 65535
theorem cleanG_ok (g:List Int):0 < (cleanG g).length∧(cleanG g).length ≤ 8∧∀ n ∈ cleanG g,-1 ≤ n∧n ≤ 65535:=by
 unfold cleanG
 split
 · exact ⟨by decide,by decide,fun n hn => by rw [List.mem_singleton.1 hn];decide⟩
 · refine ⟨by simp;omega,by simp;omega,fun n hn => ?_⟩
   obtain ⟨m,-,rfl⟩:=List.mem_map.1 hn
   exact cleanN_in m
theorem cleanL_ok (l:List (List Int)):Clean (cleanL l):=by
 unfold cleanL
 split
 · intro g hg
   rw [List.mem_singleton.1 hg]
   exact ⟨by decide,by decide,fun n hn => by rw [List.mem_singleton.1 hn];decide⟩
 · intro g hg
   obtain ⟨m,-,rfl⟩:=List.mem_map.1 hg
   exact cleanG_ok m
theorem cleanL_len (l:List (List Int)):0 < (cleanL l).length∧(cleanL l).length ≤ 32:=by
 unfold cleanL
 split
 · exact ⟨by decide,by decide⟩
 · constructor
   · simp;omega
   · simp;omega
def hasF (n f:Int):Bool:=if n < 0 then false else decide (n / f % 2 = 1)
def withF (n f:Int) (on:Bool):Int:=if hasF n f = on then n else if on then n + f else n - f
def fstG (l:List (List Int)) (i:Nat):Int:=max 0 ((l.getD i []).headD 0)
def most0 (n:Int):Int:=max 0 n
def extG (l:List (List Int)) (i:Nat):Option Col × Nat :=
 let g:=l.getD i []
 if 1 < g.length then
  if g.getD 1 0 = 5∧g.length = 3∧g.getD 2 0 < 256 then (some ⟨1,most0 (g.getD 2 0)⟩,i + 1)
  else if g.getD 1 0 = 2∧(g.length = 5 ∨ g.length = 6)∧g.getD (g.length - 1) 0 < 256∧g.getD (g.length - 2) 0 < 256∧g.getD (g.length - 3) 0 < 256 then
   (some ⟨2,65536 * most0 (g.getD (g.length - 3) 0) + 256 * most0 (g.getD (g.length - 2) 0) + most0 (g.getD (g.length - 1) 0)⟩,i + 1)
  else (none,i + 1)
 else if fstG l (i + 1) = 5 then (if i + 2 < l.length∧fstG l (i + 2) < 256 then some ⟨1,fstG l (i + 2)⟩ else none,i + 3)
 else if fstG l (i + 1) = 2 then
  (if i + 4 < l.length∧fstG l (i + 2) < 256∧fstG l (i + 3) < 256∧fstG l (i + 4) < 256 then some ⟨2,65536 * fstG l (i + 2) + 256 * fstG l (i + 3) + fstG l (i + 4)⟩ else none,i + 5)
 else (none,i + 2)
def flagsA (f v:Int) (g:List Int):Int :=
 if v = 1 then withF f 1 true else if v = 2 then withF f 2 true else if v = 3 then withF f 4 true
 else if v = 4 then withF (withF f 256 (decide (1 < g.length) && decide (g.getD 1 0 = 2))) 8 (!(decide (1 < g.length) && decide (g.getD 1 0 = 2)) && !(decide (1 < g.length) && decide (g.getD 1 0 = 0)))
 else if v = 5 ∨ v = 6 then withF f 16 true else if v = 7 then withF f 32 true else if v = 8 then withF f 64 true else if v = 9 then withF f 128 true
 else if v = 21 then withF (withF f 8 false) 256 true else if v = 22 then withF (withF f 1 false) 2 false else if v = 23 then withF f 4 false
 else if v = 24 then withF (withF f 8 false) 256 false else if v = 25 then withF f 16 false else if v = 27 then withF f 32 false else if v = 28 then withF f 64 false
 else if v = 29 then withF f 128 false else if v = 53 then withF f 512 true else if v = 55 then withF f 512 false else f
def foreA (c:Col) (v:Int):Col:=if v = 39 then ⟨0,0⟩ else if 30 ≤ v∧v ≤ 37 then ⟨1,v - 30⟩ else if 90 ≤ v∧v ≤ 97 then ⟨1,v - 82⟩ else c
def backA (c:Col) (v:Int):Col:=if v = 49 then ⟨0,0⟩ else if 40 ≤ v∧v ≤ 47 then ⟨1,v - 40⟩ else if 100 ≤ v∧v ≤ 107 then ⟨1,v - 92⟩ else c
def simpA (a:Atr) (v:Int) (g:List Int):Atr :=
 if v = 0 then zeroA else ⟨(foreA ⟨a.fk,a.fn⟩ v).k,(foreA ⟨a.fk,a.fn⟩ v).n,(backA ⟨a.bk,a.bn⟩ v).k,(backA ⟨a.bk,a.bn⟩ v).n,flagsA a.fl v g⟩
def putA (a:Atr) (v:Int) (c:Option Col):Atr:=match c with
 | none => a
 | some c => if v = 38 then { a with fk:=c.k,fn:=c.n } else { a with bk:=c.k,bn:=c.n }
def stepA (a:Atr) (l:List (List Int)) (i:Nat):Atr × Nat :=
 if fstG l i = 38 ∨ fstG l i = 48 then (putA a (fstG l i) (extG l i).1,(extG l i).2) else (simpA a (fstG l i) (l.getD i []),i + 1)
theorem stepA_more (a:Atr) (l:List (List Int)) (i:Nat):i < (stepA a l i).2:=by
 unfold stepA
 split
 · unfold extG
   simp only []
   split
   · split
     · exact Nat.lt_succ_self _
     split
     · exact Nat.lt_succ_self _
     · exact Nat.lt_succ_self _
   split
   · show i < i + 3;omega
   split
   · show i < i + 5;omega
   · show i < i + 2;omega
 · exact Nat.lt_succ_self _
def turnN:Nat→Atr→List (List Int)→Nat→Atr
 | 0,a,_,_ => a
 | n + 1,a,l,i => if i < l.length then turnN n (stepA a l i).1 l (stepA a l i).2 else a
def turnA (a:Atr) (l:List (List Int)):Atr:=turnN l.length a l 0
theorem turnN_end (l:List (List Int)):∀ (n:Nat) (a:Atr) (i:Nat),l.length ≤ i→turnN n a l i = a
 | 0,_,_,_ => rfl
 | n + 1,a,i,h => by unfold turnN;rw [if_neg (by omega)]
theorem turnN_more (l:List (List Int)):∀ (n k:Nat) (a:Atr) (i:Nat),l.length ≤ n + i→turnN (n + k) a l i = turnN n a l i
 | 0,k,a,i,h => by rw [turnN_end l _ a i (by omega),turnN_end l _ a i (by omega)]
 | n + 1,k,a,i,h => by
   rw [show n + 1 + k = (n + k) + 1 by omega]
   unfold turnN
   split
   · exact turnN_more l n k _ _ (by have:=stepA_more a l i;omega)
   · rfl
theorem turnN_step (l:List (List Int)) (a:Atr) (i:Nat) (h:i < l.length):turnN l.length a l i = turnN l.length (stepA a l i).1 l (stepA a l i).2:=by
 obtain ⟨n,hn⟩:∃ n,l.length = n + 1:=⟨l.length - 1,by omega⟩
 have e:=turnN_more l n 1 (stepA a l i).1 (stepA a l i).2 (by have:=stepA_more a l i;omega)
 rw [hn,e]
 show (if i < l.length then turnN n (stepA a l i).1 l (stepA a l i).2 else a) = _
 rw [if_pos h]
def FlOk (f:Int):Prop:=0 ≤ f∧f < 1024
def moveS (s:Sc) (y x:Int):Sc :=
 if s.pen.home then { s with y:=s.top + nearI y 0 (s.bot - s.top),x:=nearI x 0 (colsS s - 1) }
 else { s with y:=nearI y 0 (rowsS s - 1),x:=nearI x 0 (colsS s - 1) }
def eraseS (s:Sc) (y x z:Int):Sc:={ s with pg:=eraseP s.pg y x z (backS s) }
def inX (s:Sc):Sc:={ s with x:=inS s }
def eraseCharsS (s:Sc) (n:Int):Sc:=eraseS (inX s) s.y (inS s) (inS s + nearI n 1 1000)
end Go.Proofs.YtaefcahblmopfaaGreatDoor
