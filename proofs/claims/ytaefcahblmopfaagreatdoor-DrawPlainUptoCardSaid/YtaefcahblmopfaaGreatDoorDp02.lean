/- Joined by a tool of this claim out of smaller texts. Conditions: as stated. -/
import Derived.Test.YtaefcahblmopfaaGreatDoorDp01
import Derived.Laws.ShiftsVarLaws
import Derived.Laws.AppendOwn
import Derived.Maps.AppendAt
import Derived.ProofKit
import Derived.Lib.SlicesCompact
import Derived.Laws.ResultCell
import Derived.Deep.MidRow
import Derived.Tactics
import Derived.Laws.IdiomCopy
import Derived.Deep.CutBlock
import Derived.Deep.DeepCutAuto
set_option linter.unusedVariables false
set_option linter.unusedSimpArgs false
set_option maxRecDepth 100000
open Go.Lib renaming hid → Hd
namespace Go.Proofs.YtaefcahblmopfaaGreatDoor
def WdsOf (ws:List Nat) (st:List Bool):Prop :=
 st.length ≤ 64 * ws.length∧∀ i n,ws[i]? = some n→n < 18446744073709551616∧∀ k,k < 64→n.testBit k = st.getD (64 * i + k) false
theorem wds_word {ws:List Nat} {st:List Bool} (h:WdsOf ws st) {x:Nat} (hx:x < st.length):∃ w,ws[x / 64]? = some w∧w < 18446744073709551616∧∀ k,k < 64→w.testBit k = st.getD (64 * (x / 64) + k) false:=by
 have hl:x / 64 < ws.length:=by have:=h.1;omega
 have he:ws[x / 64]? = some ws[x / 64]:=List.getElem?_eq_getElem hl
 exact ⟨_,he,h.2 _ _ he⟩
theorem getD_set {st:List Bool} {x y:Nat} {b:Bool} (hx:x < st.length):(st.set x b).getD y false = if x = y then b else st.getD y false:=by
 rw [List.getD_eq_getElem?_getD,List.getElem?_set]
 by_cases h:x = y
 · subst h
   rw [if_pos rfl,if_pos hx,if_pos rfl];rfl
 · rw [if_neg h,if_neg h,← List.getD_eq_getElem?_getD]
theorem or_lt {w k:Nat} (hw:w < 18446744073709551616) (hk:k < 64):w ||| 2 ^ k < 18446744073709551616 :=
 Nat.or_lt_two_pow (n:=64) hw (Nat.pow_lt_pow_right (by decide) hk)
theorem wds_set {ws:List Nat} {st:List Bool} (h:WdsOf ws st) {x w:Nat} (hx:x < st.length) (hw:ws[x / 64]? = some w):WdsOf (ws.set (x / 64) (w ||| 2 ^ (x % 64))) (st.set x true):=by
 have hl:x / 64 < ws.length:=(List.getElem?_eq_some_iff.1 hw).1
 refine ⟨by rw [List.length_set,List.length_set];exact h.1,fun i n hn => ?_⟩
 rw [List.getElem?_set] at hn
 by_cases hi:x / 64 = i
 · subst hi
   rw [if_pos rfl,if_pos hl,Option.some.injEq] at hn
   subst hn
   obtain ⟨h1,h2⟩:=h.2 _ _ hw
   refine ⟨or_lt h1 (by omega),fun k hk => ?_⟩
   rw [Nat.testBit_or,Nat.testBit_two_pow,h2 k hk,getD_set hx]
   by_cases hk2:x % 64 = k
   · rw [if_pos (by omega),decide_eq_true hk2,Bool.or_true]
   · rw [if_neg (by omega),decide_eq_false hk2,Bool.or_false]
 · rw [if_neg hi] at hn
   obtain ⟨h1,h2⟩:=h.2 _ _ hn
   refine ⟨h1,fun k hk => ?_⟩
   rw [h2 k hk,getD_set hx,if_neg (by omega)]
theorem wds_clear {ws:List Nat} {st:List Bool} (h:WdsOf ws st) {x w:Nat} (hx:x < st.length) (hw:ws[x / 64]? = some w):WdsOf (ws.set (x / 64) (w &&& (18446744073709551615 - 2 ^ (x % 64)))) (st.set x false):=by
 have hl:x / 64 < ws.length:=(List.getElem?_eq_some_iff.1 hw).1
 refine ⟨by rw [List.length_set,List.length_set];exact h.1,fun i n hn => ?_⟩
 rw [List.getElem?_set] at hn
 by_cases hi:x / 64 = i
 · subst hi
   rw [if_pos rfl,if_pos hl,Option.some.injEq] at hn
   subst hn
   obtain ⟨h1,h2⟩:=h.2 _ _ hw
   refine ⟨Nat.lt_of_le_of_lt Nat.and_le_left h1,fun k hk => ?_⟩
   have hp:2 ^ (x % 64) < 2 ^ 64:=Nat.pow_lt_pow_right (by decide) (by omega)
   have e:18446744073709551615 - 2 ^ (x % 64) = 2 ^ 64 - (2 ^ (x % 64) + 1):=by
    have:(2:Nat) ^ 64 = 18446744073709551616:=by decide
    omega
   rw [Nat.testBit_and,e,Nat.testBit_two_pow_sub_succ hp,Nat.testBit_two_pow,h2 k hk,getD_set hx,decide_eq_true hk,Bool.true_and]
   by_cases hk2:x % 64 = k
   · rw [if_pos (by omega),decide_eq_true hk2,Bool.not_true,Bool.and_false]
   · rw [if_neg (by omega),decide_eq_false hk2,Bool.not_false,Bool.and_true]
 · rw [if_neg hi] at hn
   obtain ⟨h1,h2⟩:=h.2 _ _ hn
   refine ⟨h1,fun k hk => ?_⟩
   rw [h2 k hk,getD_set hx,if_neg (by omega)]
theorem getD_out {st:List Bool} {y:Nat} (h:st.length ≤ y):st.getD y false = false:=by
 rw [List.getD_eq_getElem?_getD,List.getElem?_eq_none h];rfl
theorem wds_push {ws:List Nat} {st:List Bool} (h:WdsOf ws st):WdsOf (ws ++ [0]) st:=by
 refine ⟨by rw [List.length_append];have:=h.1;omega,fun i n hn => ?_⟩
 by_cases hi:i < ws.length
 · rw [List.getElem?_append_left hi] at hn
   exact h.2 i n hn
 · rw [List.getElem?_append_right (by omega)] at hn
   by_cases h0:i = ws.length
   · subst h0
     rw [Nat.sub_self] at hn
     obtain rfl:(0:Nat) = n:=by simpa using hn
     refine ⟨by decide,fun k hk => ?_⟩
     rw [getD_out (by have:=h.1;omega)]
     simp
   · rw [List.getElem?_eq_none (by simp;omega)] at hn
     cases hn
open Go.RowKit
section
variable {α:Type} (enc:α→List Value) (k:Nat)
def flat (l:List α):List Value:=l.flatMap enc
def GrAt (w:World) (A:Option Addr) (l:List α):Prop :=
 0 < l.length→∃ b off,A = some ⟨b,off,none⟩∧∀ i x,l[i]? = some x→∀ j v,(enc x)[j]? = some v→w.cell? ⟨b,off + i * k + j,none⟩ = some v
variable {enc k}
theorem flat_append (l m:List α):flat enc (l ++ m) = flat enc l ++ flat enc m:=by simp [flat]
theorem flat_len (hk:∀ x,(enc x).length = k) (l:List α):(flat enc l).length = l.length * k:=by
 induction l with
 | nil => simp [flat]
 | cons x l ih =>
   have e:flat enc (x :: l) = enc x ++ flat enc l:=rfl
   rw [e,List.length_append,ih,hk,List.length_cons,Nat.add_mul];omega
theorem flat_at (hk:∀ x,(enc x).length = k):∀ (l:List α) (i:Nat) (x:α),l[i]? = some x→∀ j,j < k→(flat enc l)[i * k + j]? = (enc x)[j]?
 | [],i,x,h,j,hj => by simp at h
 | y :: l,0,x,h,j,hj => by
   obtain rfl:y = x:=by simpa using h
   have e:flat enc (y :: l) = enc y ++ flat enc l:=rfl
   rw [e,Nat.zero_mul,Nat.zero_add,List.getElem?_append_left (by rw [hk];exact hj)]
 | y :: l,i + 1,x,h,j,hj => by
   have e:flat enc (y :: l) = enc y ++ flat enc l:=rfl
   rw [e,List.getElem?_append_right (by rw [hk,Nat.add_mul];omega),hk,show (i + 1) * k + j - k = i * k + j from by rw [Nat.add_mul];omega]
   exact flat_at hk l i x (by simpa using h) j hj
theorem flat_one (h1:∀ x,∀ v ∈ enc x,v.oneCell' = true) (l:List α):∀ u ∈ flat enc l,u.oneCell' = true:=by
 intro u hu
 simp only [flat,List.mem_flatMap] at hu
 obtain ⟨x,_,hx⟩:=hu
 exact h1 x u hx
theorem GrAt.below {w w1:World} {A:Option Addr} {l:List α} (h:GrAt enc k w A l) (hb:Below w.heap.size w w1):GrAt enc k w1 A l:=fun hl => by
 obtain ⟨b,off,e,hc⟩:=h hl
 exact ⟨b,off,e,fun i x hx j v hv => holda hb (hc i x hx j v hv)⟩
theorem GrAt.at_ {w:World} {A:Option Addr} {l:List α} (h:GrAt enc k w A l) {i:Nat} (hi:i < l.length):∃ b off x,A = some ⟨b,off,none⟩∧l[i]? = some x∧∀ j v,(enc x)[j]? = some v→w.cell? ⟨b,off + i * k + j,none⟩ = some v:=by
 obtain ⟨b,off,hA,hc⟩:=h (by omega)
 exact ⟨b,off,l[i],hA,List.getElem?_eq_getElem hi,hc i _ (List.getElem?_eq_getElem hi)⟩
theorem add_lit' (b off j:Nat):(⟨b,off,none⟩:Addr).add j = ⟨b,off + j,none⟩:=by
 unfold Addr.add
 by_cases hz:j = 0
 · rw [if_pos hz,hz];rfl
 · rw [if_neg hz]
theorem GrAt.news {w:World} {ad:Addr} {l:List α} (hk:∀ x,(enc x).length = k) (h:GrAt enc k w (some ad) l):∀ j u,(flat enc l)[j]? = some u→w.cell? (ad.add j) = some u:=by
 intro j u hj
 have hlt:=(List.getElem?_eq_some_iff.1 hj).1
 rw [flat_len hk] at hlt
 have hl0:0 < l.length:=by
  rcases Nat.eq_zero_or_pos l.length with h0 | h0
  · rw [h0] at hlt;omega
  · exact h0
 have hk0:0 < k:=by
  rcases Nat.eq_zero_or_pos k with h0 | h0
  · rw [h0] at hlt;omega
  · exact h0
 obtain ⟨b,off,e,hc⟩:=h hl0
 obtain rfl:ad = ⟨b,off,none⟩:=by simpa using e
 rw [add_lit']
 have hi:j / k < l.length:=Nat.div_lt_of_lt_mul (by rw [Nat.mul_comm];exact hlt)
 have hm:j % k < k:=Nat.mod_lt _ hk0
 have e1:j / k * k + j % k = j:=Nat.div_add_mod' j k
 have h1:=flat_at hk l (j / k) _ (List.getElem?_eq_getElem hi) (j % k) hm
 rw [e1,hj] at h1
 have h2:=hc (j / k) _ (List.getElem?_eq_getElem hi) (j % k) u h1.symm
 rw [show off + j = off + j / k * k + j % k from by omega]
 exact h2
end
structure Mod (X:List Nat) (w w':World):Prop where
 os:w'.os = w.os
 tape:w'.tape = w.tape
 output:w'.output = w.output
 size:w.heap.size ≤ w'.heap.size
 block:∀ k,k < w.heap.size→k ∉ X→w'.heap[k]? = w.heap[k]?
theorem Mod.refl (X:List Nat) (w:World):Mod X w w:=⟨rfl,rfl,rfl,Nat.le_refl _,fun _ _ _ => rfl⟩
theorem Mod.trans {X Y:List Nat} {a b c:World} (h:Mod X a b) (k:Mod Y b c) (hY:∀ g ∈ Y,g ∈ X ∨ a.heap.size ≤ g):Mod X a c :=
 ⟨k.os.trans h.os,k.tape.trans h.tape,k.output.trans h.output,Nat.le_trans h.size k.size,fun i hi hx => (k.block i (Nat.lt_of_lt_of_le hi h.size) (fun hy => by
  rcases hY i hy with h1 | h1
  · exact hx h1
  · omega)).trans (h.block i hi hx)⟩
theorem Mod.of_below {X:List Nat} {w w':World} (h:Below w.heap.size w w'):Mod X w w':=⟨h.os,h.tape,h.output,h.size,fun k hk _ => h.block k hk⟩
theorem Mod.below {X:List Nat} {w w':World} {B:Nat} (h:Mod X w w') (hX:∀ g ∈ X,B ≤ g) (hB:B ≤ w.heap.size):Below B w w':=⟨h.os,h.tape,h.output,h.size,fun k hk => h.block k (by omega) (fun hx => by have:=hX k hx;omega)⟩
theorem Mod.mono {X Y:List Nat} {w w':World} (h:Mod X w w') (hXY:∀ g ∈ X,g ∈ Y):Mod Y w w':=⟨h.os,h.tape,h.output,h.size,fun k hk hy => h.block k hk (fun hx => hy (hXY k hx))⟩
theorem Mod.then_below {X:List Nat} {a b c:World} (h:Mod X a b) (k:Below b.heap.size b c):Mod X a c:=h.trans (Mod.of_below (X:=[]) k) (fun g hg => by cases hg)
theorem Mod.of_grown {X:List Nat} {w w':World} {row:Option Nat} (h:w.grownBy w' row) (hX:∀ g,row = some g→g ∈ X):Mod X w w' :=
 ⟨h.os,h.tape,h.output,h.size,fun k hk hx => h.block k hk (fun e => hx (hX k e.symm))⟩
theorem Mod.setCell {X:List Nat} {w w1:World} (h:Mod X w w1) {a:Addr} (ha:a.block ∈ X ∨ w.heap.size ≤ a.block) (v:Value):Mod X w (w1.setCell a v) :=
 ⟨h.os,h.tape,h.output,by simpa [World.setCell] using h.size,fun k hk hx => by
  rw [Below.heap_setCell _ _ _ _ (fun e => by subst e;rcases ha with h1 | h1;exact hx h1;omega)]
  exact h.block k hk hx⟩
theorem Mod.cell {X:List Nat} {w w1:World} (h:Mod X w w1) {b o:Nat} {v:Value} (hb:b ∉ X) (hc:w.cell? ⟨b,o,none⟩ = some v):w1.cell? ⟨b,o,none⟩ = some v :=
 (World.cell?_of_block (w:=w) (h.block b (lt_of_cell hc) hb)).trans hc
theorem Mod.hold {X:List Nat} {w w1:World} (h:Mod X w w1) {b o:Nat} {v:Value} (hb:b ∉ X) (hc:w.cell? ⟨b,o,none⟩ = some v∧w.frozen? ⟨b,o,none⟩ = false):w1.cell? ⟨b,o,none⟩ = some v∧w1.frozen? ⟨b,o,none⟩ = false :=
 ⟨h.cell hb hc.1,(World.frozen?_of_block (w:=w) (h.block b (lt_of_cell hc.1) hb)).trans hc.2⟩
theorem owns_mod {X:List Nat} {w w':World} {base:Nat} {e:TypeId} {size:Nat} {v:Value} {n:Nat} {xs:List Value} (h:w.ownsRow base e size v n xs) (hm:Mod X w w') (hX:∀ g,v.ownBlock = some g→g ∉ X):w'.ownsRow base e size v n xs:=by
 obtain ⟨h1,h2 | ⟨g,cap,cur,rfl,e2,e3,e4⟩⟩:=h
 · exact ⟨h1,.inl h2⟩
 · refine ⟨h1,.inr ⟨g,cap,cur,rfl,e2,?_,e4⟩⟩
   rw [hm.block g ?_ (hX g rfl)];exact e3
   rcases Nat.lt_or_ge g w.heap.size with h | h
   · exact h
   · rw [Array.getElem?_eq_none h] at e3;cases e3
theorem gr_mod {α:Type} {enc:α→List Value} {k:Nat} {X:List Nat} {w w1:World} {b off:Nat} {l:List α} (h:GrAt enc k w (some ⟨b,off,none⟩) l) (hm:Mod X w w1) (hX:b ∉ X):GrAt enc k w1 (some ⟨b,off,none⟩) l:=fun hl => by
 obtain ⟨b',off',e,hc⟩:=h hl
 simp only [Option.some.injEq,Addr.mk.injEq] at e
 obtain ⟨rfl,rfl,-⟩:=e
 exact ⟨b,off,rfl,fun i x hx j v hv => hm.cell hX (hc i x hx j v hv)⟩
theorem owns_weaken {w:World} {base base':Nat} {e:TypeId} {size:Nat} {v:Value} {n:Nat} {xs:List Value} (h:w.ownsRow base e size v n xs) (hb:base' ≤ base):w.ownsRow base' e size v n xs:=by
 obtain ⟨h1,h2 | ⟨g,cap,cur,rfl,e2,e3⟩⟩:=h
 · exact ⟨h1,.inl h2⟩
 · exact ⟨h1,.inr ⟨g,cap,cur,rfl,Nat.le_trans hb e2,e3⟩⟩
theorem keep_none_f {w w':World} (hg:w.grownBy w' (Value.ownBlock (.slice none 0 0))) {b o:Nat} {v:Value} (h:w.cell? ⟨b,o,none⟩ = some v) (hf:w.frozen? ⟨b,o,none⟩ = false):w'.frozen? ⟨b,o,none⟩ = false :=
 (World.frozen?_of_block (w:=w) (hg.block b (lt_of_cell h) (fun e => by cases e))).trans hf
section
variable {P:Program}
theorem exec_append {w w':World} {ρ:Operand→Value} {o:Oper} (s x:Operand) (t:TypeId) (ho:o.op = .call { callee:=.builtin .append,args:=#[s,x],argTypes:=#[t,t] }) (vs vx v':Value) (hs:ρ s = vs) (hx:ρ x = vx)
 (hr:(Builtin.append_ #[t,t] o.type #[vs,vx]).run P w = .ok v' w'):(execOp ρ o).run P w = .ok (.value v') w':=by
 unfold execOp
 simp only [ho,resolve,invoke,builtin,Sem.run_bind,Sem.run_pure,Result.andThen_ok,List.map_toArray,List.map_cons,List.map_nil,hs,hx,hr]
end
def HoldAt (W:World) (b i:Nat) (v:Value):Prop:=W.cell? ⟨b,i,none⟩ = some v∧W.frozen? ⟨b,i,none⟩ = false
theorem heap_setCell_eq {w:World} {b o:Nat} {v:Value} {cs:Array Value} {e:TypeId} {fz:Nat × Nat} (h:w.heap[b]? = some (.cells cs e fz)):(w.setCell ⟨b,o,none⟩ v).heap[b]? = some (.cells (cs.setIfInBounds o v) e fz):=by
 unfold World.setCell
 simp only [Array.getElem?_modify,if_true,h]
 rfl
theorem set_two {W:World} {b:Nat} {u v u' v':Value} (h0:W.cell? ⟨b,0,none⟩ = some u∧W.frozen? ⟨b,0,none⟩ = false) (h1:W.cell? ⟨b,1,none⟩ = some v∧W.frozen? ⟨b,1,none⟩ = false) :
 (((W.setCell ⟨b,0,none⟩ u').setCell ⟨b,1,none⟩ v').cell? ⟨b,0,none⟩ = some u'∧((W.setCell ⟨b,0,none⟩ u').setCell ⟨b,1,none⟩ v').frozen? ⟨b,0,none⟩ = false)∧((W.setCell ⟨b,0,none⟩ u').setCell ⟨b,1,none⟩ v').cell? ⟨b,1,none⟩ = some v'∧((W.setCell ⟨b,0,none⟩ u').setCell ⟨b,1,none⟩ v').frozen? ⟨b,1,none⟩ = false:=by
 have k0:=set_self (u:=u') h0
 have k1:(W.setCell ⟨b,0,none⟩ u').cell? ⟨b,1,none⟩ = some v∧(W.setCell ⟨b,0,none⟩ u').frozen? ⟨b,1,none⟩ = false:=⟨(World.cell?_setCell_other W _ _ _ (fun e => by injection e with e1 e2;omega)).trans h1.1,by rw [World.frozen?_setCell];exact h1.2⟩
 exact ⟨⟨(World.cell?_setCell_other _ _ _ _ (fun e => by injection e with e1 e2;omega)).trans k0.1,by rw [World.frozen?_setCell];exact k0.2⟩,set_self k1⟩
theorem row_form {w:World} {base n:Nat} {e:TypeId} {v:Value} {xs:List Value} {size:Nat} (h:w.ownsRow base e size v n xs):∃ A c,v = .slice A n c:=by
 rcases h.2 with ⟨rfl,rfl⟩ | ⟨g,cap,cur,rfl,_⟩
 · exact ⟨none,0,rfl⟩
 · exact ⟨_,cap,rfl⟩
theorem whole_set {w:World} {b:Nat} {cs cs':List Value} {t:TypeId} (h:w.heap[b]? = some (.cells cs.toArray t (0,0))) (i:Nat) (v:Value) (hc:cs.set i v = cs'):(w.setCell ⟨b,i,none⟩ v).heap[b]? = some (.cells cs'.toArray t (0,0)):=by
 rw [heap_setCell_eq h,← hc]
 simp
theorem whole_at {w:World} {b:Nat} {cs:List Value} {t:TypeId} (h:w.heap[b]? = some (.cells cs.toArray t (0,0))) (i:Nat) (v:Value) (hc:cs[i]? = some v):HoldAt w b i v :=
 at_ h i v (by simpa using hc)
theorem heap_other {w:World} {b k i:Nat} {v:Value} (h:k ≠ b):(w.setCell ⟨b,i,none⟩ v).heap[k]? = w.heap[k]?:=Below.heap_setCell _ _ _ _ h
section
variable {P:Program}
end
end Go.Proofs.YtaefcahblmopfaaGreatDoor
namespace Go
variable {P:Program}
theorem wpList_valG {ops:Array Oper} {rest:List Oper} {op:Oper} {a:Act} {w:World} {Q:Exit→Act→World→Prop} (v:Value) (hw:Region.wanted op (yielded ops a.tmps) = true) (hr:(execOp a.eval op).run P w = .ok (.value v) w)
 (h:wpList P ops Q rest (a.put op.dst v) w):wpList P ops Q (op :: rest) a w:=by
 unfold wpList
 rw [if_pos hw]
 refine .inl ?_
 unfold Oper.wp
 rw [hr]
 exact h
theorem wpList_actG {ops:Array Oper} {rest:List Oper} {op:Oper} {a:Act} {w:World} {Q:Exit→Act→World→Prop} (v:Value) (w':World) (hw:Region.wanted op (yielded ops a.tmps) = true) (hr:(execOp a.eval op).run P w = .ok (.value v) w')
 (h:wpList P ops Q rest (a.put op.dst v) w'):wpList P ops Q (op :: rest) a w:=by
 unfold wpList
 rw [if_pos hw]
 refine .inl ?_
 unfold Oper.wp
 rw [hr]
 exact h
end Go
namespace Go.Proofs.YtaefcahblmopfaaGreatDoor
open Go.RowKit
def encPr (x:Int × Int):List Value:=[.int .i32 x.1,.int .i32 x.2]
theorem encPr_len:∀ x,(encPr x).length = 2:=fun _ => rfl
theorem flat_at2 {α:Type} {enc:α→List Value} {K:Nat} (hl:∀ x,(enc x).length = K):∀ (X:List α) (k:Nat) (x:α) (j:Nat),X[k]? = some x→j < K→(flat enc X)[k * K + j]? = (enc x)[j]?
 | [],k,x,j,h,_ => by simp at h
 | y :: X,0,x,j,h,hj => by
   obtain rfl:y = x:=by simpa using h
   have e:flat enc (y :: X) = enc y ++ flat enc X:=rfl
   rw [e,Nat.zero_mul,Nat.zero_add,List.getElem?_append_left (by rw [hl];exact hj)]
 | y :: X,k + 1,x,j,h,hj => by
   have e:flat enc (y :: X) = enc y ++ flat enc X:=rfl
   rw [e,List.getElem?_append_right (by rw [hl,Nat.add_mul];omega),hl,show (k + 1) * K + j - K = k * K + j by rw [Nat.add_mul];omega]
   exact flat_at2 hl X k x j (by simpa using h) hj
theorem gr_lit {α:Type} {enc:α→List Value} {K:Nat} (hl:∀ x,(enc x).length = K) {w:World} {g:Nat} {t:TypeId} {l:List α} (h:w.heap[g]? = some (.cells (flat enc l).toArray t (0,0))):GrAt enc K w (some ⟨g,0,none⟩) l:=fun _ => by
 refine ⟨g,0,rfl,fun i x hx j v hv => ?_⟩
 have hj:j < K:=by have:=(List.getElem?_eq_some_iff.1 hv).1;rwa [hl] at this
 have:=flat_at2 hl l i x j hx hj
 rw [Nat.zero_add]
 exact (whole_at h _ _ (this.trans hv)).1
set_option maxHeartbeats 800000 in
theorem wnone_any (r:Int) (w:World):Calls Tryz.prog 252 #[.int .i32 r] w fun e w' => e = .returned (.bool (noneW r))∧w = w':=by
 by_cases h1:r < 32
 · skip
   have hv:noneW r = true:=by simp [noneW];omega
   rw [hv]
   clear hv
   go_enter Tryz.func252,Tryz.ntmps252
   go_wp2
   go_ret
   exact ⟨rfl,rfl⟩
 by_cases h2:127 ≤ r
 · by_cases h3:r < 160
   · skip
     have hv:noneW r = true:=by simp [noneW];omega
     rw [hv]
     clear hv
     go_enter Tryz.func252,Tryz.ntmps252
     go_wp2
     go_ret
     exact ⟨rfl,rfl⟩
   · by_cases h4:55296 ≤ r
     · by_cases h5:r < 57344
       · skip
         have hv:noneW r = true:=by simp [noneW];omega
         rw [hv]
         clear hv
         go_enter Tryz.func252,Tryz.ntmps252
         go_wp2
         go_ret
         exact ⟨rfl,rfl⟩
       · by_cases h6:1114111 < r
         · skip
           have hv:noneW r = true:=by simp [noneW];omega
           rw [hv]
           clear hv
           go_enter Tryz.func252,Tryz.ntmps252
           go_wp2
           go_ret
           exact ⟨rfl,rfl⟩
         · skip
           have hv:noneW r = false:=by simp [noneW];omega
           rw [hv]
           clear hv
           go_enter Tryz.func252,Tryz.ntmps252
           go_wp2
           go_ret
           exact ⟨rfl,rfl⟩
     · have h6:¬ 1114111 < r:=by omega
       have hv:noneW r = false:=by simp [noneW];omega
       rw [hv]
       clear hv
       go_enter Tryz.func252,Tryz.ntmps252
       go_wp2
       go_ret
       exact ⟨rfl,rfl⟩
 · have h4:¬ 55296 ≤ r:=by omega
   have h6:¬ 1114111 < r:=by omega
   have hv:noneW r = false:=by simp [noneW];omega
   rw [hv]
   clear hv
   go_enter Tryz.func252,Tryz.ntmps252
   go_wp2
   go_ret
   exact ⟨rfl,rfl⟩
def TabPost (l:List (Int × Int)) (w:World) (e:Ending) (w':World):Prop:=∃ g,e = .returned (.slice (some ⟨g,0,none⟩) l.length l.length)∧GrAt encPr 2 w' (some ⟨g,0,none⟩) l∧Below w.heap.size w w'
set_option maxHeartbeats 1600000 in
theorem wmarks_any (w:World):Calls Tryz.prog 254 #[] w (TabPost marksT w):=by
 go_enter Tryz.func254,Tryz.ntmps254
 go_wp2
 go_ret
 exact ⟨w.heap.size,rfl,gr_lit encPr_len (l:=marksT) (hp_new rfl),below_allocs (Below.refl _ _) _⟩
set_option maxHeartbeats 1600000 in
theorem wwides_any (w:World):Calls Tryz.prog 255 #[] w (TabPost widesT w):=by
 go_enter Tryz.func255,Tryz.ntmps255
 go_wp2
 go_ret
 exact ⟨w.heap.size,rfl,gr_lit encPr_len (l:=widesT) (hp_new rfl),below_allocs (Below.refl _ _) _⟩
def PrPost (r:Int) (x:Int × Int) (w:World) (e:Ending) (w':World):Prop:=e = .returned (.bool (decide (x.1 ≤ r) && decide (r ≤ x.2)))∧Below w.heap.size w w'
set_option maxHeartbeats 800000 in
theorem among1_any (r:Int) (g:Nat) (x:Int × Int) (w:World) (hg:w.cell? ⟨g,0,none⟩ = some (.int .i32 r)):Calls Tryz.prog 329 #[.agg #[.int .i32 x.1,.int .i32 x.2],.pointer (some ⟨g,0,none⟩)] w (PrPost r x w):=by
 have hgl:=lt_of_cell hg
 by_cases h1:x.1 ≤ r <;> by_cases h2:r ≤ x.2
 all_goals
  go_enter Tryz.func329,Tryz.ntmps329
  go_wp2
  go_ret
  exact ⟨by simp [h1,h2],below_allocs (Below.refl _ _) _⟩
def inPr (r:Int) (x:Int × Int):Bool:=decide (x.1 ≤ r) && decide (r ≤ x.2)
theorem among_take {l:List (Int × Int)} {r:Int} {k:Nat} {x:Int × Int} (hx:l[k]? = some x):amongB (l.take (k + 1)) r = (amongB (l.take k) r || inPr r x):=by
 have hk:=List.getElem?_eq_some_iff.1 hx
 rw [List.take_succ_eq_append_getElem hk.1,hk.2]
 unfold amongB inPr
 simp
theorem among_of_take {l:List (Int × Int)} {r:Int} {k:Nat} (h:amongB (l.take k) r = true):amongB l r = true:=by
 unfold amongB at h ⊢
 rw [List.any_eq_true] at h ⊢
 obtain ⟨x,hx,h⟩:=h
 exact ⟨x,List.mem_of_mem_take hx,h⟩
def IxPost (l:List (Int × Int)) (r:Int) (w:World) (e:Ending) (w':World):Prop:=∃ n:Int,e = .returned (.int .i64 n)∧decide (0 ≤ n) = amongB l r∧Below w.heap.size w w'
set_option maxHeartbeats 1600000 in
theorem indexPr_any (r:Int) (g a:Nat) (l:List (Int × Int)) (w:World) (hg:w.cell? ⟨g,0,none⟩ = some (.int .i32 r)) (hl:GrAt encPr 2 w (some ⟨a,0,none⟩) l) (hz:l.length ≤ 1000) :
 Calls Tryz.prog 375 #[.slice (some ⟨a,0,none⟩) l.length l.length,.func (.func 329) #[] #[.pointer (some ⟨g,0,none⟩)]] w (IxPost l r w):=by
 have HG:=Hd hg
 have HL:=Hd hl
 clear hg hl
 go_enter Tryz.func375,Tryz.ntmps375
 go_wp2_with fail
 go_loopw [8] (fun s8 wr => ∃ k:Nat,k ≤ l.length∧s8 = .int .i64 k∧amongB (l.take k) r = false∧Below w.heap.size w wr) (fun s8 _ => l.length - (intOf s8).toNat)
 case atStart => exact ⟨0,Nat.zero_le _,rfl,rfl,Below.refl _ _⟩
 case round =>
  obtain ⟨k,hk,rfl,hno,hb⟩:=hrel
  have HNO:=Hd hno
  have HB:=Hd hb
  clear hno hb
  by_cases hlt:k < l.length
  rotate_left
  · have hge:¬ (k:Int) < (l.length:Int):=by omega
    go_wp2
    go_ret
    refine ⟨-1,rfl,?_,HB.out⟩
    have:=HNO.out
    rw [List.take_of_length_le (by omega)] at this
    rw [this];rfl
  · have hltI:(k:Int) < (l.length:Int):=by omega
    obtain ⟨b,off,x,hA,hx,cx⟩:=(HL.out.below HB.out).at_ hlt
    simp only [Option.some.injEq,Addr.mk.injEq,and_true] at hA
    obtain ⟨rfl,rfl⟩:=hA
    have c0:wr.cell? ⟨a,k * 2,none⟩ = some (.int .i32 x.1):=by have:=cx 0 _ rfl;rwa [Nat.zero_add] at this
    have c1:wr.cell? ⟨a,k * 2 + 1,none⟩ = some (.int .i32 x.2):=by have:=cx 1 _ rfl;rwa [Nat.zero_add] at this
    have HT:=Hd (among_take (r:=r) hx)
    have HC:=Hd (among1_any r g x wr (holda HB.out HG.out))
    have HO:=Hd (fun h => among_of_take (l:=l) (r:=r) (k:=k + 1) h)
    cases hp:inPr r x with
    | false =>
      have HP:=Hd hp
      have HC2:Hid (Calls Tryz.prog 329 #[.agg #[.int .i32 x.1,.int .i32 x.2],.pointer (some ⟨g,0,none⟩)] wr fun e w' => e = .returned (.bool false)∧Below wr.heap.size wr w'):=Hd (HC.out.mono fun e w' ⟨he,hb⟩ => ⟨by rw [he];unfold inPr at hp;rw [hp],hb⟩)
      clear hx cx hp
      go_wp2_with (go_at_call 329;refine HC2.out.mono ?_;rintro e w1 ⟨rfl,hb1⟩)
      go_roundw
      case rel => exact ⟨k + 1,by omega,by go_num,by rw [HT.out,HNO.out,HP.out];rfl,below_tail HB.out hb1⟩
      case measure => simp [intOf];omega
    | true =>
      have HP:=Hd hp
      have HC2:Hid (Calls Tryz.prog 329 #[.agg #[.int .i32 x.1,.int .i32 x.2],.pointer (some ⟨g,0,none⟩)] wr fun e w' => e = .returned (.bool true)∧Below wr.heap.size wr w'):=Hd (HC.out.mono fun e w' ⟨he,hb⟩ => ⟨by rw [he];unfold inPr at hp;rw [hp],hb⟩)
      clear hx cx hp
      go_wp2_with (go_at_call 329;refine HC2.out.mono ?_;rintro e w1 ⟨rfl,hb1⟩)
      go_ret
      refine ⟨k,rfl,?_,below_tail HB.out hb1⟩
      rw [HO.out (by rw [HT.out,HP.out];simp)]
      simp
def AmPost (l:List (Int × Int)) (r:Int) (w:World) (e:Ending) (w':World):Prop:=e = .returned (.bool (amongB l r))∧Below w.heap.size w w'
theorem containsPr_any (r:Int) (g a:Nat) (l:List (Int × Int)) (w:World) (hg:w.cell? ⟨g,0,none⟩ = some (.int .i32 r)) (hl:GrAt encPr 2 w (some ⟨a,0,none⟩) l) (hz:l.length ≤ 1000) :
 Calls Tryz.prog 328 #[.slice (some ⟨a,0,none⟩) l.length l.length,.func (.func 329) #[] #[.pointer (some ⟨g,0,none⟩)]] w (AmPost l r w):=by
 have HI:=Hd (indexPr_any r g a l w hg hl hz)
 clear hg hl
 go_enter Tryz.func328,Tryz.ntmps328
 go_wp2_with (go_at_call 375;refine HI.out.mono ?_;rintro e w1 ⟨n,rfl,hn,hb⟩;have HN:=Hd hn;clear hn)
 go_ret
 exact ⟨by rw [HN.out];rfl,hb⟩
theorem among_any (r:Int) (a:Nat) (l:List (Int × Int)) (w:World) (hl:GrAt encPr 2 w (some ⟨a,0,none⟩) l) (hz:l.length ≤ 1000) :
 Calls Tryz.prog 253 #[.slice (some ⟨a,0,none⟩) l.length l.length,.int .i32 r] w (AmPost l r w):=by
 have hb0:=below_allocs (Below.refl w.heap.size w) (.cells #[.int .i32 r] 21)
 have HC:=Hd (containsPr_any r w.heap.size a l _ (at_ (hp_new rfl) 0 _ rfl).1 (hl.below hb0) hz)
 have HB0:=Hd hb0
 clear hl hb0
 go_enter Tryz.func253,Tryz.ntmps253
 go_wp2_with (go_at_call 328;refine HC.out.mono ?_;rintro e w1 ⟨rfl,hb⟩)
 go_ret
 exact ⟨rfl,below_tail HB0.out hb⟩
set_option maxHeartbeats 1600000 in
theorem widOf_any (r:Int) (w:World):Calls Tryz.prog 162 #[.int .i32 r] w fun e w' => e = .returned (.int .i64 (widOf r))∧Below w.heap.size w w':=by
 have HN:=Hd (fun w => wnone_any r w)
 by_cases h0:r < 768
 · have hw:=widOf_low h0
   rw [hw]
   clear hw
   cases hn:noneW r with
   | true =>
     rw [hn] at HN
     clear hn
     go_enter Tryz.func162,Tryz.ntmps162
     go_wp2_with (go_at_call 252;refine (HN.out _).mono ?_;rintro e w1 ⟨rfl,rfl⟩)
     go_ret
     exact ⟨rfl,Below.refl _ _⟩
   | false =>
     rw [hn] at HN
     clear hn
     go_enter Tryz.func162,Tryz.ntmps162
     go_wp2_with (go_at_call 252;refine (HN.out _).mono ?_;rintro e w1 ⟨rfl,rfl⟩)
     go_ret
     exact ⟨rfl,Below.refl _ _⟩
 · have HM:=Hd (fun w => wmarks_any w)
   have HW:=Hd (fun w => wwides_any w)
   have HA1:=Hd (fun a w hl => among_any r a marksT w hl (by decide))
   have HA2:=Hd (fun a w hl => among_any r a widesT w hl (by decide))
   unfold widOf
   unfold AmPost at HA1 HA2
   generalize noneW r = b0 at HN
   generalize amongB marksT r = b1 at HA1
   generalize amongB widesT r = b2 at HA2
   cases b0 <;> cases b1 <;> cases b2
   all_goals
    go_enter Tryz.func162,Tryz.ntmps162
    go_wp2_with (first
     | (go_at_call 252;refine (HN.out _).mono ?_;rintro e w1 ⟨rfl,rfl⟩)
     | (go_at_call 254;refine (HM.out _).mono ?_;rintro e w2 ⟨g,rfl,hg,hb2⟩;have HG:=Hd hg;have HB:=Hd hb2;clear hg hb2)
     | (go_at_call 255;refine (HW.out _).mono ?_;rintro e w4 ⟨g2,rfl,hg,hb2⟩;have HG2:=Hd hg;have HB3:=Hd (below_tail HB2.out hb2);clear hg hb2)
     | (go_at_call 253;first
         | (have hpv:=HB3.out;clear hpv;refine (HA2.out _ _ HG2.out).mono ?_;rintro e w5 ⟨rfl,hb3⟩;have HB4:=Hd (below_tail HB3.out hb3);clear hb3)
         | (refine (HA1.out _ _ HG.out).mono ?_;rintro e w3 ⟨rfl,hb3⟩;have HB2:=Hd (below_tail HB.out hb3);clear hb3)))
    go_ret
    exact ⟨rfl,by first | exact HB4.out | exact HB2.out | exact Below.refl _ _⟩
theorem there_below {w w1:World} {b o n:Nat} (h:w.there b o n) (hb:Below w.heap.size w w1):w1.there b o n:=fun j hj => by
 obtain ⟨h1,h2⟩:=h j hj
 obtain ⟨u,hu⟩:=Option.isSome_iff_exists.1 h1
 have:=hold hb ⟨hu,h2⟩
 exact ⟨by rw [this.1];rfl,this.2⟩
theorem below_setCells {B:Nat} {W w1:World} (h:Below B W w1) {b:Nat} (hb:B ≤ b):∀ (vs:List Value) (o:Nat),Below B W (w1.setCells b o vs)
 | [],o => h
 | v :: vs,o => by
   rw [World.setCells]
   exact below_setCells (below_set' h hb v) hb vs (o + 1)
where below_set' {B:Nat} {W w1:World} (h:Below B W w1) {b o:Nat} (hb:B ≤ b) (v:Value):Below B W (w1.setCell ⟨b,o,none⟩ v):=h.setCell (p:=⟨b,o,none⟩) hb v
theorem there_new {w:World} {g:Nat} {cs:Array Value} {t:TypeId} (h:w.heap[g]? = some (.cells cs t (0,0))):w.there g 0 cs.size:=fun j hj => by
 rw [Nat.zero_add]
 exact ⟨by rw [cell_of_row w g j cs t (0,0) h,Array.getElem?_eq_getElem hj];rfl,frozen_of_row w g j cs t h⟩
theorem range_below {w w1:World} {b o:Nat} {cs:List Value} (h:w.rangeAt b o cs) (hb:Below w.heap.size w w1):w1.rangeAt b o cs:=fun j v hj => holda hb (h j v hj)
section
variable {P:Program}
theorem run_copy_k (w:World) (dT sT ty elem:TypeId) (b o dLen dCap:Nat) (a:Addr) (sLen sCap k:Nat) (cs:List Value) (hu:P.underlying dT = some (.slice elem)) (hs:(P.info? elem).map (·.size) = some k) (hn:cs.length = Nat.min sLen dLen * k)
 (hsrc:∀ j v,cs[j]? = some v→w.cell? (a.add j) = some v) (hc:∀ j,j < cs.length→(w.cell? ⟨b,o + j,none⟩).isSome = true) (hf:∀ j,j < cs.length→w.frozen? ⟨b,o + j,none⟩ = false) (h1:∀ v ∈ cs,v.oneCell' = true) :
 (Builtin.copy_ #[dT,sT] ty #[.slice (some ⟨b,o,none⟩) dLen dCap,.slice (some a) sLen sCap]).run P w = .ok (goInt (Nat.min sLen dLen)) (w.setCells b o cs):=by
 have hl:=run_loadCells_list (P:=P) w a cs hsrc
 have hst:=run_storeCells_cells (P:=P) b o cs 0 w (by simpa using hc) (by simpa using hf) h1
 cases hq:P.info? elem with
 | none => simp [hq] at hs
 | some i =>
   have hi:i.size = k:=by simpa [hq] using hs
   simp [Builtin.copy_,run_underlying hu,Builtin.lenOf,Builtin.firstCells,sizeOf,typeInfo,hq,hi,← hn,hl,hst]
theorem results_cell1 {fn:Func} {p:Tmp} {ty:TypeId} (h:fn.results = #[.cell p ty]) (tmps:Array Value) (P:Program) (w:World) :
 (results fn tmps).run P w = ((asAddr (tmps.getD p undef)).run P w).andThen fun a w₁ => (loadVar ty a).run P w₁:=by
 simp only [results,h]
 simp [Sem.run_bind,Result.andThen]
end
theorem whole_setCells {b:Nat} {t:TypeId}:∀ (vs:List Value) (o:Nat) (cs:List Value) (w:World),w.heap[b]? = some (.cells cs.toArray t (0,0))→o + vs.length ≤ cs.length→(w.setCells b o vs).heap[b]? = some (.cells (cs.take o ++ (vs ++ cs.drop (o + vs.length))).toArray t (0,0))
 | [],o,cs,w,h,_ => by simpa [World.setCells] using h
 | v :: vs,o,cs,w,h,hl => by
   rw [List.length_cons] at hl
   have h1:=whole_set h o v rfl
   have ih:=whole_setCells vs (o + 1) (cs.set o v) (w.setCell ⟨b,o,none⟩ v) h1 (by rw [List.length_set];omega)
   have hlt:o < (cs.set o v).length:=by rw [List.length_set];omega
   rw [List.take_succ_eq_append_getElem hlt,List.getElem_set_self,List.take_set_of_le (Nat.le_refl o),List.drop_set_of_lt (by omega),List.append_assoc] at ih
   rw [World.setCells,List.length_cons,show o + (vs.length + 1) = o + 1 + vs.length by omega]
   exact ih
theorem mod_setCellsN {X:List Nat} {w:World} {g:Nat} (hg:g ∈ X ∨ w.heap.size ≤ g):∀ (cs:List Value) (o:Nat) (w1:World),Mod X w w1→Mod X w (w1.setCells g o cs)
 | [],_,_,h => h
 | v :: r,o,_,h => mod_setCellsN hg r (o + 1) _ (h.setCell (a:=⟨g,o,none⟩) hg v)
theorem owns_set1 {w:World} {base g:Nat} {e:TypeId} {size n cap:Nat} {xs:List Value} (h:w.ownsRow base e size (.slice (some ⟨g,0,none⟩) n cap) n xs) (o:Nat) (v:Value) :
 (w.setCell ⟨g,o,none⟩ v).ownsRow base e size (.slice (some ⟨g,0,none⟩) n cap) n (xs.set o v):=by
 obtain ⟨h1,h2 | ⟨g',cap',cur,hv,e2,e3,e4,e5,e6,e7⟩⟩:=h
 · exact absurd h2.1 (by simp)
 · simp only [Value.slice.injEq,Option.some.injEq,Addr.mk.injEq,and_true,true_and] at hv
   obtain ⟨rfl,rfl⟩:=hv
   refine ⟨by simpa using h1,.inr ⟨g,cap,cur.setIfInBounds o v,rfl,e2,heap_setCell_eq e3,e4,e5,by simpa using e6,?_⟩⟩
   rw [← e7,Array.toList_setIfInBounds]
   rw [List.take_set]
theorem owns_hold {w:World} {base g:Nat} {e:TypeId} {size n cap:Nat} {xs:List Value} (h:w.ownsRow base e size (.slice (some ⟨g,0,none⟩) n cap) n xs) {i:Nat} {v:Value} (hi:xs[i]? = some v):HoldAt w g i v:=by
 obtain ⟨-,h2 | ⟨g',cap',cur,hv,-,e3,-,-,-,e7⟩⟩:=h
 · exact absurd h2.1 (by simp)
 · simp only [Value.slice.injEq,Option.some.injEq,Addr.mk.injEq,and_true,true_and] at hv
   obtain ⟨rfl,rfl⟩:=hv
   refine at_ e3 i v ?_
   rw [← e7,List.getElem?_take] at hi
   split at hi
   · simpa using hi
   · cases hi
theorem flat_set1 {α:Type} {enc:α→List Value} {K:Nat} (hl:∀ x,(enc x).length = K):∀ (X:List α) (k:Nat) (x x':α) (j:Nat) (v:Value),X[k]? = some x→j < K→(enc x).set j v = enc x'→(flat enc X).set (k * K + j) v = flat enc (X.set k x')
 | [],k,x,x',j,v,h,_,_ => by simp at h
 | y :: X,0,x,x',j,v,h,hj,he => by
   obtain rfl:y = x:=by simpa using h
   have e:flat enc (y :: X) = enc y ++ flat enc X:=rfl
   have e2:flat enc ((y :: X).set 0 x') = enc x' ++ flat enc X:=rfl
   rw [e,e2,Nat.zero_mul,Nat.zero_add,List.set_append_left _ _ (by rw [hl];exact hj),he]
 | y :: X,k + 1,x,x',j,v,h,hj,he => by
   have e:flat enc (y :: X) = enc y ++ flat enc X:=rfl
   have e2:flat enc ((y :: X).set (k + 1) x') = enc y ++ flat enc (X.set k x'):=rfl
   rw [e,e2,List.set_append_right _ _ (by rw [hl,Nat.add_mul];omega),hl,show (k + 1) * K + j - K = k * K + j by rw [Nat.add_mul];omega,flat_set1 hl X k x x' j v (by simpa using h) hj he]
theorem owns_setCells {base g:Nat} {e:TypeId} {size n cap:Nat}:∀ (vs:List Value) (o:Nat) (xs:List Value) (w:World),w.ownsRow base e size (.slice (some ⟨g,0,none⟩) n cap) n xs→o + vs.length ≤ xs.length →
 (w.setCells g o vs).ownsRow base e size (.slice (some ⟨g,0,none⟩) n cap) n (xs.take o ++ (vs ++ xs.drop (o + vs.length)))
 | [],o,xs,w,h,_ => by simpa [World.setCells] using h
 | v :: vs,o,xs,w,h,hl => by
   rw [List.length_cons] at hl
   have h1:=owns_set1 h o v
   have ih:=owns_setCells vs (o + 1) (xs.set o v) (w.setCell ⟨g,o,none⟩ v) h1 (by rw [List.length_set];omega)
   have e1:(xs.set o v).take (o + 1) = xs.take o ++ [v]:=by
    rw [List.take_succ_eq_append_getElem (by rw [List.length_set];omega),List.getElem_set_self,List.take_set_of_le (Nat.le_refl _)]
   have e2:(xs.set o v).drop (o + 1 + vs.length) = xs.drop (o + (v :: vs).length):=by
    rw [List.drop_set_of_lt (by omega),List.length_cons,show o + 1 + vs.length = o + (vs.length + 1) by omega]
   rw [e1,e2,List.append_assoc] at ih
   exact ih
theorem load_mid_g {P:Program} {ops:Array Oper} {rest:List Oper} {op:Oper} {a:Act} {w:World} {Q:Exit→Act→World→Prop} (hw:Region.wanted op (yielded ops a.tmps) = true) (ty:TypeId) (x:Operand) (ho:op.op = .load ty x)
 (b o:Nat) (hx:a.eval x = .pointer (some ⟨b,o,none⟩)) (cs:List Value) (d:TypeDesc) (hc:w.rangeAt b o cs)
 (hu:P.underlying ty = some d) (hd:d.isRow = true) (hi:(P.info? ty).map (·.size) = some cs.length)
 (h:wpList P ops Q rest (a.put op.dst (.agg cs.toArray)) w):wpList P ops Q (op :: rest) a w:=by
 unfold wpList
 rw [if_pos hw]
 exact .inl (wp_load_mid ty x ho b o hx cs d hc hu hd hi h)
def encCl (c:Cl):List Value:=[.int .i32 c.r,.string c.more,.int .i64 c.half,.int .i64 c.fk,.int .i64 c.fn,.int .i64 c.bk,.int .i64 c.bn,.int .i64 c.fl]
theorem encCl_len:∀ c,(encCl c).length = 8:=fun _ => rfl
theorem encCl_one:∀ c,∀ v ∈ encCl c,v.oneCell' = true:=fun c v hv => by
 simp only [encCl,List.mem_cons,List.not_mem_nil,or_false] at hv
 rcases hv with rfl | rfl | rfl | rfl | rfl | rfl | rfl | rfl <;> rfl
theorem info_cell:(Tryz.prog.info? 65).map (·.size) = some 8:=by kernel_rfl
theorem cl_one (c:Cl):(encCl c).toArray.all (·.oneCell') = true:=all_oneCell_toArray (encCl_one c)
theorem ret_cell {fn:Func} {p:Tmp} (hr:fn.results = #[.cell p 65]) (tmps:Array Value) (w:World) (b:Nat) (c:Cl) (hp:tmps.getD p undef = .pointer (some ⟨b,0,none⟩)) (h:w.rangeAt b 0 (encCl c)) :
 (results fn tmps).run Tryz.prog w = .ok (clV c) w:=by
 rw [results_cell1 hr,hp]
 have:=run_loadVar_mid (P:=Tryz.prog) w b 0 65 (encCl c) _ h Tryz.underlying65 rfl info_cell
 simp only [asAddr,Sem.run_pure,Result.andThen_ok,this]
 rfl
theorem range_new {w:World} {g:Nat} {cs:List Value} {t:TypeId} (h:w.heap[g]? = some (.cells cs.toArray t (0,0))):w.rangeAt g 0 cs:=fun j v hj => by rw [Nat.zero_add];exact (whole_at h j v hj).1
def CellPost (c:Cl) (w:World) (e:Ending) (w':World):Prop:=e = .returned (clV c)∧Below w.heap.size w w'
set_option maxHeartbeats 1600000 in
theorem cempty_any (a:Atr) (w:World):Calls Tryz.prog 263 #[.agg #[.int .i64 a.fk,.int .i64 a.fn,.int .i64 a.bk,.int .i64 a.bn,.int .i64 a.fl]] w (CellPost (emptyA a) w):=by
 go_enter Tryz.func263,Tryz.ntmps263
 go_wp2
 exact bodyPost_ret (ret_cell rfl _ _ (w.heap.size + 1) (emptyA a) rfl (range_new (hp_new (by simp)))) rfl ⟨rfl,below_allocs (below_allocs (Below.refl _ _) _) _⟩
set_option maxHeartbeats 1600000 in
theorem cblank_any (b:Col) (w:World):Calls Tryz.prog 335 #[.agg #[.int .i64 b.k,.int .i64 b.n]] w (CellPost (blankC b) w):=by
 have HE:=Hd (fun w => cempty_any ⟨0,0,b.k,b.n,0⟩ w)
 have HB0:=Hd (below_allocs (below_allocs (Below.refl w.heap.size w) (.cells #[.int .i64 b.k,.int .i64 b.n] 61)) (.cells (encCl (emptyA ⟨0,0,0,0,0⟩)).toArray 65))
 have HT0:=Hd (there_new (cs:=(encCl (emptyA ⟨0,0,0,0,0⟩)).toArray) (w:=(w.alloc (.cells #[.int .i64 b.k,.int .i64 b.n] 61)).alloc (.cells (encCl (emptyA ⟨0,0,0,0,0⟩)).toArray 65)) (g:=w.heap.size + 1) (hp_new (by simp)))
 go_enter Tryz.func335,Tryz.ntmps335
 go_wp2_with (first
  | (go_at_call 263;refine (HE.out _).mono ?_;rintro e w1 ⟨rfl,hb⟩;have HB1:=Hd hb;clear hb;have HT1:=Hd (there_below HT0.out HB1.out))
  | (refine wpList_store_mid (op:=⟨none,.store 65 (.tmp 2) (.tmp 5),_,_,_,_⟩) rfl 65 (.tmp 2) (.tmp 5) rfl (w.heap.size + 1) 0 (encCl (blankC b)).toArray rfl rfl HT1.out info_cell (cl_one (blankC b)) ?_))
 exact bodyPost_ret (ret_cell rfl _ _ (w.heap.size + 1) (blankC b) rfl (World.rangeAt_setCells_same _ _ _ _ HT1.out)) rfl ⟨rfl,below_setCells (below_tail HB0.out HB1.out) (by omega) _ _⟩
def pairH (a b:Cl):Bool:=decide (a.half = 1) && decide (a = { b with half:=1 })
set_option maxHeartbeats 1600000 in
theorem cpair_any (a b:Cl) (w:World):Calls Tryz.prog 262 #[clV a,clV b] w fun e w' => e = .returned (.bool (pairH a b))∧Below w.heap.size w w':=by
 unfold clV
 have HB2:=Hd (below_allocs (below_allocs (Below.refl w.heap.size w) (.cells (encCl a).toArray 65)) (.cells (encCl { b with half:=1 }).toArray 65))
 have HA2:=Hd (show ((w.alloc (.cells (encCl a).toArray 65)).alloc (.cells (encCl { b with half:=1 }).toArray 65)).heap[w.heap.size]? = some (.cells (encCl a).toArray 65 (0,0)) from hp_old (hp_new rfl))
 have HC2:=Hd (show ((w.alloc (.cells (encCl a).toArray 65)).alloc (.cells (encCl { b with half:=1 }).toArray 65)).heap[w.heap.size + 1]? = some (.cells (encCl { b with half:=1 }).toArray 65 (0,0)) from hp_new (by simp))
 by_cases h:a.half = 1
 · have hv:pairH a b = decide (a = { b with half:=1 }):=by unfold pairH;rw [h];simp
   rw [hv]
   clear hv
   obtain ⟨ar,am,ah,a1,a2,a3,a4,a5⟩:=a
   obtain rfl:ah = 1:=h
   go_enter Tryz.func262,Tryz.ntmps262
   go_upto_region 2 with fail
   refine wp_region_lit ?_
   refine wpList_valG (.pointer (some ⟨w.heap.size,2,none⟩)) (by rfl) (by go_simp) ?_
   simp only [Act.put,List.setIfInBounds_toArray,List.set_cons_zero,List.set_cons_succ]
   refine wpList_valG (.int .i64 1) (by rfl) (by go_simp) ?_
   simp only [Act.put,List.setIfInBounds_toArray,List.set_cons_zero,List.set_cons_succ]
   refine wpList_valG (.bool true) (by rfl) (by go_simp) ?_
   simp only [Act.put,List.setIfInBounds_toArray,List.set_cons_zero,List.set_cons_succ]
   refine wpList_valG (.bool true) (by rfl) (by rfl) ?_
   simp only [Act.put,List.setIfInBounds_toArray,List.set_cons_zero,List.set_cons_succ]
   refine load_mid_g (by rfl) 65 (.tmp 2) rfl w.heap.size 0 rfl (encCl ⟨ar,am,1,a1,a2,a3,a4,a5⟩) _ (range_new HA2.out) Tryz.underlying65 rfl info_cell ?_
   simp only [Act.put,List.setIfInBounds_toArray,List.set_cons_zero,List.set_cons_succ]
   refine load_mid_g (by rfl) 65 (.tmp 3) rfl (w.heap.size + 1) 0 rfl (encCl { b with half:=1 }) _ (range_new HC2.out) Tryz.underlying65 rfl info_cell ?_
   simp only [Act.put,List.setIfInBounds_toArray,List.set_cons_zero,List.set_cons_succ]
   refine wpList_valG (.bool (decide ((⟨ar,am,1,a1,a2,a3,a4,a5⟩:Cl) = { b with half:=1 }))) (by rfl) (exec_eql_cell _ _ _ _ _ _ (.tmp 10) (.tmp 11) ⟨ar,am,1,a1,a2,a3,a4,a5⟩ { b with half:=1 } rfl rfl _) ?_
   simp only [Act.put,List.setIfInBounds_toArray,List.set_cons_zero,List.set_cons_succ]
   generalize hD:decide ((⟨ar,am,1,a1,a2,a3,a4,a5⟩:Cl) = { b with half:=1 }) = D
   have HD:=Hd hD
   clear hD
   go_wp2
   go_ret
   exact ⟨by rw [← HD.out];rfl,HB2.out⟩
 · have hv:pairH a b = false:=by unfold pairH;simp [h]
   rw [hv]
   have h1:(a.half == 1) = false:=beq_eq_false_iff_ne.2 h
   clear hv
   go_enter Tryz.func262,Tryz.ntmps262
   go_wp2
   go_ret
   exact ⟨rfl,HB2.out⟩
theorem pairB_H (c d:Cl):pairB c d = (pairH c d && decide (d.half = 2)):=by
 unfold pairB pairH
 cases decide (c.half = 1) <;> cases decide (d.half = 2) <;> cases decide (c = { d with half:=1 }) <;> rfl
theorem mendL_pair {c d:Cl} (h:pairB c d = true) (l:List Cl):mendL (c :: d :: l) = c :: d :: mendL l:=by
 have h0:¬ c.half = 0:=fun e => by unfold pairB at h;simp [e] at h
 rw [mendL_cons,if_neg h0,if_pos h]
theorem mendL_other {c:Cl} {l:List Cl} (h0:¬ c.half = 0) (h3:¬ (c.half = 3∧l = [])) (hp:∀ d m,l = d :: m→pairB c d = false):mendL (c :: l) = emptyC c :: mendL l:=by
 match l with
 | [] => rw [mendL_one,if_neg (fun h => h.elim h0 (fun h => h3 ⟨h,rfl⟩))];rfl
 | d :: m => rw [mendL_cons,if_neg h0,hp d m rfl];rfl
theorem mendL_pad {c:Cl} (h:c.half = 3):mendL [c] = [c]:=by rw [mendL_one,if_pos (.inr h)]
def CrO (w:World) (base g cap:Nat) (l:List Cl):Prop:=w.ownsRow base 65 8 (.slice (some ⟨g,0,none⟩) l.length cap) l.length (flat encCl l)
theorem CrO.mod {w w':World} {base g cap:Nat} {l:List Cl} {X:List Nat} (h:CrO w base g cap l) (hm:Mod X w w') (hX:g ∉ X):CrO w' base g cap l:=owns_mod h hm (fun k hk => by simp [Value.ownBlock] at hk;rw [← hk];exact hX)
theorem CrO.below {w w':World} {base g cap:Nat} {l:List Cl} (h:CrO w base g cap l) (hb:Below w.heap.size w w'):CrO w' base g cap l:=h.mod (Mod.of_below (X:=[]) hb) (fun h => by cases h)
theorem CrO.lt {w:World} {base g cap:Nat} {l:List Cl} (h:CrO w base g cap l):base ≤ g∧g < w.heap.size:=World.ownsRow.lt h g rfl
theorem CrO.range {w:World} {base g cap:Nat} {l:List Cl} (h:CrO w base g cap l) {i:Nat} {c:Cl} (hc:l[i]? = some c):w.rangeAt g (i * 8) (encCl c):=fun j v hj => by
 have hj8:j < 8:=by have:=(List.getElem?_eq_some_iff.1 hj).1;rwa [encCl_len] at this
 exact (owns_hold h (i:=i * 8 + j) (v:=v) (by rw [flat_at2 encCl_len l i c j hc hj8];exact hj)).1
theorem CrO.there {w:World} {base g cap:Nat} {l:List Cl} (h:CrO w base g cap l) {i:Nat} (hi:i < l.length):w.there g (i * 8) 8:=fun j hj => by
 obtain ⟨c,hc⟩:∃ c,l[i]? = some c:=⟨l[i],List.getElem?_eq_getElem hi⟩
 obtain ⟨v,hv⟩:∃ v,(encCl c)[j]? = some v:=⟨_,List.getElem?_eq_getElem (by rw [encCl_len];exact hj)⟩
 have:=owns_hold h (i:=i * 8 + j) (v:=v) (by rw [flat_at2 encCl_len l i c j hc hj];exact hv)
 exact ⟨by rw [this.1];rfl,this.2⟩
theorem CrO.set {w:World} {base g cap:Nat} {l:List Cl} (h:CrO w base g cap l) {i:Nat} (hi:i < l.length) (c:Cl):CrO (w.setCells g (i * 8) (encCl c)) base g cap (l.set i c)∧Mod [g] w (w.setCells g (i * 8) (encCl c)):=by
 refine ⟨?_,mod_setCellsN (.inl (by simp)) _ _ _ (Mod.refl _ _)⟩
 have h1:=owns_setCells (encCl c) (i * 8) (flat encCl l) w h (by rw [flat_len encCl_len,encCl_len];omega)
 unfold CrO
 rw [List.length_set]
 have e:(flat encCl l).take (i * 8) ++ (encCl c ++ (flat encCl l).drop (i * 8 + (encCl c).length)) = flat encCl (l.set i c):=by
  rw [encCl_len]
  clear h h1
  induction l generalizing i with
  | nil => simp at hi
  | cons x l ih =>
    have e:flat encCl (x :: l) = encCl x ++ flat encCl l:=rfl
    match i with
    | 0 =>
      have e2:flat encCl ((x :: l).set 0 c) = encCl c ++ flat encCl l:=rfl
      rw [e,e2,Nat.zero_mul,List.take_zero,List.nil_append,Nat.zero_add,List.drop_left' (encCl_len x)]
    | i + 1 =>
      have e2:flat encCl ((x :: l).set (i + 1) c) = encCl x ++ flat encCl (l.set i c):=rfl
      rw [e,e2,← ih (by simpa using hi),Nat.add_mul,Nat.one_mul]
      rw [List.take_append,List.drop_append,encCl_len,List.take_of_length_le (by rw [encCl_len];omega),List.drop_eq_nil_of_le (by rw [encCl_len];omega)]
      rw [show i * 8 + 8 - 8 = i * 8 by omega,show i * 8 + 8 + 8 - 8 = i * 8 + 8 by omega,List.nil_append,List.append_assoc]
 rw [e] at h1
 exact h1
end Go.Proofs.YtaefcahblmopfaaGreatDoor
