/- Joined by a tool of this claim out of smaller texts. Conditions: as stated. -/
import Derived.Test.YtaefcahblmopfaaGreatDoorDp27
import Derived.LoopN
import Derived.Deep.OwnRows
import Derived.Maps.AppendAt
import Derived.Deep.Slices
import Derived.Deep.Fields
import Derived.ChangeSame
import Derived.ProofKit
set_option linter.unusedVariables false
set_option linter.unusedSimpArgs false
set_option maxRecDepth 100000
open Go.Lib renaming hid → Hd
namespace Go.Proofs.YtaefcahblmopfaaGreatDoor
open Go.RowKit
theorem made_flatP {α:Type} {enc:α→List Value} {K:Nat} (hl:∀ x,(enc x).length = K) (hK:0 < K) (z:α) (n:Nat):(madeCells (enc z).toArray (n * K)).toList = flat enc (List.replicate n z):=by
 refine List.ext_getElem? fun m => ?_
 by_cases hm:m < n * K
 · have hd:m / K < n:=(Nat.div_lt_iff_lt_mul hK).2 hm
   have h1:(List.replicate n z)[m / K]? = some z:=by rw [List.getElem?_replicate];rw [if_pos hd]
   have h2:=flat_at2 hl (List.replicate n z) (m / K) z (m % K) h1 (Nat.mod_lt _ hK)
   rw [show m / K * K + m % K = m by rw [Nat.mul_comm];exact Nat.div_add_mod m K] at h2
   rw [h2]
   have hj:m % K < (enc z).length:=by rw [hl];exact Nat.mod_lt _ hK
   unfold madeCells
   simp only [Array.toList_map,Array.toList_range,List.getElem?_map,List.getElem?_range hm,Option.map_some]
   rw [List.getElem?_eq_getElem hj]
   congr 1
   have hs:(enc z).toArray.size = K:=by rw [List.size_toArray,hl]
   rw [hs,getElem!_pos _ _ (by rw [hs];exact Nat.mod_lt _ hK)]
   simp
 · rw [List.getElem?_eq_none (by simp [size_madeCells];omega),List.getElem?_eq_none (by rw [flat_len hl,List.length_replicate];omega)]
theorem rScalar_any (r:Int) (w:World):Calls Tryz.prog 94 #[.int .i32 r] w fun e w' => e = .returned (.bool (isScal r))∧w = w':=by
 unfold isScal
 by_cases h1:0 ≤ r <;> by_cases h2:r ≤ 1114111 <;> by_cases h3:r < 55296 <;> by_cases h4:57343 < r <;>
 · go_enter Tryz.func94,Tryz.ntmps94
   go_wp2
   go_ret
   refine ⟨?_,rfl⟩
   simp [h1,h2,h3,h4]
   try omega
def BytesAt (w:World) (v:Value) (xs:List Int):Prop:=(xs = []∧v = .slice none 0 0) ∨ ∃ g c,v = .slice (some ⟨g,0,none⟩) xs.length c∧w.heap[g]? = some (.cells (xs.map (Value.int .u8)).toArray 5 (0,0))
def BytesPost (b:ByteArray) (w:World) (e:Ending) (w':World):Prop:=∃ v xs,e = .returned v∧BytesAt w' v xs∧strOfNums xs = b∧Below w.heap.size w w'
theorem info_byte:(Tryz.prog.info? 5).map (fun i => (i.zero,i.size,i.bytes)) = some (some (.int .u8 0),1,1):=by kernel_rfl
theorem made_bytes (n:Nat):madeCells #[Value.int .u8 0] n = (List.replicate n (Value.int .u8 0)).toArray:=by
 have h:=made_flatP (enc:=fun v:Value => [v]) (K:=1) (fun _ => rfl) (by decide) (Value.int .u8 0) n
 rw [Nat.mul_one] at h
 refine Array.ext' (h.trans ?_)
 clear h
 induction n with
 | zero => rfl
 | succ n ih =>
   rw [List.replicate_succ]
   show Value.int .u8 0 :: flat _ (List.replicate n (Value.int .u8 0)) = _
   rw [ih]
theorem make_bytes (n:Nat) (h:n ≤ 1000) (W:World):Sem.run Tryz.prog (Instr.makeSlice 23 (.int .i64 (n:Int)) (.int .i64 (n:Int))) W = .ok (.slice (some ⟨W.heap.size,0,none⟩) n n) (W.alloc (.cells (List.replicate n (Value.int .u8 0)).toArray 5)):=by
 rw [← made_bytes]
 exact run_make_row' 23 5 (.int .u8 0) 1 Tryz.underlying23 info_byte rfl .i64 .i64 n (by omega) (by omega) W
set_option maxHeartbeats 1600000 in
theorem rPutB_any (r:Int) (w:World):Calls Tryz.prog 52 #[.int .i32 r] w (BytesPost (putB r) w):=by
 have HS:=Hd (fun w => rScalar_any r w)
 cases hs:isScal r with
 | false =>
   have HV:=Hd (show putB r = ByteArray.empty from by unfold putB;rw [hs];rfl)
   rw [hs] at HS
   clear hs
   go_enter Tryz.func52,Tryz.ntmps52
   go_wp2_with (go_at_call 94;refine (HS.out _).mono ?_;rintro e w1 ⟨rfl,rfl⟩)
   go_ret
   exact ⟨_,[],rfl,.inl ⟨rfl,rfl⟩,by rw [HV.out];rfl,Below.refl _ _⟩
 | true =>
   rw [hs] at HS
   have hr:0 ≤ r∧r ≤ 1114111:=by unfold isScal at hs;simp at hs;omega
   obtain ⟨hr0,hr1⟩:=hr
   by_cases hA:r < 128
   · have HV:=Hd (show putB r = ⟨#[r.toNat.toUInt8]⟩ from by unfold putB;rw [hs,if_pos rfl,if_pos hA])
     clear hs
     have hA1:¬ 127 < r:=by omega
     have hA2:¬ 2047 < r:=by omega
     have hA3:¬ 65535 < r:=by omega
     go_enter Tryz.func52,Tryz.ntmps52
     go_wp2_with (go_at_call 94;refine (HS.out _).mono ?_;rintro e w1 ⟨rfl,rfl⟩)
     refine wp_loop_rounds 4 ?_
     rw [rounds_succ];go_wp2
     rw [rounds_succ];go_wp2
     rw [rounds_succ];go_wp2
     rw [rounds_succ];go_wp2
     go_ret
     exact ⟨_,[r],rfl,.inr ⟨w.heap.size + 1,1,rfl,hp_new (by simp)⟩,by rw [HV.out];rfl,below_allocs (below_allocs (Below.refl _ _) _) _⟩
   by_cases hB:r < 2048
   · have HV:=Hd (show putB r = ⟨#[(192 + r / 64).toNat.toUInt8,(128 + r % 64).toNat.toUInt8]⟩ from by unfold putB;rw [hs,if_pos rfl,if_neg (show ¬ r < 0x80 from hA),if_pos hB])
     clear hs
     have hmk:∀ W:World,Sem.run Tryz.prog (Instr.makeSlice 23 (.int .i64 2) (.int .i64 2)) W = .ok (.slice (some ⟨W.heap.size,0,none⟩) 2 2) (W.alloc (.cells #[.int .u8 0,.int .u8 0] 5)):=fun W => make_bytes 2 (by omega) W
     have hA1:127 < r:=by omega
     have hA2:¬ 2047 < r:=by omega
     have hA3:¬ 65535 < r:=by omega
     go_enter Tryz.func52,Tryz.ntmps52
     go_wp2_with (go_at_call 94;refine (HS.out _).mono ?_;rintro e w1 ⟨rfl,rfl⟩)
     refine wp_loop_rounds 4 ?_
     rw [rounds_succ];go_wp2
     rw [rounds_succ];go_wp2
     rw [rounds_succ];go_wp2
     rw [rounds_succ];go_wp2
     refine wp_loop_rounds 2 ?_
     rw [rounds_succ];go_wp2
     rw [rounds_succ];go_wp2
     go_ret
     exact ⟨_,[192 + r / 64,128 + r % 64],rfl,.inr ⟨w.heap.size + 1,2,rfl,hp_old (hp_new (by simp))⟩,by rw [HV.out];rfl,below_allocs (below_allocs (below_allocs (Below.refl _ _) _) _) _⟩
   by_cases hC:r < 65536
   · have HV:=Hd (show putB r = ⟨#[(224 + r / 4096).toNat.toUInt8,(128 + r / 64 % 64).toNat.toUInt8,(128 + r % 64).toNat.toUInt8]⟩ from by unfold putB;rw [hs,if_pos rfl,if_neg (show ¬ r < 0x80 from hA),if_neg (show ¬ r < 0x800 from hB),if_pos hC])
     clear hs
     have hmk:∀ W:World,Sem.run Tryz.prog (Instr.makeSlice 23 (.int .i64 3) (.int .i64 3)) W = .ok (.slice (some ⟨W.heap.size,0,none⟩) 3 3) (W.alloc (.cells #[.int .u8 0,.int .u8 0,.int .u8 0] 5)):=fun W => make_bytes 3 (by omega) W
     have hA1:127 < r:=by omega
     have hA2:2047 < r:=by omega
     have hA3:¬ 65535 < r:=by omega
     have hdd:r / 64 / 64 = r / 4096:=by omega
     go_enter Tryz.func52,Tryz.ntmps52
     go_wp2_with (go_at_call 94;refine (HS.out _).mono ?_;rintro e w1 ⟨rfl,rfl⟩)
     refine wp_loop_rounds 4 ?_
     rw [rounds_succ];go_wp2
     rw [rounds_succ];go_wp2
     rw [rounds_succ];go_wp2
     rw [rounds_succ];go_wp2
     refine wp_loop_rounds 3 ?_
     rw [rounds_succ];go_wp2
     rw [rounds_succ];go_wp2
     rw [rounds_succ];go_wp2
     go_ret
     exact ⟨_,[224 + r / 4096,128 + r / 64 % 64,128 + r % 64],rfl,.inr ⟨w.heap.size + 1,3,rfl,hp_old (hp_new (by simp))⟩,by rw [HV.out];rfl,below_allocs (below_allocs (below_allocs (Below.refl _ _) _) _) _⟩
   have HV:=Hd (show putB r = ⟨#[(240 + r / 262144).toNat.toUInt8,(128 + r / 4096 % 64).toNat.toUInt8,(128 + r / 64 % 64).toNat.toUInt8,(128 + r % 64).toNat.toUInt8]⟩ from by unfold putB;rw [hs,if_pos rfl,if_neg (show ¬ r < 0x80 from hA),if_neg (show ¬ r < 0x800 from hB),if_neg (show ¬ r < 0x10000 from hC)])
   clear hs
   have hmk:∀ W:World,Sem.run Tryz.prog (Instr.makeSlice 23 (.int .i64 4) (.int .i64 4)) W = .ok (.slice (some ⟨W.heap.size,0,none⟩) 4 4) (W.alloc (.cells #[.int .u8 0,.int .u8 0,.int .u8 0,.int .u8 0] 5)):=fun W => make_bytes 4 (by omega) W
   have hA1:127 < r:=by omega
   have hA2:2047 < r:=by omega
   have hA3:65535 < r:=by omega
   have hdd:r / 64 / 64 = r / 4096:=by omega
   have hdd2:r / 4096 / 64 = r / 262144:=by omega
   go_enter Tryz.func52,Tryz.ntmps52
   go_wp2_with (go_at_call 94;refine (HS.out _).mono ?_;rintro e w1 ⟨rfl,rfl⟩)
   refine wp_loop_rounds 4 ?_
   rw [rounds_succ];go_wp2
   rw [rounds_succ];go_wp2
   rw [rounds_succ];go_wp2
   rw [rounds_succ];go_wp2
   refine wp_loop_rounds 4 ?_
   rw [rounds_succ];go_wp2
   rw [rounds_succ];go_wp2
   rw [rounds_succ];go_wp2
   rw [rounds_succ];go_wp2
   go_ret
   exact ⟨_,[240 + r / 262144,128 + r / 4096 % 64,128 + r / 64 % 64,128 + r % 64],rfl,.inr ⟨w.heap.size + 1,4,rfl,hp_old (hp_new (by simp))⟩,by rw [HV.out];rfl,below_allocs (below_allocs (below_allocs (Below.refl _ _) _) _) _⟩
theorem BytesAt.below {w w':World} {v:Value} {xs:List Int} (h:BytesAt w v xs) (hb:Below w.heap.size w w'):BytesAt w' v xs:=by
 rcases h with h | ⟨g,c,hv,hg⟩
 · exact .inl h
 · exact .inr ⟨g,c,hv,(hb.block g (lt_of_heap hg)).trans hg⟩
theorem conv_bytes {w:World} {v:Value} {xs:List Int} (h:BytesAt w v xs):(convert 23 9 v).run Tryz.prog w = .ok (.string (strOfNums xs)) w:=by
 rcases h with ⟨rfl,rfl⟩ | ⟨g,c,rfl,hg⟩
 · kernel_rfl
 · exact conv_at xs xs.length c g w 5 hg rfl
section
variable {P:Program}
end
theorem own_form8 {base n:Nat} {w:World} {v:Value} {xs:List Value} (h:w.ownsRow base 5 1 v n xs) (h0:0 < n):∃ g c,v = .slice (some ⟨g,0,none⟩) n c∧g < w.heap.size∧base ≤ g:=by
 rcases h.2 with ⟨rfl,h1⟩ | ⟨g,cap,cur,rfl,hb,hg,_⟩
 · omega
 · exact ⟨g,cap,rfl,lt_of_heap hg,hb⟩
theorem strOfNums_append (a b:List Int):strOfNums a ++ strOfNums b = strOfNums (a ++ b):=by
 unfold strOfNums
 refine ByteArray.ext ?_
 rw [ByteArray.data_append]
 simp
def numsOf (s:ByteArray):List Int:=s.data.toList.map fun b => (b.toNat:Int)
theorem numsOf_len (s:ByteArray):(numsOf s).length = s.size:=by
 unfold numsOf
 rw [List.length_map,Array.length_toList]
 rfl
def eqA (a b:Atr):Bool:=decide (a.fk = b.fk) && decide (a.fn = b.fn) && decide (a.bk = b.bk) && decide (a.bn = b.bn) && decide (a.fl = b.fl)
theorem eqA_iff {a b:Atr}:eqA a b = true ↔ a = b:=by
 obtain ⟨a1,a2,a3,a4,a5⟩:=a
 obtain ⟨b1,b2,b3,b4,b5⟩:=b
 unfold eqA
 simp only [Bool.and_eq_true,decide_eq_true_eq,Atr.mk.injEq,and_assoc]
def movI (y x:Nat):List Int:=27 :: 91 :: (joinI [y + 1,x + 1] ++ [72])
def turnI (on a:Atr):List Int:=if eqA on a then [] else 27 :: 91 :: (joinI (codesA a) ++ [109])
def eraI (n:Nat):List Int:=27 :: 91 :: (joinI [n] ++ [88])
def cellI (c:Cl):List Int:=numsOf (putB c.r) ++ numsOf c.more
def cellsI:Atr→List Cl→List Int × Atr
 | on,[] => ([],on)
 | on,c :: l => if c.half = 2 then cellsI on l else (turnI on (atrOf c) ++ (cellI c ++ (cellsI (atrOf c) l).1),(cellsI (atrOf c) l).2)
def sameR (a b:Cl):Bool:=(decide (a.r = 0) == decide (b.r = 0)) && !(decide (a.r = 0) && !eqA (atrOf a) (atrOf b))
def runN:List Cl→Nat
 | [] => 0
 | c :: l => (l.takeWhile (sameR c)).length + 1
def segI (y x:Nat) (on:Atr) (l:List Cl):List Int × Atr :=
 match l with
 | [] => ([],on)
 | c :: _ =>
   if c.r = 0 then (if eqA (atrOf c) zeroA then ([],on) else (movI y x ++ (turnI on (atrOf c) ++ eraI (runN l)),atrOf c))
   else (movI y x ++ (cellsI on (l.take (runN l))).1,(cellsI on (l.take (runN l))).2)
def rowI:Nat→Nat→Nat→Atr→List Cl→List Int × Atr
 | 0,_,_,on,_ => ([],on)
 | k + 1,y,x,on,l => if l.length = 0 then ([],on) else ((segI y x on l).1 ++ (rowI k y (x + runN l) (segI y x on l).2 (l.drop (runN l))).1,(rowI k y (x + runN l) (segI y x on l).2 (l.drop (runN l))).2)
def rowsI:Nat→Atr→List (List Cl)→List Int × Atr
 | _,on,[] => ([],on)
 | y,on,l :: r => ((rowI l.length y 0 on l).1 ++ (rowsI (y + 1) (rowI l.length y 0 on l).2 r).1,(rowsI (y + 1) (rowI l.length y 0 on l).2 r).2)
def drawI (rows:List (List Cl)) (ay ax:Nat):List Int:=(rowsI 0 zeroA rows).1 ++ (turnI (rowsI 0 zeroA rows).2 zeroA ++ movI ay ax)
def mkR (l:List Cl):Ro:=⟨l,false⟩
def dS (st:List Bool) (cols:Nat) (scr:List (List Cl)) (a:Atr) (y x:Nat) (la:Int):Sc:=⟨⟨5,[],0,scr.map mkR,cols,[]⟩,st,⟨a,firstCh,false,true,false⟩,y,x,0,(scr.length:Int) - 1,zeroPe,0,0,false,la⟩
def zeC:Cl:=blankC ⟨0,0⟩
def zesC (k:Nat):List Cl:=List.replicate k zeC
theorem newS_dS (n cols:Nat) (st:List Bool):newS n cols 5 st = dS st cols (List.replicate n (zesC cols)) zeroA 0 0 0:=by
 unfold newS dS
 simp only [List.map_replicate,List.length_replicate]
 rfl
theorem map_modify {f:List Cl→List Cl}:∀ {scr:List (List Cl)} {y:Nat} {l:List Cl},scr[y]? = some l→(scr.map mkR).modify y (fun r => { r with cs:=f r.cs }) = (scr.set y (f l)).map mkR
 | [],_,_,h => by simp at h
 | r :: scr,0,l,h => by
   obtain rfl:r = l:=by simpa using h
   rfl
 | r :: scr,y + 1,l,h => by
   have:=map_modify (f:=f) (scr:=scr) (y:=y) (l:=l) (by simpa using h)
   simp only [List.map_cons,List.modify_succ_cons,List.set_cons_succ]
   rw [this]
theorem map_part:∀ {scr:List (List Cl)} {y:Nat},(scr.map mkR).modify y (fun r => { r with cont:=false }) = scr.map mkR
 | [],y => by simp
 | r :: scr,0 => rfl
 | r :: scr,y + 1 => by
   simp only [List.map_cons,List.modify_succ_cons]
   rw [map_part]
section
variable {st:List Bool} {cols:Nat} {scr:List (List Cl)} {a:Atr} {y x:Nat} {la:Int}
theorem dS_sci (hy:y < scr.length) (hx:x ≤ cols):ScI (dS st cols scr a y x la):=by
 refine ⟨?_,?_,?_,?_,?_,?_,?_⟩ <;> simp [dS] <;> omega
theorem dS_ok (hy:y < scr.length) (hx:x ≤ cols) (ha:RightA a) {e:Ev} (h:e.kind = 0 ∨ (e.kind = 3∧e.pre = 0∧e.inter = []∧(e.byte = 72 ∨ e.byte = 109 ∨ e.byte = 88))):OkS (dS st cols scr a y x la) e:=⟨h,dS_sci hy hx,Nat.zero_le _,ha.fl⟩
theorem countG_sing {l:List Nat} {i v:Nat} (h0:l ≠ []) (h1:l.length ≤ 32) (h2:∀ n ∈ l,n ≤ 65535) (hv:l[i]? = some v) (h3:1 ≤ v):countG (sings l) i = v:=by
 have hi:=(List.getElem?_eq_some_iff.1 hv).1
 unfold countG getG
 rw [cleanL_sings l h0 h1 h2,if_pos (by unfold sings;simpa using hi)]
 have e:(sings l).getD i [] = [(v:Int)]:=by
  rw [List.getD_eq_getElem?_getD]
  unfold sings
  rw [List.getElem?_map,hv]
  rfl
 rw [e]
 show max 1 (if (v:Int) = -1 then 1 else (v:Int)) = v
 rw [if_neg (by omega)]
 omega
theorem feed_move {y' x':Nat} (hr:scr.length ≤ 1000) (hc:cols ≤ 1000) (hy:y < scr.length) (hx:x ≤ cols) (ha:RightA a) (hy':y' < scr.length) (hx':x' < cols):Feeds (dS st cols scr a y x la) (movI y' x') (dS st cols scr a y' x' la):=by
 have h:=Feeds.one (s:=dS st cols scr a y x la) (e:=seqE [y' + 1,x' + 1] 72) (.inr ⟨_,_,rfl,by simp,by simp,fun n hn => by simp at hn;omega,by decide,by decide⟩) (dS_ok hy hx ha (.inr ⟨rfl,rfl,rfl,.inl rfl⟩))
 have e:evS (dS st cols scr a y x la) (seqE [y' + 1,x' + 1] 72) = dS st cols scr a y' x' la:=by
  have hn:∀ n ∈ [y' + 1,x' + 1],n ≤ 65535:=fun n hn => by simp at hn;omega
  rw [show evS (dS st cols scr a y x la) (seqE [y' + 1,x' + 1] 72) = moveS (dS st cols scr a y x la) (countG (sings [y' + 1,x' + 1]) 0 - 1) (countG (sings [y' + 1,x' + 1]) 1 - 1) from rfl]
  rw [countG_sing (v:=y' + 1) (by simp) (by simp) hn rfl (by omega),countG_sing (v:=x' + 1) (by simp) (by simp) hn rfl (by omega)]
  unfold moveS
  rw [if_neg (by show ¬ (false = true);decide)]
  have e1:nearI (((y' + 1:Nat):Int) - 1) 0 (rowsS (dS st cols scr a y x la) - 1) = y':=by
   unfold nearI rowsS dS
   simp only [List.length_map]
   omega
  have e2:nearI (((x' + 1:Nat):Int) - 1) 0 (colsS (dS st cols scr a y x la) - 1) = x':=by
   show nearI (((x' + 1:Nat):Int) - 1) 0 ((cols:Int) - 1) = x'
   unfold nearI
   omega
  rw [e1,e2]
  rfl
 rw [e,evBytes_seq] at h
 exact h
theorem feed_turn {b:Atr} (hy:y < scr.length) (hx:x ≤ cols) (ha:RightA a) (hb:RightA b):Feeds (dS st cols scr a y x la) (turnI a b) (dS st cols scr b y x la):=by
 unfold turnI
 by_cases h:eqA a b = true
 · rw [if_pos h,eqA_iff.1 h]
   exact Feeds.refl _
 · rw [if_neg h]
   obtain ⟨c1,c2,c3⟩:=codesA_ok hb
   have h:=Feeds.one (s:=dS st cols scr a y x la) (e:=seqE (codesA b) 109) (.inr ⟨_,_,rfl,c1,c2,c3,by decide,by decide⟩) (dS_ok hy hx ha (.inr ⟨rfl,rfl,rfl,.inr (.inl rfl)⟩))
   have e:evS (dS st cols scr a y x la) (seqE (codesA b) 109) = dS st cols scr b y x la:=by
    show turnSc _ (sings (codesA b)) = _
    unfold turnSc
    rw [cleanL_sings _ c1 c2 c3]
    show { dS st cols scr a y x la with pen:={ (dS st cols scr a y x la).pen with at_:=turnA a (sings (codesA b)) } } = _
    rw [turnA_codes hb]
    rfl
   rw [e,evBytes_seq] at h
   exact h
theorem dS_row {l:List Cl} (hl:scr[y]? = some l) (f:List Cl→List Cl):rowP (dS st cols scr a y x la).pg y f = ⟨5,[],0,(scr.set y (f l)).map mkR,cols,[]⟩:=by
 have hy:=(List.getElem?_eq_some_iff.1 hl).1
 unfold rowP
 rw [if_pos (by unfold inP dS;simp;omega),Int.toNat_natCast]
 show Pg.mk 5 [] 0 ((scr.map mkR).modify y _) cols [] = _
 rw [map_modify hl]
theorem dS_back (l:List Cl):dS st cols (scr.set y l) a y x la = { dS st cols scr a y x la with pg:=⟨5,[],0,(scr.set y l).map mkR,cols,[]⟩ }:=by
 unfold dS
 simp only [List.length_set]
theorem dS_part (g:Pg) (hg:g = ⟨5,[],0,scr.map mkR,cols,[]⟩) (k:Int):contP g k false = g:=by
 subst hg
 unfold contP
 split
 · simp only [map_part]
 · rfl
theorem feed_erase {n:Nat} {l:List Cl} (hl:scr[y]? = some l) (hc:cols ≤ 1000) (hx:x < cols) (ha:RightA a) (h1:1 ≤ n) (h2:x + n ≤ cols):Feeds (dS st cols scr a y x la) (eraI n) (dS st cols (scr.set y (eraseL l x ((x:Int) + n) (backOf a))) a y x la):=by
 have hy:=(List.getElem?_eq_some_iff.1 hl).1
 have hn:∀ m ∈ [n],m ≤ 65535:=fun m hm => by simp at hm;omega
 have h:=Feeds.one (s:=dS st cols scr a y x la) (e:=seqE [n] 88) (.inr ⟨_,_,rfl,by simp,by simp,hn,by decide,by decide⟩) (dS_ok hy (by omega) ha (.inr ⟨rfl,rfl,rfl,.inr (.inr rfl)⟩))
 have e:evS (dS st cols scr a y x la) (seqE [n] 88) = dS st cols (scr.set y (eraseL l x ((x:Int) + n) (backOf a))) a y x la:=by
  show eraseCharsS _ (countG (sings [n]) 0) = _
  rw [countG_sing (v:=n) (by simp) (by simp) hn rfl h1]
  have e1:inS (dS st cols scr a y x la) = x:=by show min (x:Int) ((cols:Int) - 1) = x;omega
  have e2:inX (dS st cols scr a y x la) = dS st cols scr a y x la:=by
   unfold inX
   rw [e1]
   rfl
  have e3:nearI (n:Int) 1 1000 = n:=by unfold nearI;omega
  unfold eraseCharsS eraseS
  rw [e1,e2,e3]
  have e4:eraseP (dS st cols scr a y x la).pg (y:Int) (x:Int) ((x:Int) + n) (backOf a) = ⟨5,[],0,(scr.set y (eraseL l x ((x:Int) + n) (backOf a))).map mkR,cols,[]⟩:=by
   unfold eraseP
   rw [if_pos (by unfold inP dS;simp;omega),dS_row hl]
   simp only []
   split
   · split
     · rw [dS_part _ rfl,dS_part _ rfl]
     · rw [dS_part _ rfl]
   · rfl
  show { dS st cols scr a y x la with pg:=eraseP (dS st cols scr a y x la).pg (y:Int) (x:Int) ((x:Int) + n) (backOf a) } = _
  rw [e4,dS_back]
 rw [e,evBytes_seq] at h
 exact h
theorem wid_scal {r:Int} (h:widOf r ≠ -1):isScal r = true∧PrintR r:=by
 have hn:noneW r = false:=by
  cases hh:noneW r with
  | false => rfl
  | true => exact absurd (by unfold widOf;rw [hh,if_pos rfl]) h
 unfold noneW at hn
 simp only [Bool.or_eq_false_iff,Bool.and_eq_false_iff,decide_eq_false_iff_not] at hn
 unfold isScal PrintR
 simp only [Bool.and_eq_true,Bool.or_eq_true,decide_eq_true_eq]
 omega
theorem dS_map (r:Int):mapC (dS st cols scr a y x la).pen.ch r = r:=by
 show shownC 66 r = r
 unfold shownC
 rw [if_neg (by omega),if_neg (by omega),if_neg (by omega)]
theorem feed_put {r:Int} {l:List Cl} (hl:scr[y]? = some l) (w:Nat) (hw:widOf r = w) (hw1:1 ≤ w) (hx:x + w ≤ cols) (ha:RightA a):Feeds (dS st cols scr a y x la) (bytesR r) (dS st cols (scr.set y (putL l x r a)) a y (x + w) r):=by
 have hy:=(List.getElem?_eq_some_iff.1 hl).1
 obtain ⟨g1,g2⟩:=wid_scal (r:=r) (by omega)
 have h:=Feeds.one (s:=dS st cols scr a y x la) (e:=putE r) (.inl ⟨r,rfl,g1,g2⟩) (dS_ok hy (by omega) ha (.inl rfl))
 have e:evS (dS st cols scr a y x la) (putE r) = dS st cols (scr.set y (putL l x r a)) a y (x + w) r:=by
  show printS _ r = _
  unfold printS
  rw [dS_map]
  show writeS (dS st cols scr a y x la) r = _
  unfold writeS
  rw [hw,if_neg (by omega),if_neg (by omega)]
  have e1:roomS (dS st cols scr a y x la) w = dS st cols scr a y x la:=by
   unfold roomS
   rw [if_pos (by unfold colsS dS;simp only [];omega)]
  rw [e1]
  show layS (dS st cols scr a y x la) r w = _
  unfold layS
  show { dS st cols scr a y x la with pg:=rowP (dS st cols scr a y x la).pg y (fun l => putL l (x:Int) r a),x:=(x:Int) + w,last:=r } = _
  rw [dS_row hl]
  unfold dS
  simp only [List.length_set,Int.natCast_add]
 rw [e] at h
 exact h
theorem feed_mark {r:Int} {l:List Cl} (hl:scr[y]? = some l) (hw:widOf r = 0) (hx:x ≤ cols) (ha:RightA a):Feeds (dS st cols scr a y x la) (bytesR r) (dS st cols (scr.set y (markL l ((x:Int) - 1) r)) a y x la):=by
 have hy:=(List.getElem?_eq_some_iff.1 hl).1
 obtain ⟨g1,g2⟩:=wid_scal (r:=r) (by omega)
 have h:=Feeds.one (s:=dS st cols scr a y x la) (e:=putE r) (.inl ⟨r,rfl,g1,g2⟩) (dS_ok hy (by omega) ha (.inl rfl))
 have e:evS (dS st cols scr a y x la) (putE r) = dS st cols (scr.set y (markL l ((x:Int) - 1) r)) a y x la:=by
  show printS _ r = _
  unfold printS
  rw [dS_map]
  show writeS (dS st cols scr a y x la) r = _
  unfold writeS
  rw [if_pos hw]
  show { dS st cols scr a y x la with pg:=rowP (dS st cols scr a y x la).pg y (fun l => markL l ((x:Int) - 1) r) } = _
  rw [dS_row hl,dS_back]
 rw [e] at h
 exact h
end
structure Pn where
 P:Nat
 B:Nat
 ba:Value
 bf:Value
def aV (a:Atr):List Value:=[.int .i64 a.fk,.int .i64 a.fn,.int .i64 a.bk,.int .i64 a.bn,.int .i64 a.fl]
def pnX (v:Pn):List Nat:=v.P :: v.B :: v.bf.ownBlock.toList
structure PnO (base:Nat) (w:World) (v:Pn) (on:Atr) (l:List UInt8):Prop where
 p:w.heap[v.P]? = some (.cells (Value.pointer (some ⟨v.B,0,none⟩) :: aV on).toArray 212 (0,0))
 b:w.heap[v.B]? = some (.cells #[v.ba,v.bf] 76 (0,0))
 ad:v.ba = .pointer none ∨ v.ba = .pointer (some ⟨v.B,0,none⟩)
 own:w.ownsRow base 5 1 v.bf l.length (Lib.byteCells l)
 hp:base ≤ v.P
 hb:base ≤ v.B
def PnRes (base:Nat) (w:World) (v:Pn) (on:Atr) (l:List UInt8) (w':World):Prop:=∃ v':Pn,v'.P = v.P∧v'.B = v.B∧PnO base w' v' on l∧Mod (pnX v) w w'∧∀ x ∈ pnX v',x ∈ pnX v ∨ w.heap.size ≤ x
def PnPost (base:Nat) (w:World) (v:Pn) (on:Atr) (l:List UInt8) (e:Ending) (w':World):Prop:=e = .returned (.tuple #[])∧PnRes base w v on l w'
section
variable {base:Nat} {w:World} {v:Pn} {on:Atr} {l:List UInt8}
theorem PnO.PB (h:PnO base w v on l):v.P ≠ v.B:=block_ne h.p h.b (by decide)
theorem PnO.oP (h:PnO base w v on l):∀ g,v.bf.ownBlock = some g→g ≠ v.P∧g ≠ v.B:=fun g hg => by
 obtain ⟨cur,hc⟩:=own_block h.own hg
 exact ⟨block_ne hc h.p (by decide),block_ne hc h.b (by decide)⟩
theorem PnO.lt (h:PnO base w v on l):∀ b ∈ pnX v,base ≤ b∧b < w.heap.size:=fun b hb => by
 unfold pnX at hb
 rcases List.mem_cons.1 hb with rfl | hb
 · exact ⟨h.hp,lt_of_heap h.p⟩
 rcases List.mem_cons.1 hb with rfl | hb
 · exact ⟨h.hb,lt_of_heap h.b⟩
 · exact h.own.lt b (Option.mem_toList.1 hb)
theorem PnO.below {w':World} (h:PnO base w v on l) (hb:Below w.heap.size w w'):PnO base w' v on l :=
 ⟨(hb.block _ (lt_of_heap h.p)).trans h.p,(hb.block _ (lt_of_heap h.b)).trans h.b,h.ad,owns_mod h.own (Mod.of_below (X:=[]) hb) (fun _ _ h => by cases h),h.hp,h.hb⟩
theorem PnO.res (h:PnO base w v on l):PnRes base w v on l w:=⟨v,rfl,rfl,h,Mod.refl _ _,fun _ hx => .inl hx⟩
theorem PnRes.trans {w1 w2:World} {v1:Pn} {on2:Atr} {l2:List UInt8} (hP:v1.P = v.P) (hB:v1.B = v.B) (hx:∀ x ∈ pnX v1,x ∈ pnX v ∨ w.heap.size ≤ x) (hm:Mod (pnX v) w w1) (h2:PnRes base w1 v1 on2 l2 w2):PnRes base w v on2 l2 w2:=by
 obtain ⟨v2,a1,a2,a3,a4,a5⟩:=h2
 refine ⟨v2,a1.trans hP,a2.trans hB,a3,hm.trans a4 hx,fun x hx2 => ?_⟩
 rcases a5 x hx2 with h | h
 · exact hx x h
 · exact .inr (Nat.le_trans hm.size h)
theorem PnRes.pre {w1 w2:World} {on2:Atr} {l2:List UInt8} (hb:Below w.heap.size w w1) (h2:PnRes base w1 v on2 l2 w2):PnRes base w v on2 l2 w2:=PnRes.trans rfl rfl (fun _ hx => .inl hx) (Mod.of_below hb) h2
theorem PnRes.post {w1 w2:World} (h:PnRes base w v on l w1) (hb:Below w1.heap.size w1 w2):PnRes base w v on l w2:=by
 obtain ⟨v',a1,a2,a3,a4,a5⟩:=h
 exact ⟨v',a1,a2,a3.below hb,a4.then_below hb,a5⟩
theorem PnO.facts (h:PnO base w v on l):(w.cell? ⟨v.P,0,none⟩ = some (.pointer (some ⟨v.B,0,none⟩))∧w.frozen? ⟨v.P,0,none⟩ = false)∧(w.cell? ⟨v.P,1,none⟩ = some (.int .i64 on.fk)∧w.frozen? ⟨v.P,1,none⟩ = false)∧(w.cell? ⟨v.P,2,none⟩ = some (.int .i64 on.fn)∧w.frozen? ⟨v.P,2,none⟩ = false)∧(w.cell? ⟨v.P,3,none⟩ = some (.int .i64 on.bk)∧w.frozen? ⟨v.P,3,none⟩ = false)∧(w.cell? ⟨v.P,4,none⟩ = some (.int .i64 on.bn)∧w.frozen? ⟨v.P,4,none⟩ = false)∧(w.cell? ⟨v.P,5,none⟩ = some (.int .i64 on.fl)∧w.frozen? ⟨v.P,5,none⟩ = false) :=
 ⟨at_ h.p 0 _ rfl,at_ h.p 1 _ rfl,at_ h.p 2 _ rfl,at_ h.p 3 _ rfl,at_ h.p 4 _ rfl,at_ h.p 5 _ rfl⟩
theorem PnO.turn (h:PnO base w v on l) {a:Atr} {w':World} (hm:Mod [v.P] w w') (hp:w'.heap[v.P]? = some (.cells (Value.pointer (some ⟨v.B,0,none⟩) :: aV a).toArray 212 (0,0))):PnRes base w v a l w' :=
 ⟨v,rfl,rfl,⟨hp,(hm.block v.B (lt_of_heap h.b) (fun hx => h.PB (List.mem_singleton.1 hx).symm)).trans h.b,h.ad,owns_mod h.own hm (fun g hg hx => (h.oP g hg).1 (List.mem_singleton.1 hx)),h.hp,h.hb⟩,hm.mono (fun b hb => by rw [List.mem_singleton.1 hb];exact List.mem_cons_self ..),fun _ hx => .inl hx⟩
theorem lies_builderP {b:Nat} {c:Array Value} (h:w.heap[b]? = some (.cells c 76 (0,0))) (hc:c.size = 2):LiesB w b 0:=by
 refine ⟨76,2,?_,by decide,by kernel_rfl⟩
 simp [World.shape?,h,hc]
theorem pwrite_any (h:PnO base w v on l) (hbw:base ≤ w.heap.size) (s:ByteArray) (hs:l.length + s.size ≤ 100000000) :
 Calls Tryz.prog 101 #[.pointer (some ⟨v.B,0,none⟩),.string s] w fun e w' => e = .returned (.tuple #[.int .i64 s.size,.nilIface])∧PnRes base w v on (l ++ s.data.toList) w':=by
 refine (bwriteG base v.B 0 l.length v.ba v.bf (Lib.byteCells l) s w (lies_builderP h.b rfl) ⟨at_ h.b 0 _ rfl,at_ h.b 1 _ rfl,h.ad⟩ h.own (fun e => (h.oP _ e).2 rfl) hs hbw).mono ?_
 rintro e w' ⟨he,v',w1,w2,hw1,hg,ho,hn,hB,rfl⟩
 have hX:Mod (v.B :: v.bf.ownBlock.toList) w w1:=by
  rcases hw1 with rfl | rfl
  · exact Mod.refl _ _
  · exact (Mod.refl _ _).setCell (a:=⟨v.B,0,none⟩) (.inl (List.mem_cons_self ..)) _
 have hX2:Mod (v.B :: v.bf.ownBlock.toList) w w2:=hX.trans (Mod.of_grown hg (fun g e => List.mem_cons_of_mem _ (Option.mem_toList.2 e))) (fun _ hx => .inl hx)
 have hX3:Mod [v.B] w2 (w2.setCell ⟨v.B,0 + 1,none⟩ v'):=(Mod.refl _ _).setCell (a:=⟨v.B,0 + 1,none⟩) (.inl (List.mem_singleton.2 rfl)) _
 have hX4:Mod (v.B :: v.bf.ownBlock.toList) w (w2.setCell ⟨v.B,0 + 1,none⟩ v'):=hX2.trans (hX3.mono (fun b hb => by rw [List.mem_singleton.1 hb];exact List.mem_cons_self ..)) (fun _ hx => .inl hx)
 have hblk:∃ x,w2.heap[v.B]? = some (.cells #[x,v.bf] 76 (0,0)):=by
  have hgb:∀ W:World,W.grownBy w2 v.bf.ownBlock→(∃ x,W.heap[v.B]? = some (.cells #[x,v.bf] 76 (0,0)))→∃ x,w2.heap[v.B]? = some (.cells #[x,v.bf] 76 (0,0)):=fun W hg ⟨x,hx⟩ => ⟨x,(hg.block v.B (lt_of_heap hx) (fun e => (h.oP _ e.symm).2 rfl)).trans hx⟩
  rcases hw1 with rfl | rfl
  · exact hgb _ hg ⟨_,h.b⟩
  · exact hgb _ hg ⟨.pointer (some ⟨v.B,0,none⟩),by
     have:=heap_setCell_eq (o:=0) (v:=.pointer (some ⟨v.B,0,none⟩)) h.b
     exact this⟩
 obtain ⟨x,hx⟩:=hblk
 have hx0:=hB.h0.1
 rw [(at_ hx 0 x rfl).1] at hx0
 obtain rfl:x = .pointer (some ⟨v.B,0,none⟩):=Option.some.inj hx0
 refine ⟨he,{ v with ba:=.pointer (some ⟨v.B,0,none⟩),bf:=v' },rfl,rfl,⟨?_,?_,.inr rfl,?_,h.hp,h.hb⟩,hX4.mono (fun b hb => List.mem_cons_of_mem _ hb),fun y hy => ?_⟩
 · refine (hX4.block v.P (lt_of_heap h.p) (fun hm => ?_)).trans h.p
   rcases List.mem_cons.1 hm with e | e
   · exact h.PB e
   · exact (h.oP _ (Option.mem_toList.1 e)).1 rfl
 · have:=heap_setCell_eq (o:=1) (v:=v') hx
   exact this
 · have hlen:(l ++ s.data.toList).length = l.length + s.size:=by rw [List.length_append,Array.length_toList];rfl
   have hby:Lib.byteCells (l ++ s.data.toList) = Lib.byteCells l ++ Lib.strCells s:=by simp [Lib.byteCells,Lib.strCells]
   rw [hlen,hby]
   refine owns_mod ho hX3 (fun g hg2 hm => ?_)
   rw [List.mem_singleton.1 hm] at hg2
   rcases hn _ hg2 with e | e
   · exact (h.oP _ e).2 rfl
   · have:=lt_of_heap h.b;omega
 · rcases List.mem_cons.1 hy with rfl | hy
   · exact .inl (List.mem_cons_self ..)
   rcases List.mem_cons.1 hy with rfl | hy
   · exact .inl (List.mem_cons_of_mem _ (List.mem_cons_self ..))
   · exact (hn y (Option.mem_toList.1 hy)).imp (fun e => List.mem_cons_of_mem _ (List.mem_cons_of_mem _ (Option.mem_toList.2 e))) id
end
theorem gr_of_crO {w:World} {base g c:Nat} {X:List Cl} (h:CrO w base g c X):GrAt encCl 8 w (some ⟨g,0,none⟩) X:=fun _ => by
 refine ⟨g,0,rfl,fun i x hi j v hj => ?_⟩
 rw [Nat.zero_add]
 exact (owns_hold h (i:=i * 8 + j) (by rw [flat_at2 encCl_len X i x j hi (by have:=(List.getElem?_eq_some_iff.1 hj).1;rw [encCl_len] at this;exact this)];exact hj)).1
theorem gr_of_cls {w:World} {A:Option Addr} {l:List Cl} (h:ClsAt w A l):GrAt encCl 8 w A l:=fun h0 => by
 obtain ⟨b,off,hA,hc⟩:=h h0
 refine ⟨b,off,hA,fun i c hi j v hv => ?_⟩
 obtain ⟨c0,c1,c2,c3,c4,c5,c6,c7⟩:=hc i c hi
 rcases j with _ | _ | _ | _ | _ | _ | _ | _ | j <;> simp [encCl] at hv <;> subst hv <;> assumption
set_option maxHeartbeats 3200000 in
theorem cright_any (A:Option Addr) (l:List Cl) (ca:Nat) (w:World) (hl:ClsAt w A l) (h0:0 < l.length) (hz:l.length ≤ 1000) (hm:mendL l = l) (hok:∀ c ∈ l,CellOk c) :
 Calls Tryz.prog 49 #[.slice A l.length ca] w fun e w' => e = .returned (.bool true)∧Below w.heap.size w w':=by
 have HM:=Hd (cMend_any A l ca w (gr_of_cls hl) h0 (by omega))
 rw [hm] at HM
 have HL:=Hd hl
 have HOK:=Hd hok
 clear hl hm hok
 go_enter Tryz.func49,Tryz.ntmps49
 go_wp2_with (go_at_call 56;(with_reducible refine HM.out.mono ?_);rintro e w1 ⟨g,cap,rfl,hcr,hb1⟩)
 have HG:=Hd (gr_of_crO hcr h0)
 have HB1:=Hd hb1
 clear hcr hb1
 go_loopw [8] (fun i wr => ∃ k:Nat,k ≤ l.length∧i = .int .i64 k∧Below w1.heap.size w1 wr) (fun i _ => l.length - (intOf i).toNat)
 case atStart => exact ⟨0,Nat.zero_le _,rfl,Below.refl _ _⟩
 case round =>
  obtain ⟨k,hk,rfl,hB⟩:=hrel
  by_cases hlt:k < l.length
  · obtain ⟨g',off',hg',hcm⟩:=HG.out
    simp only [Option.some.injEq,Addr.mk.injEq] at hg'
    obtain ⟨rfl,rfl,-⟩:=hg'
    obtain ⟨b,off,rfl,hcl⟩:=HL.out h0
    have hget:=List.getElem?_eq_getElem hlt
    have hm:=hcm k _ hget
    have hr:=((hcl k _ hget).below HB1.out).below hB
    have hcok:=HOK.out _ (List.getElem_mem hlt)
    generalize l[k] = c at hm hr hcok
    clear hcm hcl hget
    have HF:=Hd (fun w => cfine_any c hcok w)
    clear hcok
    obtain ⟨r0,r1,r2,r3,r4,r5,r6,r7⟩:=hr
    have m0:=holda hB (hm 0 _ rfl)
    have m1:=holda hB (hm 1 _ rfl)
    have m2:=holda hB (hm 2 _ rfl)
    have m3:=holda hB (hm 3 _ rfl)
    have m4:=holda hB (hm 4 _ rfl)
    have m5:=holda hB (hm 5 _ rfl)
    have m6:=holda hB (hm 6 _ rfl)
    have m7:=holda hB (hm 7 _ rfl)
    clear hm
    simp only [Nat.zero_add,Nat.add_zero] at m0 m1 m2 m3 m4 m5 m6 m7
    obtain ⟨cr,cm,chf,c3,c4,c5,c6,c7⟩:=c
    unfold clV at HF
    simp only at HF r0 r1 r2 r3 r4 r5 r6 r7 m0 m1 m2 m3 m4 m5 m6 m7
    go_upto_region 4 with fail
    have hBA:=(Below.refl wr.heap.size wr).alloc (Nat.le_refl _) (.cells #[.int .i32 cr,.string cm,.int .i64 chf,.int .i64 c3,.int .i64 c4,.int .i64 c5,.int .i64 c6,.int .i64 c7] 65)
    have n0:=(at_ (hp_new (W:=wr) (o:=(.cells #[.int .i32 cr,.string cm,.int .i64 chf,.int .i64 c3,.int .i64 c4,.int .i64 c5,.int .i64 c6,.int .i64 c7] 65)) rfl) 0 _ rfl).1
    have n1:=(at_ (hp_new (W:=wr) (o:=(.cells #[.int .i32 cr,.string cm,.int .i64 chf,.int .i64 c3,.int .i64 c4,.int .i64 c5,.int .i64 c6,.int .i64 c7] 65)) rfl) 1 _ rfl).1
    have n2:=(at_ (hp_new (W:=wr) (o:=(.cells #[.int .i32 cr,.string cm,.int .i64 chf,.int .i64 c3,.int .i64 c4,.int .i64 c5,.int .i64 c6,.int .i64 c7] 65)) rfl) 2 _ rfl).1
    have n3:=(at_ (hp_new (W:=wr) (o:=(.cells #[.int .i32 cr,.string cm,.int .i64 chf,.int .i64 c3,.int .i64 c4,.int .i64 c5,.int .i64 c6,.int .i64 c7] 65)) rfl) 3 _ rfl).1
    have n4:=(at_ (hp_new (W:=wr) (o:=(.cells #[.int .i32 cr,.string cm,.int .i64 chf,.int .i64 c3,.int .i64 c4,.int .i64 c5,.int .i64 c6,.int .i64 c7] 65)) rfl) 4 _ rfl).1
    have n5:=(at_ (hp_new (W:=wr) (o:=(.cells #[.int .i32 cr,.string cm,.int .i64 chf,.int .i64 c3,.int .i64 c4,.int .i64 c5,.int .i64 c6,.int .i64 c7] 65)) rfl) 5 _ rfl).1
    have n6:=(at_ (hp_new (W:=wr) (o:=(.cells #[.int .i32 cr,.string cm,.int .i64 chf,.int .i64 c3,.int .i64 c4,.int .i64 c5,.int .i64 c6,.int .i64 c7] 65)) rfl) 6 _ rfl).1
    have n7:=(at_ (hp_new (W:=wr) (o:=(.cells #[.int .i32 cr,.string cm,.int .i64 chf,.int .i64 c3,.int .i64 c4,.int .i64 c5,.int .i64 c6,.int .i64 c7] 65)) rfl) 7 _ rfl).1
    replace r0:=holda hBA r0
    replace r1:=holda hBA r1
    replace r2:=holda hBA r2
    replace r3:=holda hBA r3
    replace r4:=holda hBA r4
    replace r5:=holda hBA r5
    replace r6:=holda hBA r6
    replace r7:=holda hBA r7
    have HB2:=Hd (below_allocs hB (.cells #[.int .i32 cr,.string cm,.int .i64 chf,.int .i64 c3,.int .i64 c4,.int .i64 c5,.int .i64 c6,.int .i64 c7] 65))
    have hsN:=World.size_alloc wr (.cells #[.int .i32 cr,.string cm,.int .i64 chf,.int .i64 c3,.int .i64 c4,.int .i64 c5,.int .i64 c6,.int .i64 c7] 65)
    clear hBA m0 m1 m2 m3 m4 m5 m6 m7
    generalize hW:wr.alloc (.cells #[.int .i32 cr,.string cm,.int .i64 chf,.int .i64 c3,.int .i64 c4,.int .i64 c5,.int .i64 c6,.int .i64 c7] 65) = W at n0 n1 n2 n3 n4 n5 n6 n7 r0 r1 r2 r3 r4 r5 r6 r7 HB2 hsN ⊢
    clear hW
    obtain ⟨N,hN⟩:∃ N,wr.heap.size = N:=⟨_,rfl⟩
    rw [hN] at n0 n1 n2 n3 n4 n5 n6 n7 hsN ⊢
    clear hN
    refine wp_region_u 5 (fun w' => Below W.heap.size W w'∧w'.cell? ⟨N,0,none⟩ = some (.int .i32 cr)∧w'.cell? ⟨N,1,none⟩ = some (.string cm)∧w'.cell? ⟨N,2,none⟩ = some (.int .i64 chf)∧w'.cell? ⟨N,3,none⟩ = some (.int .i64 c3)∧w'.cell? ⟨N,4,none⟩ = some (.int .i64 c4)∧w'.cell? ⟨N,5,none⟩ = some (.int .i64 c5)∧w'.cell? ⟨N,6,none⟩ = some (.int .i64 c6)∧w'.cell? ⟨N,7,none⟩ = some (.int .i64 c7)∧w'.cell? ⟨b,off + k * 8,none⟩ = some (.int .i32 cr)∧w'.cell? ⟨b,off + k * 8 + 1,none⟩ = some (.string cm)∧w'.cell? ⟨b,off + k * 8 + 2,none⟩ = some (.int .i64 chf)∧w'.cell? ⟨b,off + k * 8 + 3,none⟩ = some (.int .i64 c3)∧w'.cell? ⟨b,off + k * 8 + 4,none⟩ = some (.int .i64 c4)∧w'.cell? ⟨b,off + k * 8 + 5,none⟩ = some (.int .i64 c5)∧w'.cell? ⟨b,off + k * 8 + 6,none⟩ = some (.int .i64 c6)∧w'.cell? ⟨b,off + k * 8 + 7,none⟩ = some (.int .i64 c7)) (by kernel_rfl) (by kernel_rfl) ?_ ?_
    · exact ⟨(Below.refl _ _).drew,n0,n1,n2,n3,n4,n5,n6,n7,r0,r1,r2,r3,r4,r5,r6,r7⟩
    simp only [List.take_succ_cons,List.take_zero,List.drop_succ_cons,List.drop_zero]
    repeat (
     (first
      | refine seqU_skip (by rfl) ?_
      | (refine seqU_val ?_ (by rfl) ?_ ?_;rotate_left;(focus (intro w' hS;obtain ⟨_,_,_,_,_,_,_,_,_,_,_,_,_,_,_,_,_⟩:=hS;go_simp;first | done | with_reducible rfl))))
     simp only [Act.put,List.setIfInBounds_toArray,List.set_cons_zero,List.set_cons_succ])
    refine seqU_nil (fun w' hS => ?_)
    obtain ⟨hb2,n0',n1',n2',n3',n4',n5',n6',n7',_⟩:=hS
    have HB3:=Hd (below_tail HB2.out hb2)
    clear hb2
    go_wp2_with (go_at_call 92;(with_reducible refine (HF.out _).mono ?_);rintro e w3 ⟨rfl,hb3⟩)
    go_roundw
    case rel => exact ⟨k + 1,by omega,by go_num,below_tail HB3.out hb3⟩
    case measure => simp [intOf];omega
  · obtain rfl:k = l.length:=by omega
    go_wp2
    go_ret
    exact ⟨by first | rfl | simp,below_tail HB1.out hB⟩
theorem own_formP {w:World} {base n size:Nat} {e:TypeId} {v:Value} {xs:List Value} (h:w.ownsRow base e size v n xs) (hn:0 < n):∃ g c,v = .slice (some ⟨g,0,none⟩) n c:=by
 rcases h.2 with ⟨-,h0⟩ | ⟨g,cap,cur,rfl,-⟩
 · omega
 · exact ⟨g,cap,rfl⟩
section
variable {P:Program}
theorem wpList_append_gP {ops:Array Oper} {rest:List Oper} {o:Oper} {a:Act} {w:World} {Q:Exit→Act→World→Prop} (hgd:o.guard = none) (s x:Operand) (t:TypeId)
 (ho:o.op = .call { callee:=.builtin .append,args:=#[s,x],argTypes:=#[t,t] }) (base:Nat) (e:TypeId) (i:TypeInfo) (z:Value) (size bytes:Nat) (ht:P.underlying t = some (.slice e)) (hi:P.info? e = some i) (hz:i.zero = some z) (hsize:i.size = size) (hby:i.bytes = bytes) (hzs:z.cells.size = size) (hsz:0 < size)
 (v:Value) (n:Nat) (xs:List Value) (hs:a.eval s = v) (hown:w.ownsRow base e size v n xs) (ad:Addr) (m c:Nat) (news:List Value) (hx:a.eval x = .slice (some ad) m c) (hl:news.length = m * size) (hnews:∀ j u,news[j]? = some u→w.cell? (ad.add j) = some u) (h1:∀ u ∈ news,u.oneCell' = true)
 (h63:n + m ≤ maxLen) (hbytes:(n + m) * bytes ≤ 140737488355328) (hbase:base ≤ w.heap.size)
 (h:∀ v' w',w'.ownsRow base e size v' (n + m) (xs ++ news)→w.grownBy w' v.ownBlock→(∀ g,v'.ownBlock = some g→v.ownBlock = some g ∨ w.heap.size ≤ g)→wpList P ops Q rest (a.put o.dst v') w'):wpList P ops Q (o :: rest) a w:=by
 obtain ⟨v',w',hr,h2,h3,-,h4⟩:=run_append_own_at (P:=P) w base t o.type e i z size bytes ht hi hz hsize hby hzs hsz v n xs hown ad m c news hl hnews h1 h63 hbytes hbase
 refine wpList_plain hgd fun K hK => ?_
 unfold Oper.wp execOp
 simp only [ho,resolve,invoke,builtin,Sem.run_bind,Sem.run_pure,Result.andThen_ok,List.map_toArray,List.map_cons,List.map_nil,hs,hx,hr]
 exact hK _ _ (h _ _ h2 h3 (fun g hg => by
  rcases h4 with h4 | h4
  · exact .inl (by rw [← h4];exact hg)
  · rw [h4] at hg;injection hg with hg;exact .inr (by omega)))
end
instance:DecidableEq Atr:=fun a b => by
 cases a;cases b
 simp only [Atr.mk.injEq]
 exact inferInstance
theorem take_eq_succ {α:Type} [DecidableEq α] {l m:List α} {k:Nat} {a b:α} (ha:l[k]? = some a) (hb:m[k]? = some b) (h:l.take k = m.take k) (e:a = b):l.take (k + 1) = m.take (k + 1):=by
 have h1:=(List.getElem?_eq_some_iff.1 ha)
 have h2:=(List.getElem?_eq_some_iff.1 hb)
 obtain ⟨p1,q1⟩:=h1
 obtain ⟨p2,q2⟩:=h2
 rw [List.take_succ_eq_append_getElem p1,List.take_succ_eq_append_getElem p2,h,q1,q2,e]
theorem ne_of_at {α:Type} {l m:List α} {k:Nat} {a b:α} (ha:l[k]? = some a) (hb:m[k]? = some b) (e:a ≠ b):l ≠ m:=by
 rintro rfl
 rw [ha] at hb
 injection hb with hb
 exact e hb
set_option maxHeartbeats 1600000 in
theorem SameCells_any (A B:Option Addr) (l m:List Cl) (ca cb:Nat) (w:World) (hl:ClsAt w A l) (hm:ClsAt w B m) (hz:l.length ≤ 9223372036854775807) (hz2:m.length ≤ 9223372036854775807) :
 Calls Tryz.prog 57 #[.slice A l.length ca,.slice B m.length cb] w fun e w' => e = .returned (.bool (decide (l = m)))∧Below w.heap.size w w':=by
 have HL:=Hd hl
 have HM:=Hd hm
 clear hl hm
 by_cases hlen:l.length = m.length
 rotate_left
 · have e:decide (l = m) = false:=by simp;rintro rfl;exact hlen rfl
   rw [e];clear e
   have h':((l.length:Int) != (m.length:Int)) = true:=by simp;omega
   clear hlen
   go_enter Tryz.func57,Tryz.ntmps57
   go_wp2
   go_ret
   exact ⟨rfl,Below.refl _ _⟩
 · have HE:=Hd hlen
   have h':((l.length:Int) != (m.length:Int)) = false:=by simp;omega
   have hle:l.length ≤ m.length:=by omega
   have hge:m.length ≤ l.length:=by omega
   clear hlen
   generalize hX:decide (l = m) = X
   have HX:=Hd hX
   clear hX
   go_enter Tryz.func57,Tryz.ntmps57
   go_wp2_with fail
   go_loopw [5] (fun i wr => ∃ k:Nat,k ≤ l.length∧i = .int .i64 k∧Below w.heap.size w wr∧l.take k = m.take k) (fun i _ => l.length - (intOf i).toNat)
   case atStart => exact ⟨0,Nat.zero_le _,rfl,Below.refl _ _,rfl⟩
   case round =>
    obtain ⟨k,hk,rfl,hB,htk⟩:=hrel
    have HT:=Hd htk
    clear htk
    by_cases hlt:k < l.length
    rotate_left
    · go_wp2
      go_ret
      refine ⟨?_,hB⟩
      have h1:=HT.out
      rw [List.take_of_length_le (by omega),List.take_of_length_le (by omega)] at h1
      rw [← HX.out,h1];simp
    · have hltm:k < m.length:=by omega
      obtain ⟨b,off,x,rfl,hx,cx⟩:=HL.out.at_ hlt
      obtain ⟨b',off',y,rfl,hy,cy⟩:=HM.out.at_ hltm
      have HXX:=Hd hx
      have HYY:=Hd hy
      clear hx hy
      replace cx:=cx.below hB
      replace cy:=cy.below hB
      unfold ClAt at cx cy
      go_wp2_with fail
      refine wp_region_u 8 (fun w' => Below wr.heap.size wr w'∧(w'.cell? ⟨b,off + k * 8,none⟩ = some (.int .i32 x.r)∧w'.cell? ⟨b,off + k * 8 + 1,none⟩ = some (.string x.more)∧w'.cell? ⟨b,off + k * 8 + 2,none⟩ = some (.int .i64 x.half)∧w'.cell? ⟨b,off + k * 8 + 3,none⟩ = some (.int .i64 x.fk)∧w'.cell? ⟨b,off + k * 8 + 4,none⟩ = some (.int .i64 x.fn)∧w'.cell? ⟨b,off + k * 8 + 5,none⟩ = some (.int .i64 x.bk)∧w'.cell? ⟨b,off + k * 8 + 6,none⟩ = some (.int .i64 x.bn)∧w'.cell? ⟨b,off + k * 8 + 7,none⟩ = some (.int .i64 x.fl))∧(w'.cell? ⟨b',off' + k * 8,none⟩ = some (.int .i32 y.r)∧w'.cell? ⟨b',off' + k * 8 + 1,none⟩ = some (.string y.more)∧w'.cell? ⟨b',off' + k * 8 + 2,none⟩ = some (.int .i64 y.half)∧w'.cell? ⟨b',off' + k * 8 + 3,none⟩ = some (.int .i64 y.fk)∧w'.cell? ⟨b',off' + k * 8 + 4,none⟩ = some (.int .i64 y.fn)∧w'.cell? ⟨b',off' + k * 8 + 5,none⟩ = some (.int .i64 y.bk)∧w'.cell? ⟨b',off' + k * 8 + 6,none⟩ = some (.int .i64 y.bn)∧w'.cell? ⟨b',off' + k * 8 + 7,none⟩ = some (.int .i64 y.fl))) (by kernel_rfl) (by kernel_rfl) ?_ ?_
      · exact ⟨(Below.refl _ _).drew,cx,cy⟩
      simp only [List.take_succ_cons,List.take_zero,List.drop_succ_cons,List.drop_zero]
      repeat (refine seqU_val ?_ (by rfl) ?_ ?_;rotate_left;· (intro w' hS;obtain ⟨_,_,_⟩:=hS;go_simp;first | done | with_reducible rfl)
              simp only [Act.put,List.setIfInBounds_toArray,List.set_cons_zero,List.set_cons_succ])
      refine seqU_nil (fun w' hS => ?_)
      have hB4:=hS.1
      clear hS
      refine wpList_val (.bool (!decide (x = y))) rfl (exec_neq_cell _ _ _ _ _ _ _ _ x y rfl rfl w') ?_
      by_cases hxy:x = y
      · rw [show (!decide (x = y)) = false from by simp [hxy]]
        simp only [Act.put,List.setIfInBounds_toArray,List.set_cons_zero,List.set_cons_succ]
        have HXY:=Hd hxy
        clear hxy
        go_wp2
        go_roundw
        case rel => exact ⟨k + 1,by omega,by go_num,below_tail hB hB4,take_eq_succ HXX.out HYY.out HT.out HXY.out⟩
        case measure => simp [intOf];omega
      · rw [show (!decide (x = y)) = true from by simp [hxy]]
        simp only [Act.put,List.setIfInBounds_toArray,List.set_cons_zero,List.set_cons_succ]
        have HXY:=Hd hxy
        clear hxy
        go_wp2
        go_ret
        refine ⟨?_,below_tail hB hB4⟩
        rw [← HX.out,show decide (l = m) = false from by simp;exact ne_of_at HXX.out HYY.out HXY.out]
        rfl
open Go.RowKit Go.ChangeShapes Go.WideShapes Go.Deep
section
variable {H:Type} {enc:TypeId × Value→H} {P:Program} {w:World} {base:Nat} {spare:Nat→Bool} {held:Bool}
theorem list_of_forall {α:Type} {Q:Nat→α→Prop}:∀ (n:Nat),(∀ i,i < n→∃ s,Q i s)→∃ l:List α,l.length = n∧∀ i s,l[i]? = some s→Q i s
 | 0,_ => ⟨[],rfl,fun i s h => by simp at h⟩
 | n + 1,h => by
   obtain ⟨l,hl,hq⟩:=list_of_forall n (fun i hi => h i (by omega))
   obtain ⟨s,hs⟩:=h n (by omega)
   refine ⟨l ++ [s],by simp [hl],fun i u hu => ?_⟩
   by_cases hi:i < l.length
   · rw [List.getElem?_append_left hi] at hu
     exact hq i u hu
   · rw [List.getElem?_append_right (by omega)] at hu
     have:i - l.length = 0:=by
      rcases Nat.eq_zero_or_pos (i - l.length) with h0 | h0
      · exact h0
      · rw [List.getElem?_eq_none (by simp;omega)] at hu;cases hu
     rw [this] at hu
     obtain rfl:s = u:=by simpa using hu
     have e:i = n:=by omega
     rw [e];exact hs
end
end Go.Proofs.YtaefcahblmopfaaGreatDoor
