/- Joined by a tool of this claim out of smaller texts. Conditions: as stated. -/
import Derived.Test.YtaefcahblmopfaaGreatDoorDp26
import Derived.RangeFuncKeeps
import Derived.RangeFuncNested
import Derived.RangeFuncBound
import Derived.RangeFuncCalls
import Derived.RangeFuncLeaves
import Derived.RangeFuncBox
import Derived.OwnWalkIn
import Derived.TacticsInMore
import Derived.LoopNIn
import Derived.LoopIn
import Derived.Lib.ConvBytes
set_option linter.unusedVariables false
set_option linter.unusedSimpArgs false
set_option maxRecDepth 100000
open Go.Lib renaming hid → Hd
namespace Go.Proofs.YtaefcahblmopfaaGreatDoor
open Go.RowKit
def flagsT:List (Nat × Int):=[(1,1),(2,2),(3,4),(4,8),(5,16),(7,32),(8,64),(9,128),(21,256),(53,512)]
def flagCs (f:Int):List Nat:=(flagsT.filter (fun x => hasF f x.2)).map (·.1)
def paintC (k n:Int) (m:Nat):List Nat:=if k = 1 then [m,5,n.toNat] else if k = 2 then [m,2,(n / 65536).toNat,(n / 256 % 256).toNat,(n % 256).toNat] else []
def codesA (a:Atr):List Nat:=0 :: (flagCs a.fl ++ (paintC a.fk a.fn 38 ++ paintC a.bk a.bn 48))
def sings (l:List Nat):List (List Int):=l.map (fun n:Nat => [(n:Int)])
def RightA (a:Atr):Prop:=attB a.fk a.fn a.bk a.bn a.fl = true
theorem RightA.parts {a:Atr} (h:RightA a):colB a.fk a.fn = true∧colB a.bk a.bn = true∧0 ≤ a.fl∧a.fl < 1024∧(hasN a.fl 8 && hasN a.fl 256) = false:=by
 unfold RightA attB at h
 simp only [Bool.and_eq_true,decide_eq_true_eq,Bool.not_eq_true'] at h
 exact ⟨h.1.1.1.1,h.1.1.1.2,h.1.1.2,h.1.2,h.2⟩
theorem RightA.fl {a:Atr} (h:RightA a):FlOk a.fl:=⟨h.parts.2.2.1,h.parts.2.2.2.1⟩
theorem RightA.zero:RightA zeroA:=by unfold RightA;decide
theorem cleanL_sings (l:List Nat) (h0:l ≠ []) (h1:l.length ≤ 32) (h2:∀ n ∈ l,n ≤ 65535):cleanL (sings l) = sings l:=by
 unfold cleanL sings
 rw [if_neg (by simpa using h0),List.take_of_length_le (by simpa using h1),List.map_map]
 refine List.map_congr_left (fun n hn => ?_)
 have:=h2 n hn
 show cleanG [(n:Int)] = [(n:Int)]
 unfold cleanG cleanN
 simp only [List.length_cons,List.length_nil]
 rw [if_neg (by decide)]
 simp only [List.take_succ_cons,List.take_nil,List.map_cons,List.map_nil,List.cons.injEq,and_true]
 omega
theorem fst_sing {l:List (List Int)} {i v:Nat} (h:l[i]? = some [(v:Int)]):fstG l i = v:=by
 unfold fstG
 rw [List.getD_eq_getElem?_getD,h]
 show max 0 (v:Int) = v
 omega
theorem turn_flag {l:List (List Int)} {i v:Nat} (a:Atr) (h:l[i]? = some [(v:Int)]) (hv:v ≠ 38∧v ≠ 48):turnN l.length a l i = turnN l.length (simpA a (v:Int) [(v:Int)]) l (i + 1):=by
 rw [turnN_step l a i (List.getElem?_eq_some_iff.1 h).1]
 unfold stepA
 rw [fst_sing h,if_neg (by omega),List.getD_eq_getElem?_getD,h]
 rfl
theorem turn_flags:∀ (F:List Nat) (l:List (List Int)) (i:Nat) (a:Atr),(∀ (j v:Nat),F[j]? = some v→l[i + j]? = some [(v:Int)])→(∀ v ∈ F,v ≠ 38∧v ≠ 48)→turnN l.length a l i = turnN l.length (F.foldl (fun (a:Atr) (v:Nat) => simpA a (v:Int) [(v:Int)]) a) l (i + F.length)
 | [],_,_,_,_,_ => rfl
 | v :: F,l,i,a,h,hv => by
   have h0:=h 0 v rfl
   rw [Nat.add_zero] at h0
   rw [turn_flag a h0 (hv v (List.mem_cons_self ..)),turn_flags F l (i + 1) _ (fun j u hj => by rw [show i + 1 + j = i + (j + 1) by omega];exact h (j + 1) u hj) (fun u hu => hv u (List.mem_cons_of_mem _ hu))]
   rw [show i + 1 + F.length = i + (v :: F).length by simp;omega]
   rfl
theorem turn_paint {k n:Int} {m:Nat} {l:List (List Int)} {i:Nat} (a:Atr) (hm:m = 38 ∨ m = 48) (hc:colB k n = true) (h:∀ (j v:Nat),(paintC k n m)[j]? = some v→l[i + j]? = some [(v:Int)]) :
 turnN l.length a l i = turnN l.length (if k = 0 then a else putA a m (some ⟨k,n⟩)) l (i + (paintC k n m).length):=by
 have hk:(k = 0∧n = 0) ∨ (k = 1∧0 ≤ n∧n < 256) ∨ (k = 2∧0 ≤ n∧n < 16777216):=by
  unfold colB at hc
  rw [decide_eq_true_eq] at hc
  omega
 rcases hk with ⟨rfl,rfl⟩ | ⟨rfl,h1,h2⟩ | ⟨rfl,h1,h2⟩
 · rfl
 · have e:paintC 1 n m = [m,5,n.toNat]:=rfl
   rw [e] at h ⊢
   have g0:=h 0 _ rfl
   have g1:=h 1 _ rfl
   have g2:=h 2 _ rfl
   rw [turnN_step l a i (by have:=(List.getElem?_eq_some_iff.1 g0).1;omega)]
   have f0:=fst_sing g0
   have f1:=fst_sing g1
   have f2:=fst_sing g2
   rw [Nat.add_zero] at g0 f0
   have hx:extG l i = (some ⟨1,n⟩,i + 3):=by
    unfold extG
    rw [List.getD_eq_getElem?_getD,g0]
    simp only [Option.getD_some]
    rw [if_neg (by simp),f1,if_pos (by decide),f2,if_pos ⟨(List.getElem?_eq_some_iff.1 g2).1,by omega⟩]
    congr 2
    congr 1
    omega
   unfold stepA
   rw [f0,if_pos (by omega),hx,if_neg (by decide)]
   rfl
 · have e:paintC 2 n m = [m,2,(n / 65536).toNat,(n / 256 % 256).toNat,(n % 256).toNat]:=rfl
   rw [e] at h ⊢
   have g0:=h 0 _ rfl
   have g1:=h 1 _ rfl
   have g2:=h 2 _ rfl
   have g3:=h 3 _ rfl
   have g4:=h 4 _ rfl
   rw [turnN_step l a i (by have:=(List.getElem?_eq_some_iff.1 g0).1;omega)]
   have f0:=fst_sing g0
   have f1:=fst_sing g1
   have f2:=fst_sing g2
   have f3:=fst_sing g3
   have f4:=fst_sing g4
   rw [Nat.add_zero] at g0 f0
   have hx:extG l i = (some ⟨2,n⟩,i + 5):=by
    unfold extG
    rw [List.getD_eq_getElem?_getD,g0]
    simp only [Option.getD_some]
    rw [if_neg (by simp),f1,if_neg (by decide),if_pos (by decide),f2,f3,f4,if_pos ⟨(List.getElem?_eq_some_iff.1 g4).1,by omega,by omega,by omega⟩]
    congr 2
    congr 1
    omega
   unfold stepA
   rw [f0,if_pos (by omega),hx,if_neg (by decide)]
   rfl
theorem flags_back:∀ f:Fin 1024,(hasN (f.val:Int) 8 && hasN (f.val:Int) 256) = false→(flagCs (f.val:Int)).foldl (fun (g:Int) (v:Nat) => flagsA g (v:Int) [(v:Int)]) 0 = (f.val:Int):=by decide +kernel
theorem flagCs_in (f:Int):∀ v ∈ flagCs f,v = 1 ∨ v = 2 ∨ v = 3 ∨ v = 4 ∨ v = 5 ∨ v = 7 ∨ v = 8 ∨ v = 9 ∨ v = 21 ∨ v = 53:=fun v hv => by
 unfold flagCs at hv
 obtain ⟨x,hx,rfl⟩:=List.mem_map.1 hv
 have:=(List.mem_filter.1 hx).1
 simp only [flagsT,List.mem_cons,List.not_mem_nil,or_false] at this
 rcases this with rfl | rfl | rfl | rfl | rfl | rfl | rfl | rfl | rfl | rfl <;> simp
theorem flagCs_len (f:Int):(flagCs f).length ≤ 10:=by
 unfold flagCs
 rw [List.length_map]
 exact Nat.le_trans (List.length_filter_le ..) (by decide)
theorem flags_fold:∀ (F:List Nat) (f:Int),(∀ v ∈ F,v = 1 ∨ v = 2 ∨ v = 3 ∨ v = 4 ∨ v = 5 ∨ v = 7 ∨ v = 8 ∨ v = 9 ∨ v = 21 ∨ v = 53)→F.foldl (fun (a:Atr) (v:Nat) => simpA a (v:Int) [(v:Int)]) ⟨0,0,0,0,f⟩ = ⟨0,0,0,0,F.foldl (fun (g:Int) (v:Nat) => flagsA g (v:Int) [(v:Int)]) f⟩
 | [],_,_ => rfl
 | v :: F,f,h => by
   have e:simpA ⟨0,0,0,0,f⟩ (v:Int) [(v:Int)] = ⟨0,0,0,0,flagsA f (v:Int) [(v:Int)]⟩:=by
    rcases h v (List.mem_cons_self ..) with rfl | rfl | rfl | rfl | rfl | rfl | rfl | rfl | rfl | rfl <;> rfl
   show F.foldl _ (simpA ⟨0,0,0,0,f⟩ (v:Int) [(v:Int)]) = _
   rw [e]
   exact flags_fold F _ (fun u hu => h u (List.mem_cons_of_mem _ hu))
theorem paintC_ok {k n:Int} {m:Nat} (hm:m ≤ 255) (hc:colB k n = true):(paintC k n m).length ≤ 5∧∀ v ∈ paintC k n m,v ≤ 65535:=by
 have hk:(k = 0∧n = 0) ∨ (k = 1∧0 ≤ n∧n < 256) ∨ (k = 2∧0 ≤ n∧n < 16777216):=by
  unfold colB at hc
  rw [decide_eq_true_eq] at hc
  omega
 rcases hk with ⟨rfl,rfl⟩ | ⟨rfl,h1,h2⟩ | ⟨rfl,h1,h2⟩
 · exact ⟨Nat.zero_le _,fun v hv => by cases hv⟩
 · refine ⟨by show 3 ≤ 5;decide,fun v hv => ?_⟩
   rw [show paintC 1 n m = [m,5,n.toNat] from rfl] at hv
   simp only [List.mem_cons,List.not_mem_nil,or_false] at hv
   omega
 · refine ⟨by show 5 ≤ 5;decide,fun v hv => ?_⟩
   rw [show paintC 2 n m = [m,2,(n / 65536).toNat,(n / 256 % 256).toNat,(n % 256).toNat] from rfl] at hv
   simp only [List.mem_cons,List.not_mem_nil,or_false] at hv
   omega
theorem codesA_ok {a:Atr} (h:RightA a):codesA a ≠ []∧(codesA a).length ≤ 32∧∀ n ∈ codesA a,n ≤ 65535:=by
 obtain ⟨h1,h2,-,-,-⟩:=h.parts
 have p1:=paintC_ok (m:=38) (by decide) h1
 have p2:=paintC_ok (m:=48) (by decide) h2
 have p3:=flagCs_len a.fl
 refine ⟨by simp [codesA],?_,fun n hn => ?_⟩
 · unfold codesA
   simp only [List.length_cons,List.length_append]
   omega
 · unfold codesA at hn
   rcases List.mem_cons.1 hn with rfl | hn
   · omega
   rcases List.mem_append.1 hn with hn | hn
   · have:=flagCs_in a.fl n hn;omega
   rcases List.mem_append.1 hn with hn | hn
   · exact p1.2 n hn
   · exact p2.2 n hn
theorem turnA_codes {a:Atr} (h:RightA a) (on:Atr):turnA on (sings (codesA a)) = a:=by
 obtain ⟨h1,h2,h3,h4,h5⟩:=h.parts
 obtain ⟨fk,fn,bk,bn,fl⟩:=a
 obtain ⟨l,hl⟩:∃ l,sings (codesA ⟨fk,fn,bk,bn,fl⟩) = l:=⟨_,rfl⟩
 have hat:∀ (j v:Nat),(codesA ⟨fk,fn,bk,bn,fl⟩)[j]? = some v→l[j]? = some [(v:Int)]:=fun j v hj => by
  rw [← hl]
  unfold sings
  rw [List.getElem?_map,hj]
  rfl
 have hlen:l.length = 1 + ((flagCs fl).length + ((paintC fk fn 38).length + (paintC bk bn 48).length)):=by
  rw [← hl]
  unfold sings codesA
  simp only [List.length_map,List.length_cons,List.length_append]
  omega
 rw [hl]
 unfold turnA
 rw [turn_flag on (hat 0 0 rfl) (by decide)]
 rw [show simpA on ((0:Nat):Int) [((0:Nat):Int)] = zeroA from rfl]
 rw [turn_flags (flagCs fl) l (0 + 1) zeroA (fun j v hj => hat _ v (by
  have hj2:=(List.getElem?_eq_some_iff.1 hj).1
  show (0 :: (flagCs fl ++ _))[0 + 1 + j]? = _
  rw [show 0 + 1 + j = j + 1 by omega,List.getElem?_cons_succ,List.getElem?_append_left hj2]
  exact hj)) (fun v hv => by have:=flagCs_in fl v hv;omega)]
 rw [show zeroA = ⟨0,0,0,0,0⟩ from rfl,flags_fold _ _ (flagCs_in fl)]
 have hf:=flags_back ⟨fl.toNat,by simp only at h4 h3;omega⟩ (by
  show (hasN ((fl.toNat:Nat):Int) 8 && hasN ((fl.toNat:Nat):Int) 256) = false
  rw [show ((fl.toNat:Nat):Int) = fl by simp only at h3;omega];exact h5)
 have hfe:((fl.toNat:Nat):Int) = fl:=by simp only at h3;omega
 simp only [hfe] at hf
 rw [hf]
 rw [turn_paint (k:=fk) (n:=fn) (m:=38) _ (.inl rfl) h1 (fun j v hj => hat _ v (by
  have hj2:=(List.getElem?_eq_some_iff.1 hj).1
  show (0 :: (flagCs fl ++ (paintC fk fn 38 ++ _)))[0 + 1 + (flagCs fl).length + j]? = _
  rw [show 0 + 1 + (flagCs fl).length + j = (flagCs fl).length + j + 1 by omega,List.getElem?_cons_succ,List.getElem?_append_right (by omega),Nat.add_sub_cancel_left,List.getElem?_append_left hj2]
  exact hj))]
 rw [turn_paint (k:=bk) (n:=bn) (m:=48) _ (.inr rfl) h2 (fun j v hj => hat _ v (by
  show (0 :: (flagCs fl ++ (paintC fk fn 38 ++ paintC bk bn 48)))[0 + 1 + (flagCs fl).length + (paintC fk fn 38).length + j]? = _
  rw [show 0 + 1 + (flagCs fl).length + (paintC fk fn 38).length + j = (flagCs fl).length + ((paintC fk fn 38).length + j) + 1 by omega,List.getElem?_cons_succ,List.getElem?_append_right (by omega),Nat.add_sub_cancel_left,List.getElem?_append_right (by omega),Nat.add_sub_cancel_left]
  exact hj))]
 rw [turnN_end l _ _ _ (by omega)]
 have z:∀ k n:Int,colB k n = true→k = 0→n = 0:=fun k n hc hk => by
  unfold colB at hc
  rw [decide_eq_true_eq] at hc
  omega
 by_cases k1:fk = 0
 · have:=z _ _ h1 k1
   simp only at k1 this
   subst k1 this
   rw [if_pos rfl]
   by_cases k2:bk = 0
   · have:=z _ _ h2 k2
     simp only at k2 this
     subst k2 this
     rw [if_pos rfl]
   · rw [if_neg k2];rfl
 · rw [if_neg k1]
   by_cases k2:bk = 0
   · have:=z _ _ h2 k2
     simp only at k2 this
     subst k2 this
     rw [if_pos rfl];rfl
   · rw [if_neg k2];rfl
set_option maxHeartbeats 1600000 in
theorem ustep_any (b:Nat) (d:Dk) (c:Int) (w:World) (hd:DecAt w b d) (h:okD d c) :
 Calls Tryz.prog 69 #[.pointer (some ⟨b,0,none⟩),.int .u8 c] w (StepPost b (stepD8 d c) w):=by
 have HD:=Hd hd
 obtain ⟨h0,h1,h2,h3,h4⟩:=hd
 have c0:=h0.1
 have c1:=h1.1
 have c2:=h2.1
 have c3:=h3.1
 have c4:=h4.1
 have f0:=h0.2
 have f1:=h1.2
 have f2:=h2.2
 have f3:=h3.2
 have f4:=h4.2
 clear h0 h1 h2 h3 h4
 obtain ⟨n,need,hv,lo,hi⟩:=d
 simp only at c0 c1 c2 c3 c4
 rcases h with ⟨e0,e1,hc⟩ | ⟨e0,e1,e2,e3,e4,e5,e6,e7,e8,e9⟩
 · simp only at e0 e1
   subst e0 e1
   have HB:=Hd (ubegin_any b ⟨n,0,0,lo,hi⟩ c w HD.out hc)
   have HX:stepD8 ⟨n,0,0,lo,hi⟩ c = if c < 128 then (some c,⟨n,0,0,lo,hi⟩) else (none,leadD c):=by unfold stepD8;rw [if_pos rfl]
   rw [HX]
   clear HX hc
   generalize (if c < 128 then (some c,⟨n,0,0,lo,hi⟩) else (none,leadD c):Option Int × Dk) = X at HB ⊢
   go_enter Tryz.func69,Tryz.ntmps69
   go_wp2_with (go_at_call 117;(with_reducible refine HB.out.mono ?_);rintro e w1 ⟨v,rfl,hv⟩)
   go_ret
   exact ⟨_,rfl,hv⟩
 · simp only at e0 e1 e2 e3 e4 e5 e6 e7 e8 e9
   have hn0:¬ need = 0:=by omega
   have g1:¬ c < lo:=by omega
   have g2:¬ hi < c:=by omega
   have w1:IntKind.i64.wrap (hv + 1) = hv + 1:=IntWalk.i64_in _ (by omega)
   have w2:IntKind.i64.wrap (need - 1) = need - 1:=IntWalk.i64_in _ (by omega)
   by_cases hl:need = 1
   · subst hl
     go_enter Tryz.func69,Tryz.ntmps69
     go_wp2
     go_ret
     rw [show stepD8 ⟨n,1,hv,lo,hi⟩ c = (some (n * 64 + c % 64),⟨n * 64 + c % 64,0,0,128,191⟩) from by unfold stepD8;rw [if_neg (show ¬ (1:Int) = 0 by decide),if_pos rfl];simp only [];rw [Int.mul_comm 64 n]]
     refine ⟨_,rfl,⟨_,rfl,?_,hp_new (by simp [World.setCell])⟩,((((((HD.out.set0 _).set3 _).set4 _).set2 _).set1 _).set2 _).grown ((Below.refl _ _).alloc (Nat.le_refl _) _),gb_alloc (gb_set (gb_set (gb_set (gb_set (gb_set (gb_set (gb_refl _ _) _) _) _) _) _) _) _⟩
     exact Nat.le_refl _
   · have hl1:0 < need - 1:=by omega
     go_enter Tryz.func69,Tryz.ntmps69
     go_wp2
     go_ret
     rw [show stepD8 ⟨n,need,hv,lo,hi⟩ c = (none,⟨n * 64 + c % 64,need - 1,hv + 1,128,191⟩) from by unfold stepD8;rw [if_neg hn0,if_neg hl];simp only [];rw [Int.mul_comm 64 n]]
     exact ⟨_,rfl,rfl,((((HD.out.set0 _).set3 _).set4 _).set2 _).set1 _,gb_set (gb_set (gb_set (gb_set (gb_set (gb_refl _ _) _) _) _) _) _⟩
theorem uend_any (b:Nat) (d:Dk) (w:World) (hd:DecAt w b d) (h:d.hv = 0) :
 Calls Tryz.prog 66 #[.pointer (some ⟨b,0,none⟩)] w fun e w' => e = .returned (.slice none 0 0)∧w = w':=by
 obtain ⟨h0,h1,h2,h3,h4⟩:=hd
 have c2:=h2.1
 rw [h] at c2
 clear h0 h1 h2 h3 h4
 go_enter Tryz.func66,Tryz.ntmps66
 go_wp2
 go_ret
 exact ⟨rfl,rfl⟩
open Go.RowKit Go
def AbD {β:Type} (d:Nat) (J:β→World→Prop):Prop:=∀ s W W',J s W→W.grownBy W' (some d)→J s W'
def bodyD {α:Type} (Kp:World→World→Prop) (I:List α→World→Prop) (xs:List α) (W:World):Exit→Act→World→Prop
 | .normal,_,W' => KeepsOthers W W'∧Kp W W'∧I xs W'
 | _,_,_ => False
def SeqD {α:Type} (F:Fence) (n:Nat) (P:Program) (l g:Nat) (lb:Array Value) (encs:α→Array Value) (Kp:World→World→Prop) (d:Nat) (xs:List α) (W:World):Prop :=
 ∀ (J:List α→World→Prop),AbD d J →
  (∀ pre x W1,J pre W1→pre.length < xs.length→d < W1.heap.size→YieldAt F (n - 1) P l (encs x) W1 fun e W' => e = .returned (.bool true)∧J (pre ++ [x]) W'∧Kp W1 W') →
  J [] W →
  CallsIn F n P g (#[.func (.yield l) #[] #[]] ++ lb) W fun e W' => (∃ v,e = .returned v)∧J xs W'
variable {F:Fence} {n:Nat} {P:Program}
theorem wpIn_rangeFunc_D {α:Type} {g:Operand} {ps:Array Tmp} {assign body:Code} {Q:Exit→Act→World→Prop} {a:Act} {w:World}
 (hro:F.round = none) (h1:1 ≤ n) {gf:Nat} {lb:Array Value} (hg:a.eval g = .func (.func gf) #[] lb) (hFg:F.fn gf) (eg:∀ args w,(callFunc gf args).run P w = .ok (.enter gf args) w)
 {encs:α→Array Value} {Kp:World→World→Prop} {xs:List α} {d:Nat} (hd:w.heap.size + 1 < d)
 (hseq:∀ W,Below w.heap.size w W→W.heap.size = w.heap.size + 2→SeqD F (n - 1) P (w.heap.size + 1) gf lb encs Kp d xs W)
 (hKt:∀ {A B C:World},Kp A B→Kp B C→Kp A C) (hKb:∀ (W:World) (o':Obj),Kp W (W.putObj (w.heap.size + 1) o')) (hps:∀ x,(encs x).size = ps.size)
 (I:List α→World→Prop) (hI:∀ s W W' r,I s W→W.grownBy W' (some r)→r = d ∨ r = w.heap.size + 1→I s W') (h0:I [] w) (a₁:α→Act)
 (hassign:∀ (l:Nat) (x:α) (W:World) (K:Act→World→Prop),K (a₁ x) W →
   assign.wpIn (F.inRound l) (n - 1 - 1) P (Exit.then K (fun _ _ _ => False)) { tmps:=(ps.zip (encs x)).foldl (fun t (p,v) => t.setIfInBounds p v) a.tmps,defers:=[] } W)
 (hbody:∀ (l:Nat) (pre:List α) (x:α) (W:World),I pre W→pre.length < xs.length→d < W.heap.size→body.wpIn (F.inRound l) (n - 1 - 1) P (bodyD Kp I (pre ++ [x]) W) (a₁ x) W)
 (hdone:∀ (W:World),I xs W→W.heap[w.heap.size]? = some (.deferred (some []))→Q .normal { a with defers:={ target:=.collected w.heap.size,args:=#[] } :: a.defers } W) :
 (Code.rangeFunc g ps assign body).wpIn F n P Q a w:=by
 refine wpIn_rangeFunc ?_
 intro fn hfn
 rw [hro]
 obtain ⟨rec,hrec⟩:∃ rec:LoopState→Option Code→Loop,rec = fun st pe => { state:=st,pending:=pe,fn,tmps:=a.tmps,params:=ps,assign,body,defers:=w.heap.size }:=⟨_,rfl⟩
 obtain ⟨W1,hW1⟩:∃ W1,(w.alloc (.deferred (some []))).alloc (.loop (rec .ready none)) = W1:=⟨_,rfl⟩
 have hL1:W1.heap[w.heap.size + 1]? = some (.loop (rec .ready none)):=by
  rw [← hW1];have:=World.alloc_heap_new (w.alloc (.deferred (some []))) (.loop (rec .ready none));rwa [World.size_alloc] at this
 have hK1:W1.heap[w.heap.size]? = some (.deferred (some [])):=by
  rw [← hW1];exact (Below.heap_alloc _ _ _ (by simp)).trans (World.alloc_heap_new w _)
 have hb1:Below w.heap.size w W1:=by
  rw [← hW1];exact ((Below.refl _ w).alloc (Nat.le_refl _) _).alloc (by simp) _
 have hs1:W1.heap.size = w.heap.size + 2:=by rw [← hW1];simp
 have hg1:w.grownBy W1 (some d):=by
  rw [← hW1];exact ⟨rfl,rfl,rfl,by simp;omega,fun k hk _ => ((Below.heap_alloc _ _ k (by simp;omega)).trans (Below.heap_alloc w _ k hk))⟩
 have hI1:I [] W1:=hI [] w W1 d h0 hg1 (.inl rfl)
 refine ⟨w.heap.size + 1,[{ target:=.collected w.heap.size,args:=#[] }],W1,{ target:=.fn (.func gf) lb,args:=#[.func (.yield (w.heap.size + 1)) #[] #[]] },W1,gf,
  #[.func (.yield (w.heap.size + 1)) #[] #[]] ++ lb,W1,?_,?_,?_,?_,fun _ => h1,?_⟩
 · rw [← hW1,hrec];exact run_enterLoop_outer _ _ _ _ _
 · simp only [resolve,hg]
   simp [go_sem]
 · intro f' hf';simp [Target.leads] at hf';subst hf';exact hFg
 · simp [invoke,go_sem,eg]
 · refine (hseq W1 hb1 hs1
    (fun pre W => I pre W∧W.heap[w.heap.size + 1]? = some (.loop (rec .ready none))∧W.heap[w.heap.size]? = some (.deferred (some [])))
    (fun s A B hs hg' => ⟨hI s A B d hs.1 hg' (.inl rfl),
      (hg'.block _ (Array.getElem?_eq_some_iff.1 hs.2.1).1 (by intro e;cases e;omega)).trans hs.2.1,
      (hg'.block _ (Array.getElem?_eq_some_iff.1 hs.2.2).1 (by intro e;cases e;omega)).trans hs.2.2⟩)
    ?_ ⟨hI1,hL1,hK1⟩).mono ?_
   · rintro pre x W ⟨hi,hl,hk⟩ hlen hdl
     have hlt:w.heap.size + 1 < W.heap.size:=(Array.getElem?_eq_some_iff.1 hl).1
     have hy:=run_yield (P:=P) (args:=encs x) hl (by rw [hrec];exact hps x)
     rw [hrec] at hy
     refine ⟨fn,_,assign,body,hy,roundIn_of_wpIn hfn (hassign _ x W _ ⟨_,run_beginRound hl (by rw [hrec]),?_⟩)⟩
     have hl2:(W.putObj (w.heap.size + 1) (.loop { rec .ready none with state:=.busy })).heap[w.heap.size + 1]? = some (.loop { rec .ready none with state:=.busy }):=World.putObj_heap_same hlt
     have hk2:(W.putObj (w.heap.size + 1) (.loop { rec .ready none with state:=.busy })).heap[w.heap.size]? = some (.deferred (some [])):=(World.putObj_heap_other (by omega)).trans hk
     have hw2:Kp W (W.putObj (w.heap.size + 1) (.loop { rec .ready none with state:=.busy })):=hKb _ _
     refine wpIn_mono (hbody _ pre x _ (hI _ _ _ _ hi (grownBy_putObj' W (w.heap.size + 1) _) (.inr rfl)) hlen (by rw [World.putObj_size];exact hdl)) ?_
     rintro e a3 W3 hp
     cases e with
     | normal =>
       obtain ⟨hk3,hkp3,hi3⟩:=hp
       have hl3:=hk3.same _ _ hl2 rfl
       have hr:=run_endRound (P:=P) none hl3
       rw [hrec] at hr hl3
       refine ⟨_,_,hr,⟨rfl,⟨hI _ _ _ _ hi3 (grownBy_putObj' W3 (w.heap.size + 1) _) (.inr rfl),?_,?_⟩,hKt (hKt hw2 hkp3) (hKb _ _)⟩⟩
       · rw [hrec];exact World.putObj_heap_same (Array.getElem?_eq_some_iff.1 hl3).1
       · exact (World.putObj_heap_other (by omega)).trans (hk3.same _ _ hk2 rfl)
     | _ => exact hp.elim
   · rintro e W2 ⟨⟨v,rfl⟩,hi,hl,hk⟩
     exact ⟨none,_,by have:=run_endLoop (P:=P) hl (by rw [hrec];simp);rw [hrec] at this;exact this,hdone _ (hI _ _ _ _ hi (grownBy_putObj' W2 (w.heap.size + 1) _) (.inr rfl)) ((World.putObj_heap_other (by omega)).trans hk)⟩
attribute [local go_sem] Oper.semAt_some
def KpD (ob lr d:Nat) (W W':World):Prop:=W.heap.size ≤ W'.heap.size∧∀ k,k ≤ d→k ≠ ob→k ≠ lr→W'.heap[k]? = W.heap[k]?
theorem KpD.trans {ob lr d:Nat} {A B C:World} (h:KpD ob lr d A B) (k:KpD ob lr d B C):KpD ob lr d A C:=⟨Nat.le_trans h.1 k.1,fun i a b c => (k.2 i a b c).trans (h.2 i a b c)⟩
theorem KpD.cell {ob lr d:Nat} {W W':World} (h:KpD ob lr d W W') {b o:Nat} (hb:b ≤ d) (h1:b ≠ ob) (h2:b ≠ lr):W'.cell? ⟨b,o,none⟩ = W.cell? ⟨b,o,none⟩∧W'.frozen? ⟨b,o,none⟩ = W.frozen? ⟨b,o,none⟩ :=
 ⟨World.cell?_of_block (h.2 b hb h1 h2),World.frozen?_of_block (h.2 b hb h1 h2)⟩
theorem DecAt.kept {ob lr d:Nat} {W W':World} (h:KpD ob lr d W W') {x:Dk} (h1:d ≠ ob) (h2:d ≠ lr) (hd:DecAt W d x):DecAt W' d x:=by
 obtain ⟨a0,a1,a2,a3,a4⟩:=hd
 have k:=fun o => h.cell (b:=d) (o:=o) (Nat.le_refl _) h1 h2
 exact ⟨⟨(k 0).1.trans a0.1,(k 0).2.trans a0.2⟩,⟨(k 1).1.trans a1.1,(k 1).2.trans a1.2⟩,⟨(k 2).1.trans a2.1,(k 2).2.trans a2.2⟩,⟨(k 3).1.trans a3.1,(k 3).2.trans a3.2⟩,⟨(k 4).1.trans a4.1,(k 4).2.trans a4.2⟩⟩
def BsIn (W:World) (ob lr d:Nat) (A:Option Addr) (bs:List Int):Prop:=0 < bs.length→∃ g off,A = some ⟨g,off,none⟩∧g < d∧g ≠ ob∧g ≠ lr∧∀ i x,bs[i]? = some x→W.cell? ⟨g,off + i,none⟩ = some (.int .u8 x)
theorem BsIn.kept {ob lr d:Nat} {W W':World} {A:Option Addr} {bs:List Int} (h:KpD ob lr d W W') (hb:BsIn W ob lr d A bs):BsIn W' ob lr d A bs:=fun h0 => by
 obtain ⟨g,off,e,h1,h2,h3,h4⟩:=hb h0
 exact ⟨g,off,e,h1,h2,h3,fun i x hx => (h.cell (by omega) h2 h3).1.trans (h4 i x hx)⟩
theorem BsIn.grown {ob lr d:Nat} {W W':World} {A:Option Addr} {bs:List Int} (h:W.grownBy W' (some d)) (hb:BsIn W ob lr d A bs):BsIn W' ob lr d A bs:=fun h0 => by
 obtain ⟨g,off,e,h1,h2,h3,h4⟩:=hb h0
 exact ⟨g,off,e,h1,h2,h3,fun i x hx => (World.cell?_of_block (h.block g (lt_of_cell (h4 i x hx)) (by intro e;cases e;omega))).trans (h4 i x hx)⟩
theorem cell_gb {W W':World} {b d o:Nat} {v:Value} (h:W.grownBy W' (some d)) (hb:b ≠ d) (hc:W.cell? ⟨b,o,none⟩ = some v):W'.cell? ⟨b,o,none⟩ = some v :=
 (World.cell?_of_block (h.block b (lt_of_cell hc) (by intro e;cases e;exact hb rfl))).trans hc
theorem runD_len (d:Dk) (l:List Int) (k:Nat):(runD d (l.take k)).1.length ≤ (runD d l).1.length:=by
 have:=runD_append d (l.take k) (l.drop k)
 rw [List.take_append_drop] at this
 rw [this]
 simp
theorem run_getElem? {bs:List Int} {k:Nat} (h:k < bs.length):bs[k]? = some bs[k]:=List.getElem?_eq_getElem h
set_option maxHeartbeats 3200000 in
theorem uread1_in (n:Nat) (hn:1 ≤ n) (l ob bb ca:Nat) (A:Option Addr) (bs L:List Int) (hok:∀ d:Dk,d.need = 0∧d.hv = 0→okRun d bs∧(runD d bs).1 = L∧(runD d bs).2.need = 0∧(runD d bs).2.hv = 0) (hz:bs.length ≤ 10000)
 (W:World) (hob:ob < W.heap.size) (hl:l < W.heap.size) (hbb:bb ≠ ob) (hbl:bb ≠ l) (hb:W.cell? ⟨bb,0,none⟩ = some (.slice A bs.length ca)) (hbs:BsIn W ob l W.heap.size A bs) :
 SeqD Fence.wide n Tryz.prog l 376 #[.pointer (some ⟨bb,0,none⟩)] (fun x:Int => #[Value.int .i32 x]) (KpD ob l W.heap.size) W.heap.size L W:=by
 intro J hJ hY h0
 obtain ⟨hok1,hL,hnd,hhv⟩:=hok ⟨0,0,0,0,0⟩ ⟨rfl,rfl⟩
 have HOK:=Hd hok1
 have HL:=Hd hL
 have HBS:=Hd hbs
 have HEND:=Hd (⟨hnd,hhv⟩:(runD ⟨0,0,0,0,0⟩ bs).2.need = 0∧(runD ⟨0,0,0,0,0⟩ bs).2.hv = 0)
 clear hok hok1 hL hbs hnd hhv
 have hbW:=lt_of_cell hb
 have hD0:DecAt (W.alloc (.cells #[.int .i32 0,.int .i64 0,.int .i64 0,.int .u8 0,.int .u8 0] 132)) W.heap.size ⟨0,0,0,0,0⟩:=⟨at_ (hp_new rfl) 0 _ rfl,at_ (hp_new rfl) 1 _ rfl,at_ (hp_new rfl) 2 _ rfl,at_ (hp_new rfl) 3 _ rfl,at_ (hp_new rfl) 4 _ rfl⟩
 have hg0:=gb_alloc (gb_refl W (some W.heap.size)) (.cells #[.int .i32 0,.int .i64 0,.int .i64 0,.int .u8 0,.int .u8 0] 132)
 have hb1:=cell_gb hg0 (by omega) hb
 have HB1:=Hd (⟨hD0,HBS.out.grown hg0,hJ _ _ _ h0 hg0,hb1⟩:DecAt (W.alloc (.cells #[.int .i32 0,.int .i64 0,.int .i64 0,.int .u8 0,.int .u8 0] 132)) W.heap.size ⟨0,0,0,0,0⟩∧BsIn (W.alloc (.cells #[.int .i32 0,.int .i64 0,.int .i64 0,.int .u8 0,.int .u8 0] 132)) ob l W.heap.size A bs∧J [] (W.alloc (.cells #[.int .i32 0,.int .i64 0,.int .i64 0,.int .u8 0,.int .u8 0] 132))∧(W.alloc (.cells #[.int .i32 0,.int .i64 0,.int .i64 0,.int .u8 0,.int .u8 0] 132)).cell? ⟨bb,0,none⟩ = some (.slice A bs.length ca))
 clear hD0 hg0 hb h0
 obtain ⟨d,hd⟩:∃ d,d = W.heap.size:=⟨_,rfl⟩
 refine callsIn_of_wp Tryz.func376 rfl trivial ?_ rfl
 simp only [Tryz.ntmps376,List.size_toArray,List.length_cons,List.length_nil,Nat.reduceAdd,Nat.reduceSub,Array.replicate_succ,Array.replicate_zero,List.push_toArray,List.append_toArray,List.nil_append,List.cons_append]
 gi_wp2
 gi_loopw [12] (fun i wr => ∃ k:Nat,k ≤ bs.length∧i = .int .i64 k∧DecAt wr W.heap.size (runD ⟨0,0,0,0,0⟩ (bs.take k)).2∧BsIn wr ob l W.heap.size A bs∧J (runD ⟨0,0,0,0,0⟩ (bs.take k)).1 wr) (fun i _ => bs.length - (intOf i).toNat)
 case atStart => exact ⟨0,Nat.zero_le _,rfl,HB1.out.1,HB1.out.2.1,HB1.out.2.2.1⟩
 case round =>
  obtain ⟨k,hk,rfl,hdec,hbk,hj⟩:=hrel
  by_cases hlt:k < bs.length
  · obtain ⟨g,off,rfl,hg1,hg2,hg3,hcs⟩:=hbk (by omega)
    have hc:=hcs k _ (run_getElem? hlt)
    have hokk:=okRun_at HOK.out hlt
    have HT:=Hd (runD_take_succ ⟨0,0,0,0,0⟩ bs hlt)
    have HLEN:=Hd (runD_len ⟨0,0,0,0,0⟩ bs (k + 1))
    have HS:=Hd (ustep_any W.heap.size _ _ wr hdec hokk)
    have HBK:=Hd hbk
    have HJ:=Hd hj
    clear hdec hokk hbk hj hcs
    rw [HT.out,HL.out] at HLEN
    generalize hx:bs[k] = x at hc HS HT HLEN
    generalize (runD ⟨0,0,0,0,0⟩ (bs.take k)).2 = D at HS HT HLEN
    generalize (runD ⟨0,0,0,0,0⟩ (bs.take k)).1 = P at HJ HT HLEN
    generalize stepD8 D x = X at HS HT HLEN
    obtain ⟨x1,D'⟩:=X
    clear hx
    rcases x1 with _ | r
    · gi_wp2_with (refine ⟨trivial,?_⟩;gi_at_call 69;refine (callsIn_wide.2 HS.out).mono ?_;rintro e W1 ⟨v,rfl,rfl,hd1,hgr⟩)
      refine wpIn_loop_rounds 1 ?_
      rw [roundsIn_succ]
      gi_wp2
      go_roundw
      case rel => exact ⟨k + 1,by omega,by simp,by rw [HT.out];exact hd1,HBK.out.grown hgr,by rw [HT.out];simpa using hJ _ _ _ HJ.out hgr⟩
      case measure => simp [intOf];omega
    · gi_wp2_with (refine ⟨trivial,?_⟩;gi_at_call 69;refine (callsIn_wide.2 HS.out).mono ?_;rintro e W1 ⟨v,rfl,⟨g',rfl,hg',hcell⟩,hd1,hgr⟩)
      have hj1:=hJ _ _ _ HJ.out hgr
      have hc1:=(at_ hcell 0 _ rfl).1
      obtain ⟨fn,tmps,assign,body,hy,hR⟩:=hY _ r W1 hj1 (by have:=HLEN.out;simp at this;omega) hd1.lt
      clear hj1
      refine wpIn_loop_rounds 2 ?_
      rw [roundsIn_succ]
      gi_wp2
      refine hR.mono ?_
      rintro e W3 ⟨rfl,hJ3,hk3⟩
      have HJ3:=Hd hJ3
      have HK3:=Hd hk3
      clear hJ3 hk3
      gi_wp2
      rw [roundsIn_succ]
      gi_wp2
      go_roundw
      case rel => exact ⟨k + 1,by omega,by simp,by rw [HT.out];exact hd1.kept HK3.out (by omega) (by omega),(HBK.out.grown hgr).kept HK3.out,by rw [HT.out];exact HJ3.out⟩
      case measure => simp [intOf];omega
  · obtain rfl:k = bs.length:=by omega
    rw [List.take_length] at hdec hj
    have HE:=Hd (uend_any W.heap.size _ wr hdec HEND.out.2)
    have HJ:=Hd hj
    clear hdec hj
    gi_wp2_with (refine ⟨trivial,?_⟩;gi_at_call 66;refine (callsIn_wide.2 HE.out).mono ?_;rintro e W1 ⟨rfl,rfl⟩)
    refine wpIn_loop_rounds 1 ?_
    rw [roundsIn_succ]
    gi_wp2
    go_end0
    exact ⟨⟨_,rfl⟩,by rw [← HL.out];exact HJ.out⟩
attribute [local go_sem] Oper.semAt_some
theorem info_i32U:(Tryz.prog.info? 21).map (fun i => (i.zero,i.size,i.bytes)) = some (some (.int .i32 0),1,4):=by kernel_rfl
theorem call_read1 (args:Array Value) (w:World):(callFunc 376 args).run Tryz.prog w = .ok (.enter 376 args) w:=by kernel_rfl
theorem uread_in (n:Nat) (a:Option Addr) (len cap:Nat) (w:World) :
 CallsIn Fence.wide n Tryz.prog 330 #[.slice a len cap] w fun e w' => e = .returned (.func (.func 376) #[] #[.pointer (some ⟨w.heap.size,0,none⟩)])∧w' = w.alloc (.cells #[.slice a len cap] 23):=by
 refine callsIn_of_wp Tryz.func330 rfl trivial ?_ rfl
 simp only [Tryz.ntmps330,List.size_toArray,List.length_cons,List.length_nil,Nat.reduceAdd,Nat.reduceSub,Array.replicate_succ,Array.replicate_zero,List.push_toArray,List.append_toArray,List.nil_append,List.cons_append]
 gi_wp2
 go_ret
 exact ⟨rfl,rfl⟩
def RdI (w:World) (d:Nat) (pre:List Int) (W:World):Prop:=(∃ v,Boxed W w.heap.size 136 v∧W.ownsRow (d + 1) 21 1 v pre.length (pre.map (.int .i32)))∧Below w.heap.size w W
def BsAt (W:World) (A:Option Addr) (bs:List Int):Prop:=0 < bs.length→∃ g off,A = some ⟨g,off,none⟩∧∀ i x,bs[i]? = some x→W.cell? ⟨g,off + i,none⟩ = some (.int .u8 x)
def RunesPost (L:List Int) (w:World) (e:Ending) (w':World):Prop:=∃ v,e = .returned v∧w'.ownsRow w.heap.size 21 1 v L.length (L.map (.int .i32))∧Below w.heap.size w w'
set_option maxHeartbeats 3200000 in
theorem uall_any (A:Option Addr) (bs L:List Int) (ca:Nat) (w:World) (hL:∀ r ∈ L,isScal r = true) (hbs:bs = L.flatMap bytesR) (hz:bs.length ≤ 10000) (hlz:L.length ≤ 10000) (hb:BsAt w A bs) :
 Calls Tryz.prog 256 #[.slice A bs.length ca] w (RunesPost L w):=by
 have hok:Hid (∀ d:Dk,d.need = 0∧d.hv = 0→okRun d bs∧(runD d bs).1 = L∧(runD d bs).2.need = 0∧(runD d bs).2.hv = 0):=Hd (fun d hd => by rw [hbs];exact bytesR_all L hL d hd)
 clear hbs hL
 have HB:=Hd hb
 clear hb
 obtain ⟨i0,hi,hz0,hz1,hz2⟩:=info_parts info_i32U
 refine (callsIn_wide (n:=5)).1 ?_
 refine callsIn_of_wp_marks Tryz.func256 rfl trivial ?_ rfl
 simp only [Tryz.ntmps256,List.size_toArray,List.length_cons,List.length_nil,Nat.reduceAdd,Nat.reduceSub,Array.replicate_succ,Array.replicate_zero,List.push_toArray,List.append_toArray,List.nil_append,List.cons_append]
 gi_wp2_with (refine ⟨trivial,?_⟩;gi_at_call 330;refine (uread_in _ _ _ _ _).mono ?_;rintro e w' ⟨rfl,rfl⟩)
 have bO:=Boxed.new w 136 (.slice none 0 0)
 have bN:=Boxed.new (w.alloc (.cells #[.slice none 0 0] 136)) 23 (.slice A bs.length ca)
 rw [World.size_alloc] at bN
 have hB0:Below w.heap.size w ((w.alloc (.cells #[.slice none 0 0] 136)).alloc (.cells #[.slice A bs.length ca] 23)):=((Below.refl _ w).alloc (Nat.le_refl _) _).alloc (by simp) _
 have hs0:((w.alloc (.cells #[.slice none 0 0] 136)).alloc (.cells #[.slice A bs.length ca] 23)).heap.size = w.heap.size + 2:=by simp
 have bO2:=bO.alloc (.cells #[.slice A bs.length ca] 23)
 generalize (w.alloc (.cells #[.slice none 0 0] 136)).alloc (.cells #[.slice A bs.length ca] 23) = W0 at bN hB0 hs0 bO2 ⊢
 refine wpIn_rangeFunc_D (α:=Int) rfl (by decide) (gf:=376) (lb:=#[.pointer (some ⟨w.heap.size + 1,0,none⟩)]) rfl trivial call_read1 (encs:=fun x:Int => #[Value.int .i32 x]) (Kp:=KpD w.heap.size (w.heap.size + 3) (w.heap.size + 4)) (xs:=L) (d:=w.heap.size + 4) (by omega)
  (fun W hbW hsW => ?seq) (fun h k => KpD.trans h k) (fun W o' => ?kb) (fun _ => rfl) (RdI w (w.heap.size + 4)) ?own ?start
  (fun x => { tmps:=#[.slice A bs.length ca,undef,.slice none 0 0,.pointer (some ⟨w.heap.size,0,none⟩),.int .i32 x,.slice A bs.length ca,.func (.func 376) #[] #[.pointer (some ⟨w.heap.size + 1,0,none⟩)],.int .i32 x,undef,undef,undef,undef,undef],defers:=[] }) ?assign ?body ?done
 case seq =>
  have:=uread1_in (5 - 1) (by decide) (w.heap.size + 3) w.heap.size (w.heap.size + 1) ca A bs L hok.out hz W (by omega) (by omega) (by omega) (by omega) ((hbW.cell (p:=⟨w.heap.size + 1,0,none⟩) (by rw [hs0];exact Nat.lt_succ_self _)).trans bN.cell) (fun h0 => by
   obtain ⟨g,off,rfl,hc⟩:=HB.out h0
   have hg:=lt_of_cell (hc 0 _ (List.getElem?_eq_getElem h0))
   exact ⟨g,off,rfl,by omega,by omega,by omega,fun i x hx => holda ((hB0.trans (hbW.mono (by omega)))) (hc i x hx)⟩)
  rw [hsW,hs0] at this
  rw [hs0]
  exact this
 case kb =>
  rw [hs0]
  exact ⟨by rw [World.putObj_size];exact Nat.le_refl _,fun k _ _ hk => World.putObj_heap_other hk⟩
 case own =>
  rintro pre W W' r ⟨⟨v,hv,ho⟩,hB⟩ hg hr
  rw [hs0] at hr
  refine ⟨⟨v,hv.kept hg (by intro e;cases e;omega),owns_mod ho (Mod.of_grown (X:=[r]) hg (fun g e => by cases e;simp)) (fun g e hm => ?_)⟩,hB.grown hg hB.size (fun k e => by cases e;omega)⟩
  obtain rfl:g = r:=by simpa using hm
  rcases ho.2 with ⟨rfl,_⟩ | ⟨g',cap,cur,rfl,hb,_,_⟩
  · cases e
  · obtain rfl:g' = g:=by simpa [Value.ownBlock] using e
    omega
 case start => exact ⟨⟨_,bO2,World.ownsRow_nil _ _ _ _⟩,hB0⟩
 case assign =>
  intro l x W K hK
  gi_wp2
  exact hK
 case body =>
  rintro l pre x W ⟨⟨v,hv,hrow⟩,hB⟩ hlt hd
  have hc:=hv.cell
  gi_wp2_with (gi_at_builtin;refine wpListIn_append_own _ rfl _ _ 136 rfl (w.heap.size + 5) 21 i0 (.int .i32 0) 1 4 Tryz.underlying136 hi hz0 hz1 hz2 rfl (by decide) _ _ _ rfl (hrow.alloc _) ⟨W.heap.size,0,none⟩ 1 1 [.int .i32 x] rfl rfl (cell_one_new _ _ _) (by simp [Value.oneCell']) (by unfold maxLen;omega) (by omega) (by simp;omega) ?_;intro v' w1 hown' hgrow _;obtain ⟨g',cap',rfl⟩:=ownsRow_succ hown';obtain ⟨hv1,hv2,hr2,hk2,hb2⟩:=hv.appended (by decide) (owns_weaken hrow (base':=w.heap.size) (by omega)) hB.size (Nat.le_refl _) (owns_weaken hown' (base':=w.heap.size) (by omega)) hgrow;have hrw:=hown'.kept (grownBy_setCell' w1 w.heap.size (.slice (some ⟨g',0,none⟩) (pre.length + 1) cap')) (.inr (hv1.not_row (t:=136) (by decide) hown').symm);have hc1:=hv1.cell;have hf1:=hv1.frozen;have hgv:=Hd hgrow;clear hgrow)
  refine ⟨hk2,⟨hb2.size,fun k hk h1 h2 => ?_⟩,⟨_,hv2,by simpa using hrw⟩,hB.trans hb2⟩
  refine (Below.heap_setCell w1 ⟨w.heap.size,0,none⟩ _ k h1).trans ((hgv.out.block k (by simp;omega) (fun e => ?_)).trans (Below.heap_alloc W _ k (by omega)))
  rcases hrow.2 with ⟨rfl,_⟩ | ⟨g2,cap,cur,rfl,hb,_,_⟩
  · cases e
  · have e:some k = (Value.slice (some ⟨g2,0,none⟩) pre.length cap).ownBlock:=e
    obtain rfl:k = g2:=by simpa [Value.ownBlock] using e
    omega
 case done =>
  rintro W ⟨⟨v,hv,hrow⟩,hB⟩ hK
  have hc:=hv.cell
  gi_wp2
  refine ⟨by simp,.inl ⟨_,_,rfl,run_takeDeferred hK,?_⟩⟩
  exact ⟨_,results_tmp rfl _ _ _,v,rfl,ownsRow_putObj (owns_weaken hrow (base':=w.heap.size) (by omega)) _ hK rfl,hB.grown (grownBy_putObj' W _ _) hB.size (fun k e => by cases e;omega)⟩
def MarksOk (s:ByteArray):Prop:=∃ L:List Int,(∀ r ∈ L,isScal r = true∧widOf r = 0)∧s = strOfNums (L.flatMap bytesR)∧s.size ≤ 32
theorem bytesR_range (r:Int) (h:isScal r = true):∀ x ∈ bytesR r,0 ≤ x∧x < 256:=by
 have hr:0 ≤ r∧r ≤ 1114111:=by unfold isScal at h;simp at h;omega
 unfold bytesR
 repeat' split
 all_goals
  intro x hx
  simp at hx
  omega
theorem bytesR_pos (r:Int):1 ≤ (bytesR r).length:=by
 unfold bytesR
 repeat' split
 all_goals simp
theorem strOfNums_size (xs:List Int):(strOfNums xs).size = xs.length:=by
 show (List.map _ xs).toArray.size = _
 simp
theorem putB_len (r:Int) (h:isScal r = true):(putB r).size = (bytesR r).length:=by rw [bytesR_put r h,strOfNums_size]
theorem flat_bytes_len (L:List Int):L.length ≤ (L.flatMap bytesR).length:=by
 induction L with
 | nil => simp
 | cons r L ih => rw [List.flatMap_cons,List.length_append,List.length_cons];have:=bytesR_pos r;omega
theorem nums_getD (xs:List Int) (hx:∀ x ∈ xs,0 ≤ x∧x < 256) (i:Nat) (x:Int) (h:xs[i]? = some x):((((strOfNums xs).data.toList.getD i 0).toNat:Nat):Int) = x:=by
 obtain ⟨hi,rfl⟩:=List.getElem?_eq_some_iff.1 h
 have:=hx _ (List.getElem_mem hi)
 show ((((List.map (fun n:Int => UInt8.ofNat n.toNat) xs).toArray.toList.getD i 0).toNat:Nat):Int) = xs[i]
 rw [List.getD_eq_getElem?_getD]
 simp [hi]
 omega
theorem bytes_in (w:World) (e:TypeId) (xs:List Int) (hx:∀ x ∈ xs,0 ≤ x∧x < 256):BsAt (Lib.bytesWorld w e (strOfNums xs)) (some ⟨w.heap.size,0,none⟩) xs:=fun _ =>
 ⟨w.heap.size,0,rfl,fun i x hi => by
  rw [Nat.zero_add,Lib.bytesWorld_cell w e _ i (by rw [strOfNums_size];exact (List.getElem?_eq_some_iff.1 hi).1),nums_getD xs hx i x hi]⟩
theorem bytes_below (w:World) (e:TypeId) (s:ByteArray):Below w.heap.size w (Lib.bytesWorld w e s) :=
 ⟨rfl,rfl,rfl,by rw [Lib.bytesWorld_size];omega,fun k hk => Lib.bytesWorld_at_old w e s k hk⟩
theorem conv_str (s:ByteArray) (w:World):(convert 9 23 (.string s)).run Tryz.prog w = .ok (.slice (some ⟨w.heap.size,0,none⟩) s.size (grownCap w s.size 0 5)) (Lib.bytesWorld w 5 s) :=
 Lib.run_convert_string_bytes w _ _ _ s Tryz.underlying9 Tryz.underlying23 Tryz.underlying5
theorem owns_at {w:World} {base:Nat} {L:List Int} {v:Value} (h:w.ownsRow base 21 1 v L.length (L.map (.int .i32))):∃ A c,v = .slice A L.length c∧∀ i x,L[i]? = some x→∃ g,A = some ⟨g,0,none⟩∧w.cell? ⟨g,i,none⟩ = some (.int .i32 x):=by
 rcases h.2 with ⟨rfl,h0⟩ | ⟨g,cap,cur,rfl,h1⟩
 · exact ⟨none,0,by rw [h0],fun i x hx => by rw [List.length_eq_zero_iff.1 h0] at hx;simp at hx⟩
 · exact ⟨_,cap,rfl,fun i x hx => ⟨g,rfl,by
    have h2:=h.cells (g:=g) rfl i (.int .i32 x) (by simp [hx])
    rwa [show (⟨g,0,none⟩:Addr).add i = ⟨g,i,none⟩ from by unfold Addr.add;split <;> simp_all] at h2⟩⟩
set_option maxHeartbeats 1600000 in
theorem cmarks_any (s:ByteArray) (h:MarksOk s) (w:World):Calls Tryz.prog 163 #[.string s] w fun e w' => e = .returned (.bool true)∧Below w.heap.size w w':=by
 obtain ⟨L,hL,rfl,hz⟩:=h
 obtain ⟨xs,hxs⟩:∃ xs,xs = L.flatMap bytesR:=⟨_,rfl⟩
 rw [← hxs] at hz ⊢
 have hsz:=strOfNums_size xs
 have hlx:L.length ≤ xs.length:=by rw [hxs];exact flat_bytes_len L
 have hxr:∀ x ∈ xs,0 ≤ x∧x < 256:=by
  rw [hxs]
  intro x hx
  obtain ⟨r,hr,hx⟩:=List.mem_flatMap.1 hx
  exact bytesR_range r (hL r hr).1 x hx
 have hg1:¬ 32 < (strOfNums xs).size:=by omega
 have hl32:L.length ≤ 32:=by omega
 have HX:=Hd hxs
 have HLL:=Hd hL
 have HSZ:=Hd hsz
 have hcv:=conv_str (strOfNums xs) w
 have HBI:=Hd (bytes_in w 5 xs hxr)
 have HBB:=Hd (bytes_below w 5 (strOfNums xs))
 clear hxs hL hsz hxr
 have HA:Hid (∀ (c:Nat) (w1:World),BsAt w1 (some ⟨w.heap.size,0,none⟩) xs→Calls Tryz.prog 256 #[.slice (some ⟨w.heap.size,0,none⟩) (strOfNums xs).size c] w1 (RunesPost L w1)):=Hd (fun c w1 hb => by
  rw [HSZ.out]
  exact uall_any _ xs L c w1 (fun r hr => (HLL.out r hr).1) HX.out (by have:=HSZ.out;omega) (by have:=HSZ.out;omega) hb)
 generalize Lib.bytesWorld w 5 (strOfNums xs) = wb at hcv HBI HBB
 go_enter Tryz.func163,Tryz.ntmps163
 go_wp2_with (go_at_call 256;(with_reducible refine (HA.out _ _ HBI.out).mono ?_);rintro e w1 ⟨v,rfl,ho,hb1⟩;obtain ⟨A,c,rfl,hA⟩:=owns_at ho;have HB1:=Hd (below_tail HBB.out hb1);clear hb1 ho)
 have hAA:=Hd hA
 clear hA
 go_loopw [3,13] (fun n i wr => ∃ k:Nat,k ≤ L.length∧i = .int .i64 k∧n = .int .i64 (((L.take k).flatMap bytesR).length:Nat)∧Below w.heap.size w wr∧Below w1.heap.size w1 wr) (fun _ i _ => L.length - (intOf i).toNat)
 case atStart => exact ⟨0,Nat.zero_le _,rfl,rfl,HB1.out,Below.refl _ _⟩
 case round =>
  obtain ⟨k,hk,rfl,rfl,hB,hb⟩:=hrel
  have HTL:Hid (((L.take k).flatMap bytesR).length ≤ xs.length):=Hd (by
   rw [HX.out]
   conv => rhs;rw [← List.take_append_drop k L,List.flatMap_append,List.length_append]
   omega)
  by_cases hlt:k < L.length
  · obtain ⟨g,rfl,hc0⟩:=hAA.out k _ (List.getElem?_eq_getElem hlt)
    have hc:=holda hb hc0
    have hr:=HLL.out _ (List.getElem_mem hlt)
    have HT:Hid ((L.take (k + 1)).flatMap bytesR = (L.take k).flatMap bytesR ++ bytesR L[k]):=Hd (by rw [List.take_succ_eq_append_getElem hlt,List.flatMap_append];simp)
    clear hc0
    generalize L[k] = r at hc hr HT
    have HW:=Hd (fun w => widOf_any r w)
    have HU:=Hd (fun w => uput_any r w)
    have hpl:=putB_len r hr.1
    have hp32:=putB_size r
    rw [hr.2] at HW
    clear hr
    obtain ⟨q,hq⟩:∃ q,q = ((L.take k).flatMap bytesR).length:=⟨_,rfl⟩
    rw [← hq] at HTL ⊢
    have hq2:q ≤ 32:=by have:=HTL.out;have:=HSZ.out;omega
    have hw2:IntKind.i64.wrap ((q:Int) + ((putB r).size:Nat)) = ((q + (putB r).size:Nat):Int):=by rw [IntWalk.i64_in _ (by omega)];omega
    have HQ:=Hd hq
    have HPL:=Hd hpl
    clear hq hpl hp32
    go_wp2_with (first | (go_at_call 162;(with_reducible refine (HW.out _).mono ?_);rintro e w2 ⟨rfl,hb2⟩) | (go_at_call 102;(with_reducible refine (HU.out _).mono ?_);rintro e w3 ⟨rfl,hb3⟩))
    go_roundw
    case rel => exact ⟨k + 1,by omega,by go_num,by rw [HT.out,List.length_append,← HQ.out,← HPL.out,Int.natCast_add],below_tail (below_tail hB hb2) hb3,below_tail (below_tail hb hb2) hb3⟩
    case measure => simp [intOf];omega
  · obtain rfl:k = L.length:=by omega
    have he:(L.take L.length).flatMap bytesR = xs:=by rw [List.take_length,HX.out]
    have hse:((((L.take L.length).flatMap bytesR).length:Nat):Int) = ((strOfNums xs).size:Nat):=by rw [he,HSZ.out]
    rw [hse]
    clear hse he
    go_wp2
    go_ret
    exact ⟨by simp,hB⟩
def CellOk (c:Cl):Prop:=(c.r = 0∧c.more = ByteArray.empty∧c.half = 0) ∨ (c.r ≠ 0∧MarksOk c.more∧(c.half = 0∧widOf c.r = 1 ∨ c.half = 1∧widOf c.r = 2 ∨ c.half = 2∧widOf c.r = 2))
def DrawOk (c:Cl):Prop:=CellOk c∧attB c.fk c.fn c.bk c.bn c.fl = true∧(c.r = 0→c.fk = 0∧c.fn = 0∧c.fl = 0)
set_option maxHeartbeats 1600000 in
theorem cfine_any (c:Cl) (h:CellOk c) (w:World):Calls Tryz.prog 92 #[clV c] w fun e w' => e = .returned (.bool true)∧Below w.heap.size w w':=by
 obtain ⟨r,more,half,fk,fn,bk,bn,fl⟩:=c
 unfold clV
 rcases h with ⟨h1,h2,h3⟩ | ⟨h1,h2,h3⟩
 · simp only at h1 h2 h3
   subst h1 h2 h3
   go_enter Tryz.func92,Tryz.ntmps92
   go_wp2
   go_ret
   exact ⟨by first | rfl | simp,by repeat (first | exact Below.refl _ _ | refine below_allocs ?_ _)⟩
 · simp only at h1 h2 h3
   have HM:=Hd (fun w => cmarks_any more h2 w)
   have HW:=Hd (fun w => widOf_any r w)
   clear h2
   rcases h3 with ⟨rfl,h3⟩ | ⟨rfl,h3⟩ | ⟨rfl,h3⟩
   all_goals
    rw [h3] at HW
    clear h3
    go_enter Tryz.func92,Tryz.ntmps92
    go_wp2_with (first | (go_at_call 162;(with_reducible refine (HW.out _).mono ?_);rintro e w1 ⟨rfl,hb1⟩;have e1:=(at_new hb1 (hp_new rfl) 1 _ rfl).1;have hB1:=below_tail (show Below w.heap.size w _ from by repeat (first | exact Below.refl _ _ | refine below_allocs ?_ _)) hb1) | (go_at_call 163;(with_reducible refine (HM.out _).mono ?_);rintro e w2 ⟨rfl,hb2⟩))
    go_ret
    exact ⟨by first | rfl | simp,below_tail hB1 hb2⟩
set_option maxHeartbeats 1600000 in
theorem dfine_any (c:Cl) (h:DrawOk c) (w:World):Calls Tryz.prog 50 #[clV c] w fun e w' => e = .returned (.bool true)∧Below w.heap.size w w':=by
 obtain ⟨r,more,half,fk,fn,bk,bn,fl⟩:=c
 unfold clV
 obtain ⟨hc,ha,h0⟩:=h
 have hh:¬ half = 3:=by rcases hc with ⟨_,_,h⟩ | ⟨_,_,⟨h,_⟩ | ⟨h,_⟩ | ⟨h,_⟩⟩ <;> (simp only at h;omega)
 simp only at ha h0
 have HA:=Hd (fun w => aRight_any fk fn bk bn fl ha w)
 clear hc ha
 by_cases hr:r = 0
 · obtain ⟨rfl,rfl,rfl⟩:=h0 hr
   subst hr
   clear h0
   go_enter Tryz.func50,Tryz.ntmps50
   go_wp2_with (go_at_call 93;(with_reducible refine (HA.out _).mono ?_);rintro e w2 ⟨rfl,hb2⟩)
   go_ret
   exact ⟨by first | rfl | simp [hh],below_tail (by repeat (first | exact Below.refl _ _ | refine below_allocs ?_ _)) hb2⟩
 · clear h0
   go_enter Tryz.func50,Tryz.ntmps50
   go_wp2_with (go_at_call 93;(with_reducible refine (HA.out _).mono ?_);rintro e w2 ⟨rfl,hb2⟩)
   go_ret
   exact ⟨by first | rfl | simp [hh],below_tail (by repeat (first | exact Below.refl _ _ | refine below_allocs ?_ _)) hb2⟩
end Go.Proofs.YtaefcahblmopfaaGreatDoor
