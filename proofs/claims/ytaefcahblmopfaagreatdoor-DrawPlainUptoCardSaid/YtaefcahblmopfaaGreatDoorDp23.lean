/- Joined by a tool of this claim out of smaller texts. Conditions: as stated. -/
import Derived.Test.YtaefcahblmopfaaGreatDoorDp22
import Derived.Lib.ItoaNum
import Derived.Deep.OwnRows
set_option linter.unusedVariables false
set_option linter.unusedSimpArgs false
set_option maxRecDepth 100000
open Go.Lib renaming hid → Hd
namespace Go.Proofs.YtaefcahblmopfaaGreatDoor
def runPz:Pz→List Int→Pz × List Ev
 | p,[] => (p,[])
 | p,c :: l => ((runPz (stepPz p c).1 l).1,(stepPz p c).2 ++ (runPz (stepPz p c).1 l).2)
theorem runPz_append:∀ (a b:List Int) (p:Pz),runPz p (a ++ b) = ((runPz (runPz p a).1 b).1,(runPz p a).2 ++ (runPz (runPz p a).1 b).2)
 | [],_,_ => rfl
 | c :: a,b,p => by
   show ((runPz (stepPz p c).1 (a ++ b)).1,(stepPz p c).2 ++ (runPz (stepPz p c).1 (a ++ b)).2) = _
   rw [runPz_append a b]
   simp only [runPz,List.append_assoc]
def RestP (p:Pz):Prop:=p.state = 0∧p.dec.need = 0∧p.dec.hv = 0
theorem run_head:∀ (l:List Int) (p:Pz),p.state = 2→p.wrong = false→p.inter = []→(∀ c ∈ l,48 ≤ c∧c < 60)→p.head.length + l.length ≤ 256→runPz p l = ({ p with head:=p.head ++ l },[])
 | [],p,_,_,_,_,_ => by simp [runPz]
 | c :: l,p,h2,hw,hi,hl,hz => by
   have hc:=hl c (List.mem_cons_self ..)
   have hz':p.head.length + (l.length + 1) ≤ 256:=by simpa using hz
   have e:stepPz p c = ({ p with head:=p.head ++ [c] },[]):=by
    unfold stepPz
    rw [if_neg (by omega),if_neg (by omega),if_neg (by omega),if_neg (by omega)]
    unfold inHeadP
    rw [if_neg (by omega),if_neg (by omega),if_neg (by omega),if_neg (by omega)]
    unfold inSeqP
    rw [if_neg (by omega),if_pos (by omega)]
    unfold numberP
    rw [if_neg (by rw [hw];decide),if_neg (by omega),if_neg (by rw [hi];simp;omega)]
   show ((runPz (stepPz p c).1 l).1,(stepPz p c).2 ++ (runPz (stepPz p c).1 l).2) = _
   rw [e,run_head l { p with head:=p.head ++ [c] } h2 hw hi (fun x hx => hl x (List.mem_cons_of_mem _ hx)) (by simp;omega)]
   simp
theorem seq_run {p:Pz} (hr:RestP p) {l:List Int} (hl:∀ c ∈ l,48 ≤ c∧c < 60) (hz:l.length ≤ 256) {c:Int} (hc:64 ≤ c∧c < 127) :
 runPz p (27 :: 91 :: (l ++ [c])) = (enterP p 0,[⟨3,0,c,0,numsN l,[],[],false⟩]):=by
 obtain ⟨r1,r2,r3⟩:=hr
 have e0:doneP p = (p,[]):=by
  unfold doneP endD
  rw [if_pos r3]
  rfl
 have e1:stepPz p 27 = (enterP p 1,[]):=by
  unfold stepPz
  rw [if_neg (by decide),if_pos rfl,e0]
  show (enterP p 1,[] ++ endsP p) = _
  unfold endsP
  rw [if_neg (by omega),if_neg (by omega)]
  rfl
 have e2:stepPz (enterP p 1) 91 = (enterP p 2,[]):=by
  unfold stepPz
  rw [if_neg (by decide),if_neg (by decide),if_neg (by show ¬ (1:Int) = 0;decide),if_neg (by show ¬ ((1:Int) = 4 ∨ (1:Int) = 5 ∨ _);simp [enterP])]
  unfold inHeadP
  rw [if_neg (by decide),if_neg (by omega),if_neg (by decide),if_pos (show (enterP p 1).state = 1 from rfl)]
  unfold inEscapeP
  rw [if_neg (by decide)]
  unfold finalP
  rw [if_pos ⟨rfl,rfl,rfl⟩]
  rfl
 have e3:runPz (enterP p 2) l = ({ enterP p 2 with head:=l },[]):=by
  rw [run_head l (enterP p 2) rfl rfl rfl hl (by simpa [enterP] using hz)]
  simp [enterP]
 have e4:stepPz { enterP p 2 with head:=l } c = (enterP p 0,[⟨3,0,c,0,numsN l,[],[],false⟩]):=by
  unfold stepPz
  rw [if_neg (by omega),if_neg (by omega),if_neg (by show ¬ (2:Int) = 0;decide),if_neg (by simp [enterP])]
  unfold inHeadP
  rw [if_neg (by omega),if_neg (by omega),if_neg (by omega),if_neg (by show ¬ (2:Int) = 1;decide)]
  unfold inSeqP
  rw [if_neg (by omega),if_neg (by omega),if_neg (by show ¬ (2:Int) = 3;decide)]
  rfl
 show ((runPz (stepPz p 27).1 (91 :: (l ++ [c]))).1,(stepPz p 27).2 ++ (runPz (stepPz p 27).1 (91 :: (l ++ [c]))).2) = _
 rw [e1]
 show ((runPz (stepPz (enterP p 1) 91).1 (l ++ [c])).1,[] ++ ((stepPz (enterP p 1) 91).2 ++ (runPz (stepPz (enterP p 1) 91).1 (l ++ [c])).2)) = _
 rw [e2,runPz_append,e3]
 show ((stepPz { enterP p 2 with head:=l } c).1,[] ++ ([] ++ ([] ++ ((stepPz { enterP p 2 with head:=l } c).2 ++ [])))) = _
 rw [e4]
 rfl
theorem step_eq {d:Dk} {c:Int} (h:okD d c):stepDk d c = ((stepD8 d c).1.toList,(stepD8 d c).2):=by
 unfold stepDk stepD8
 rcases h with ⟨h1,h2,h3⟩ | ⟨h1,h2,h3,h4,h5,h6,h7,h8,h9,h10⟩
 · rw [if_pos h1,if_pos h1]
   unfold beginD
   rcases h3 with h3 | h3
   · have e:sizeB c = 1:=by unfold sizeB;rw [if_pos h3.2]
     rw [e,if_neg (by decide),if_pos rfl,if_pos h3.2]
     rfl
   · have e:sizeB c = 2 ∨ sizeB c = 3 ∨ sizeB c = 4:=by
      unfold sizeB
      rw [if_neg (by omega),if_neg (by omega)]
      by_cases h1:c < 224
      · rw [if_pos h1];exact .inl rfl
      rw [if_neg h1]
      by_cases h1:c < 240
      · rw [if_pos h1];exact .inr (.inl rfl)
      rw [if_neg h1];exact .inr (.inr rfl)
     rw [if_neg (by omega),if_neg (by omega),if_neg (by omega:¬ c < 128)]
     rfl
 · have n0:¬ d.need = 0:=by omega
   rw [if_neg n0,if_neg (by omega),if_neg n0]
   by_cases h1:d.need = 1
   · rw [if_pos h1,if_pos h1];rfl
   · rw [if_neg h1,if_neg h1];rfl
def PrintR (r:Int):Prop:=32 ≤ r∧r ≠ 127∧¬ (128 ≤ r∧r < 160)
theorem prints_plain:∀ (l:List Int) (p:Pz),(∀ r ∈ l,PrintR r)→printsP p l = (p,l.map fun r => { evE with r:=r })
 | [],_,_ => rfl
 | r :: l,p,h => by
   have e:print1 p r = (p,[{ evE with r:=r }]):=by
    obtain ⟨a,b,c⟩:=h r (List.mem_cons_self ..)
    unfold print1
    rw [if_neg (by omega),if_neg b,if_neg c]
   unfold printsP
   rw [e,prints_plain l p (fun x hx => h x (List.mem_cons_of_mem _ hx))]
   rfl
theorem run_dec:∀ (l:List Int) (p:Pz),p.state = 0→okRun p.dec l→(∀ c ∈ l,c ≠ 24∧c ≠ 26∧c ≠ 27)→(∀ r ∈ (runD p.dec l).1,PrintR r)→runPz p l = ({ p with dec:=(runD p.dec l).2 },(runD p.dec l).1.map fun r => { evE with r:=r })
 | [],_,_,_,_,_ => rfl
 | c :: l,p,h0,hok,hc,hp => by
   have hc0:=hc c (List.mem_cons_self ..)
   have e:stepPz p c = ({ p with dec:=(stepD8 p.dec c).2 },(stepD8 p.dec c).1.toList.map fun r => { evE with r:=r }):=by
    unfold stepPz
    rw [if_neg (by omega),if_neg (by omega),if_pos h0]
    unfold decP
    rw [step_eq hok.1]
    exact prints_plain _ _ (fun r hr => hp r (by unfold runD;exact List.mem_append_left _ hr))
   show ((runPz (stepPz p c).1 l).1,(stepPz p c).2 ++ (runPz (stepPz p c).1 l).2) = _
   rw [e,run_dec l { p with dec:=(stepD8 p.dec c).2 } h0 hok.2 (fun x hx => hc x (List.mem_cons_of_mem _ hx)) (fun r hr => hp r (by unfold runD;exact List.mem_append_right _ hr))]
   simp [runD]
theorem bytesR_safe {r:Int} (hs:isScal r = true) (hp:PrintR r):∀ c ∈ bytesR r,c ≠ 24∧c ≠ 26∧c ≠ 27:=by
 have hr:0 ≤ r∧r ≤ 1114111:=by unfold isScal at hs;simp at hs;omega
 obtain ⟨a,-,-⟩:=hp
 intro c hc
 unfold bytesR at hc
 split at hc
 · simp at hc;omega
 split at hc
 · simp at hc;omega
 split at hc
 · simp at hc;omega
 · simp at hc;omega
theorem scal_run {p:Pz} (hr:RestP p) (l:List Int) (hl:∀ r ∈ l,isScal r = true∧PrintR r) :
 ∃ d,d.need = 0∧d.hv = 0∧runPz p (l.flatMap bytesR) = ({ p with dec:=d },l.map fun r => { evE with r:=r }):=by
 obtain ⟨h1,h2,h3,h4⟩:=bytesR_all l (fun r h => (hl r h).1) p.dec hr.2
 refine ⟨_,h3,h4,?_⟩
 rw [run_dec _ p hr.1 h1 (fun c hc => ?_) (fun r hr => (hl r (by rw [h2] at hr;exact hr)).2),h2]
 obtain ⟨r,h5,h6⟩:=List.mem_flatMap.1 hc
 exact bytesR_safe (hl r h5).1 (hl r h5).2 c h6
def decI (n:Nat):List Int:=(Go.Lib.decDigits n).map fun b => (b.toNat:Int)
theorem decI_rec (n:Nat):decI n = if n < 10 then [48 + (n:Int)] else decI (n / 10) ++ [48 + ((n % 10:Nat):Int)]:=by
 have hb:∀ k,k < 10→((UInt8.ofNat (48 + k)).toNat:Int) = 48 + (k:Int):=fun k hk => by
  rw [UInt8.toNat_ofNat']
  omega
 unfold decI
 rw [Go.Lib.decDigits]
 split
 · simp only [List.map_cons,List.map_nil]
   rw [hb n (by assumption)]
 · rw [List.map_append]
   simp only [List.map_cons,List.map_nil]
   rw [hb (n % 10) (Nat.mod_lt _ (by decide))]
theorem decI_in (n:Nat):∀ c ∈ decI n,48 ≤ c∧c < 58:=by
 induction n using Nat.strongRecOn with
 | _ n ih =>
   intro c hc
   rw [decI_rec] at hc
   split at hc
   · simp at hc;omega
   · rcases List.mem_append.1 hc with h | h
     · exact ih (n / 10) (by omega) c h
     · simp at h;omega
theorem decI_pos (n:Nat):0 < (decI n).length:=by
 rw [decI_rec]
 split <;> simp
theorem valN_dec (n:Nat) (hn:n ≤ 65535):valN (decI n) = n:=by
 have key:∀ n:Nat,n ≤ 65535→(decI n).foldl (fun n c => min (n * 10 + (c - 48)) 65535) (0:Int) = n:=by
  intro n
  induction n using Nat.strongRecOn with
  | _ n ih =>
    intro hn
    rw [decI_rec]
    split
    · simp only [List.foldl_cons,List.foldl_nil];omega
    · rw [List.foldl_append,ih (n / 10) (by omega) (by omega)]
      simp only [List.foldl_cons,List.foldl_nil]
      omega
 unfold valN
 rw [if_neg (by have:=decI_pos n;omega),key n hn]
theorem partsN_one {sep:Int} {a:List Int} (n:Nat) (h:sep ∉ a):partsN sep (n + 1) a = [a]:=by
 unfold partsN
 rw [if_neg h]
theorem partsN_cons {sep:Int}:∀ {a:List Int} (n:Nat) (rest:List Int),sep ∉ a→partsN sep (n + 1) (a ++ sep :: rest) = a :: partsN sep n rest:=fun {a} n rest h => by
 have e1:∀ a:List Int,sep ∉ a→(a ++ sep :: rest).takeWhile (· ≠ sep) = a∧((a ++ sep :: rest).dropWhile (· ≠ sep)).drop 1 = rest:=by
  intro a
  induction a with
  | nil => intro _;simp
  | cons x a ih =>
    intro hx
    have hx1:x ≠ sep:=fun e => hx (by rw [e];exact List.mem_cons_self ..)
    obtain ⟨i1,i2⟩:=ih (fun hm => hx (List.mem_cons_of_mem _ hm))
    constructor
    · rw [List.cons_append,List.takeWhile_cons,if_pos (by simpa using hx1),i1]
    · rw [List.cons_append,List.dropWhile_cons,if_pos (by simpa using hx1),i2]
 obtain ⟨i1,i2⟩:=e1 a h
 conv => lhs;unfold partsN
 rw [if_pos (by simp),i1,i2]
def joinI:List Nat→List Int
 | [] => []
 | [n] => decI n
 | n :: m :: l => decI n ++ 59 :: joinI (m :: l)
theorem joinI_in:∀ (l:List Nat),∀ c ∈ joinI l,48 ≤ c∧c < 60
 | [],_,h => by cases h
 | [n],c,h => by have:=decI_in n c h;omega
 | n :: m :: l,c,h => by
   rcases List.mem_append.1 (show c ∈ decI n ++ 59 :: joinI (m :: l) from h) with h | h
   · have:=decI_in n c h;omega
   rcases List.mem_cons.1 h with rfl | h
   · omega
   · exact joinI_in (m :: l) c h
theorem numsN_join:∀ (l:List Nat) (k:Nat),l ≠ []→l.length ≤ k→(∀ n ∈ l,n ≤ 65535)→(partsN 59 k (joinI l)).map (fun g => (partsN 58 8 g).map valN) = l.map (fun n:Nat => [(n:Int)])
 | [],_,h,_,_ => absurd rfl h
 | [n],0,_,h,_ => absurd h (by simp)
 | [n],k + 1,_,_,hn => by
   have h1:∀ s:Int,58 ≤ s→s ∉ decI n:=fun s hs hx => by have:=decI_in n s hx;omega
   rw [show joinI [n] = decI n from rfl,partsN_one k (h1 59 (by decide))]
   simp only [List.map_cons,List.map_nil]
   rw [partsN_one 7 (h1 58 (by decide))]
   simp only [List.map_cons,List.map_nil]
   rw [valN_dec n (hn n (by simp))]
 | n :: m :: l,0,_,h,_ => absurd h (by simp)
 | n :: m :: l,k + 1,_,hk,hn => by
   have h1:∀ s:Int,58 ≤ s→s ∉ decI n:=fun s hs hx => by have:=decI_in n s hx;omega
   rw [show joinI (n :: m :: l) = decI n ++ 59 :: joinI (m :: l) from rfl,partsN_cons k _ (h1 59 (by decide)),List.map_cons,numsN_join (m :: l) k (by simp) (by simp at hk ⊢;omega) (fun x hx => hn x (List.mem_cons_of_mem _ hx)),partsN_one 7 (h1 58 (by decide))]
   simp only [List.map_cons,List.map_nil]
   rw [valN_dec n (hn n (by simp))]
open Go.RowKit
theorem FeedOk.nil {ev:Tm→Ev→Tm} {Ok:Tm→Ev→Prop} {t:Tm}:FeedOk ev Ok t []:=fun k c h => by simp at h
theorem FeedOk.cons {ev:Tm→Ev→Tm} {Ok:Tm→Ev→Prop} {t:Tm} {c:Int} {bs:List Int} (h:EvsOk ev Ok { t with pz:=(stepPz t.pz c).1 } (stepPz t.pz c).2) (hs:FeedOk ev Ok (byteG ev t c) bs):FeedOk ev Ok t (c :: bs):=fun k x hx => by
 match k,hx with
 | 0,hx => obtain rfl:c = x:=by simpa using hx
           exact h
 | k + 1,hx => exact hs k x (by simpa using hx)
section
variable {P:Program}
theorem results_cell_tmpA {fn:Func} {p u:Tmp} {ty:TypeId} (h:fn.results = #[.cell p ty,.tmp u]) (tmps:Array Value) (w:World) :
 (results fn tmps).run P w = ((asAddr (tmps.getD p undef)).run P w).andThen fun a w1 => ((loadVar ty a).run P w1).andThen fun v w2 => .ok (.tuple #[v,tmps.getD u undef]) w2:=by
 simp only [results,h]
 simp [Sem.run_bind,Result.andThen]
theorem ret_cell_tmp {fn:Func} {u p:Tmp} {ty:TypeId} {d:TypeDesc} (hr:fn.results = #[.cell p ty,.tmp u]) (tmps:Array Value) (w:World) (b:Nat) (cs:List Value) (hp:tmps.getD p undef = .pointer (some ⟨b,0,none⟩)) (h:w.rangeAt b 0 cs)
 (hu:P.underlying ty = some d) (hd:d.isRow = true) (hi:(P.info? ty).map (·.size) = some cs.length):(results fn tmps).run P w = .ok (.tuple #[.agg cs.toArray,tmps.getD u undef]) w:=by
 rw [results_cell_tmpA hr,hp]
 have:=run_loadVar_mid (P:=P) w b 0 ty cs _ h hu hd hi
 simp only [asAddr,Sem.run_pure,Result.andThen_ok,this]
end
theorem apalette_any (v lo hi:Int) (w:World) (h1:0 ≤ lo) (h2:lo ≤ 1000) (h3:0 ≤ hi) (h4:hi ≤ 1000) (hv:0 ≤ v) (hv2:v ≤ 65535):Calls Tryz.prog 387 #[.int .i64 v,.int .i64 lo,.int .i64 hi] w (PalPost v lo hi w):=by
 have w1:IntKind.i64.wrap (lo + 8) = lo + 8:=IntWalk.i64_in _ (by omega)
 have w2:IntKind.i64.wrap (hi + 8) = hi + 8:=IntWalk.i64_in _ (by omega)
 have w3:IntKind.i64.wrap (v - lo) = v - lo:=IntWalk.i64_in _ (by omega)
 have w4:IntKind.i64.wrap (v - hi) = v - hi:=IntWalk.i64_in _ (by omega)
 have w5:IntKind.i64.wrap (v - hi + 8) = v - hi + 8:=IntWalk.i64_in _ (by omega)
 have w6:IntKind.i64.wrap (lo + 9) = lo + 9:=IntWalk.i64_in _ (by omega)
 unfold PalPost palV
 by_cases a1:lo ≤ v∧v < lo + 8
 · rw [if_pos a1]
   obtain ⟨b1,b2⟩:=a1
   go_enter Tryz.func387,Tryz.ntmps387
   go_wp2
   exact bodyPost_ret (ret_cell_tmp rfl _ _ w.heap.size [.int .i64 1,.int .i64 (v - lo)] rfl (range_new (hp_new rfl)) Tryz.underlying61 rfl info_color) rfl ⟨rfl,below_allocs (Below.refl _ _) _⟩
 rw [if_neg a1]
 have a1':(lo ≤ v∧¬ v < lo + 8) ∨ ¬ lo ≤ v:=by omega
 clear a1
 by_cases a2:hi ≤ v∧v < hi + 8
 · rw [if_pos a2]
   obtain ⟨b1,b2⟩:=a2
   rcases a1' with ⟨c1,c2⟩ | c1
   all_goals
    go_enter Tryz.func387,Tryz.ntmps387
    go_wp2
    exact bodyPost_ret (ret_cell_tmp rfl _ _ w.heap.size [.int .i64 1,.int .i64 (v - hi + 8)] rfl (range_new (hp_new rfl)) Tryz.underlying61 rfl info_color) rfl ⟨rfl,below_allocs (Below.refl _ _) _⟩
 · rw [if_neg a2]
   have a2':(hi ≤ v∧¬ v < hi + 8) ∨ ¬ hi ≤ v:=by omega
   clear a2
   rcases a1' with ⟨c1,c2⟩ | c1 <;> rcases a2' with ⟨d1,d2⟩ | d1
   all_goals
    go_enter Tryz.func387,Tryz.ntmps387
    go_wp2
    exact bodyPost_ret (ret_cell_tmp rfl _ _ w.heap.size [.int .i64 0,.int .i64 0] rfl (range_new (hp_new rfl)) Tryz.underlying61 rfl info_color) rfl ⟨rfl,below_allocs (Below.refl _ _) _⟩
def f21 (f v:Int):Int:=if v = 21 then bits .or .i64 (bits .andNot .i64 f 8) 256 else f
def flagsB (f v:Int):Int:=bits .andNot .i64 (bits .or .i64 (f21 f v) (setsV v)) (clearsV v)
def simpB (a:Atr) (v:Int):Atr :=
 ⟨if (palV v 30 90).2 then (palV v 30 90).1.k else a.fk,if (palV v 30 90).2 then (palV v 30 90).1.n else a.fn,if (palV v 40 100).2 then (palV v 40 100).1.k else a.bk,if (palV v 40 100).2 then (palV v 40 100).1.n else a.bn,flagsB a.fl v⟩
def SimpPost (a:Atr) (w:World) (e:Ending) (w':World):Prop:=e = .returned (.agg (aL a).toArray)∧Below w.heap.size w w'
theorem heap_set_old {w:World} {b b2 i:Nat} {v:Value} {o:Obj} (h:w.heap[b]? = some o) (hn:b ≠ b2):(w.setCell ⟨b2,i,none⟩ v).heap[b]? = some o:=(heap_other hn).trans h
set_option maxHeartbeats 6400000 in
theorem asimple_any (a:Atr) (v:Int) (w:World) (hv0:v ≠ 0) (hv:0 ≤ v) (hv2:v ≤ 65535):Calls Tryz.prog 362 #[.agg (aL a).toArray,.int .i64 v] w (SimpPost (simpB a v) w):=by
 have HS:=Hd (fun w => asets_any v w)
 have HC:=Hd (fun w => aclears_any v w)
 have HP1:=Hd (fun w => apalette_any v 30 90 w (by decide) (by decide) (by decide) (by decide) hv hv2)
 have HP2:=Hd (fun w => apalette_any v 40 100 w (by decide) (by decide) (by decide) (by decide) hv hv2)
 unfold PalPost at HP1 HP2
 obtain ⟨fk,fn,bk,bn,fl⟩:=a
 unfold simpB flagsB
 simp only []
 obtain ⟨p1,hp1⟩:∃ p,palV v 30 90 = p:=⟨_,rfl⟩
 obtain ⟨p2,hp2⟩:∃ p,palV v 40 100 = p:=⟨_,rfl⟩
 rw [hp1] at HP1 ⊢
 rw [hp2] at HP2 ⊢
 clear hp1 hp2
 obtain ⟨⟨k1,n1⟩,o1⟩:=p1
 obtain ⟨⟨k2,n2⟩,o2⟩:=p2
 simp only [] at HP1 HP2 ⊢
 obtain ⟨sv,hsv⟩:∃ sv,setsV v = sv:=⟨_,rfl⟩
 obtain ⟨cv,hcv⟩:∃ sv,clearsV v = sv:=⟨_,rfl⟩
 rw [hsv] at HS ⊢
 rw [hcv] at HC ⊢
 clear hsv hcv
 have hv0q:(v == 0) = false:=beq_eq_false_iff_ne.2 hv0
 unfold f21 aL
 simp only []
 obtain ⟨g1,hg1⟩:∃ g,(if o1 = true then k1 else fk) = g:=⟨_,rfl⟩
 obtain ⟨g2,hg2⟩:∃ g,(if o1 = true then n1 else fn) = g:=⟨_,rfl⟩
 obtain ⟨g3,hg3⟩:∃ g,(if o2 = true then k2 else bk) = g:=⟨_,rfl⟩
 obtain ⟨g4,hg4⟩:∃ g,(if o2 = true then n2 else bn) = g:=⟨_,rfl⟩
 rw [hg1,hg2,hg3,hg4]
 have HG1:=Hd (And.intro hg1 hg2)
 have HG2:=Hd (And.intro hg3 hg4)
 clear hg1 hg2 hg3 hg4
 by_cases h21:v = 21
 · rw [if_pos h21]
   have hq:(v == 21) = true:=by rw [h21];rfl
   obtain ⟨f1,hf1⟩:∃ f1,bits .or .i64 (bits .andNot .i64 fl 8) 256 = f1:=⟨_,rfl⟩
   rw [hf1]
   obtain ⟨FB,hFB⟩:∃ FB,bits .andNot .i64 (bits .or .i64 f1 sv) cv = FB:=⟨_,rfl⟩
   rw [hFB]
   have HFB:=Hd hFB
   clear h21 hv0 hv hv2 hFB
   go_enter Tryz.func362,Tryz.ntmps362
   go_upto_region 4 with fail
   generalize hW:World.alloc _ _ = W2
   have hx:W2.heap[w.heap.size]? = some (.cells (aL ⟨fk,fn,bk,bn,fl⟩).toArray 63 (0,0)):=by rw [← hW];exact hp_old (hp_new rfl)
   have hy:W2.heap[w.heap.size + 1]? = some (.cells (aL zeroA).toArray 63 (0,0)):=by rw [← hW];exact hp_new (by simp)
   have hb:Below w.heap.size w W2:=by rw [← hW];exact below_allocs (below_allocs (Below.refl _ _) _) _
   clear hW
   obtain ⟨c4,f4⟩:=at_ hx 4 (.int .i64 fl) rfl
   go_upto_region 5 with fail
   have hx5:(W2.setCell ⟨w.heap.size,4,none⟩ (.int .i64 f1)).heap[w.heap.size]? = some (.cells (aL ⟨fk,fn,bk,bn,f1⟩).toArray 63 (0,0)):=whole_set hx 4 _ rfl
   have hy5:=heap_set_old (i:=4) (v:=.int .i64 f1) hy (show w.heap.size + 1 ≠ w.heap.size by omega)
   have hb5:=below_set hb (Nat.le_refl w.heap.size) (o:=4) (.int .i64 f1)
   clear hx hy hb c4 f4 hf1 hq hv0q
   generalize W2.setCell ⟨w.heap.size,4,none⟩ (.int .i64 f1) = W5 at hx5 hy5 hb5 ⊢
   have HX5:=Hd hx5
   have HY5:=Hd hy5
   have HB5:=Hd hb5
   obtain ⟨c4,f4⟩:=at_ hx5 4 (.int .i64 f1) rfl
   clear hx5 hy5 hb5
   refine wp_region_u 9 (fun w' => Below W5.heap.size W5 w'∧w'.cell? ⟨w.heap.size,4,none⟩ = some (.int .i64 f1)) (by kernel_rfl) (by kernel_rfl) ?_ ?_
   · exact ⟨(Below.refl _ _).drew,c4⟩
   simp only [List.take_succ_cons,List.take_zero,List.drop_succ_cons,List.drop_zero]
   repeat (
    (first
     | refine seqU_skip (by rfl) ?_
     | ((refine seqU_call 385 #[.int .i64 v] (.int .i64 sv) (by rfl) ?_ (fun w' hS => (HS.out w').mono fun e w2 ⟨he,hw⟩ => ⟨he,hw ▸ hS⟩) ?_;(focus (intro w2;go_simp;done))))
     | ((refine seqU_call 386 #[.int .i64 v] (.int .i64 cv) (by rfl) ?_ (fun w' hS => (HC.out w').mono fun e w2 ⟨he,hw⟩ => ⟨he,hw ▸ hS⟩) ?_;(focus (intro w2;go_simp;done))))
     | (refine seqU_val ?_ (by rfl) ?_ ?_;rotate_left;(focus (intro w' hS;obtain ⟨_,_⟩:=hS;go_simp;first | done | with_reducible rfl))))
    simp only [Act.put,List.setIfInBounds_toArray,List.set_cons_zero,List.set_cons_succ])
   refine seqU_nil (fun w' hS => ?_)
   have hx6:=(hS.1.block _ (lt_of_heap HX5.out)).trans HX5.out
   have hy6:=(hS.1.block _ (lt_of_heap HY5.out)).trans HY5.out
   have hb6:=below_tail HB5.out hS.1
   clear hS c4 f4
   obtain ⟨c4,f4⟩:=at_ hx6 4 (.int .i64 f1) rfl
   have hFB:=HFB.out
   go_upto_region 6 with fail
   have hx7:(w'.setCell ⟨w.heap.size,4,none⟩ (.int .i64 FB)).heap[w.heap.size]? = some (.cells (aL ⟨fk,fn,bk,bn,FB⟩).toArray 63 (0,0)):=whole_set hx6 4 _ rfl
   have hy7:=heap_set_old (i:=4) (v:=.int .i64 FB) hy6 (show w.heap.size + 1 ≠ w.heap.size by omega)
   have hb7:=below_set hb6 (Nat.le_refl w.heap.size) (o:=4) (.int .i64 FB)
   clear hx6 hy6 hb6 c4 f4 hFB
   generalize w'.setCell ⟨w.heap.size,4,none⟩ (.int .i64 FB) = W7 at hx7 hy7 hb7 ⊢
   have HX:=Hd hx7
   have HY:=Hd hy7
   have HB:=Hd hb7
   clear hx7 hy7 hb7 HX5 HY5 HB5
   go_upto_region 7 with (go_at_call 387;(with_reducible refine (HP1.out _).mono ?_);rintro e w8 ⟨rfl,hb8⟩;have HB8:=Hd hb8;clear hb8)
   generalize hW8:World.alloc _ _ = W8
   have hb8:Below w8.heap.size w8 W8:=by rw [← hW8];exact below_allocs (Below.refl _ _) _
   have hc8:W8.heap[w8.heap.size]? = some (.cells #[.int .i64 k1,.int .i64 n1] 61 (0,0)):=by rw [← hW8];exact hp_new rfl
   have hb9:=below_tail HB8.out hb8
   have hx9:=(hb9.block _ (lt_of_heap HX.out)).trans HX.out
   have hy9:=(hb9.block _ (lt_of_heap HY.out)).trans HY.out
   have hB9:=below_tail HB.out hb9
   clear hW8 hb8 hb9 HB8 HX HY HB
   obtain ⟨d0,-⟩:=at_ hc8 0 (.int .i64 k1) rfl
   obtain ⟨d1,-⟩:=at_ hc8 1 (.int .i64 n1) rfl
   obtain ⟨x0,x0f⟩:=at_ hx9 0 (.int .i64 fk) rfl
   obtain ⟨x1,x1f⟩:=at_ hx9 1 (.int .i64 fn) rfl
   have HX9:=Hd hx9
   have HY9:=Hd hy9
   have HB9:=Hd hB9
   clear hc8 hx9 hy9 hB9
   cases o1
   case' false =>
    go_upto_region 9 with fail
    clear d0 d1 x0 x0f x1 x1f
    have HX:Hid (W8.heap[w.heap.size]? = some (.cells (aL ⟨g1,g2,bk,bn,FB⟩).toArray 63 (0,0))):=Hd (by rw [← HG1.out.1,← HG1.out.2];exact HX9.out)
    have HY:=HY9
    have HB:=HB9
    rename World => W9
   case' true =>
    go_upto_region 9 with fail
    have HX:Hid (((W8.setCell ⟨w.heap.size,0,none⟩ (.int .i64 k1)).setCell ⟨w.heap.size,1,none⟩ (.int .i64 n1)).heap[w.heap.size]? = some (.cells (aL ⟨g1,g2,bk,bn,FB⟩).toArray 63 (0,0))):=Hd (by rw [← HG1.out.1,← HG1.out.2];exact whole_set (whole_set HX9.out 0 _ rfl) 1 _ rfl)
    have HY:Hid (((W8.setCell ⟨w.heap.size,0,none⟩ (.int .i64 k1)).setCell ⟨w.heap.size,1,none⟩ (.int .i64 n1)).heap[w.heap.size + 1]? = some (.cells (aL zeroA).toArray 63 (0,0))):=Hd (heap_set_old (heap_set_old HY9.out (by omega)) (by omega))
    have HB:=Hd (below_set (below_set HB9.out (Nat.le_refl w.heap.size) (o:=0) (.int .i64 k1)) (Nat.le_refl w.heap.size) (o:=1) (.int .i64 n1))
    clear d0 d1 x0 x0f x1 x1f
    generalize (W8.setCell ⟨w.heap.size,0,none⟩ (.int .i64 k1)).setCell ⟨w.heap.size,1,none⟩ (.int .i64 n1) = W9 at HX HY HB ⊢
   all_goals
    clear HX9 HY9 HB9 HP1
    go_upto_region 10 with (go_at_call 387;(with_reducible refine (HP2.out _).mono ?_);rintro e w10 ⟨rfl,hb10⟩;have HB10:=Hd hb10;clear hb10)
    generalize hW10:World.alloc _ _ = W10
    have hb11:Below w10.heap.size w10 W10:=by rw [← hW10];exact below_allocs (Below.refl _ _) _
    have hc11:W10.heap[w10.heap.size]? = some (.cells #[.int .i64 k2,.int .i64 n2] 61 (0,0)):=by rw [← hW10];exact hp_new rfl
    have hb12:=below_tail HB10.out hb11
    have hx12:=(hb12.block _ (lt_of_heap HX.out)).trans HX.out
    have hy12:=(hb12.block _ (lt_of_heap HY.out)).trans HY.out
    have hB12:=below_tail HB.out hb12
    clear hW10 hb11 hb12 HB10 HX HY HB
    obtain ⟨d0,-⟩:=at_ hc11 0 (.int .i64 k2) rfl
    obtain ⟨d1,-⟩:=at_ hc11 1 (.int .i64 n2) rfl
    obtain ⟨x2,x2f⟩:=at_ hx12 2 (.int .i64 bk) rfl
    obtain ⟨x3,x3f⟩:=at_ hx12 3 (.int .i64 bn) rfl
    have HX12:=Hd hx12
    have HY12:=Hd hy12
    have HB12:=Hd hB12
    clear hc11 hx12 hy12 hB12
    cases o2
    case' false =>
     go_upto_region 12 with fail
     clear d0 d1 x2 x2f x3 x3f
     have HX:Hid (W10.heap[w.heap.size]? = some (.cells (aL ⟨g1,g2,g3,g4,FB⟩).toArray 63 (0,0))):=Hd (by rw [← HG2.out.1,← HG2.out.2];exact HX12.out)
     have HY:=HY12
     have HB:=HB12
     rename World => W11
    case' true =>
     go_upto_region 12 with fail
     have HX:Hid (((W10.setCell ⟨w.heap.size,2,none⟩ (.int .i64 k2)).setCell ⟨w.heap.size,3,none⟩ (.int .i64 n2)).heap[w.heap.size]? = some (.cells (aL ⟨g1,g2,g3,g4,FB⟩).toArray 63 (0,0))):=Hd (by rw [← HG2.out.1,← HG2.out.2];exact whole_set (whole_set HX12.out 2 _ rfl) 3 _ rfl)
     have HY:Hid (((W10.setCell ⟨w.heap.size,2,none⟩ (.int .i64 k2)).setCell ⟨w.heap.size,3,none⟩ (.int .i64 n2)).heap[w.heap.size + 1]? = some (.cells (aL zeroA).toArray 63 (0,0))):=Hd (heap_set_old (heap_set_old HY12.out (by omega)) (by omega))
     have HB:=Hd (below_set (below_set HB12.out (Nat.le_refl w.heap.size) (o:=2) (.int .i64 k2)) (Nat.le_refl w.heap.size) (o:=3) (.int .i64 n2))
     clear d0 d1 x2 x2f x3 x3f
     generalize (W10.setCell ⟨w.heap.size,2,none⟩ (.int .i64 k2)).setCell ⟨w.heap.size,3,none⟩ (.int .i64 n2) = W11 at HX HY HB ⊢
    all_goals
     clear HX12 HY12 HB12 HP2
     refine wp_region_lit ?_
     refine load_mid_g (by rfl) 63 (.tmp 2) rfl (w.heap.size) (0) rfl (aL ⟨g1,g2,g3,g4,FB⟩) _ (range_new HX.out) Tryz.underlying63 rfl info_attr5 ?_
     simp only [Act.put,List.setIfInBounds_toArray,List.set_cons_zero,List.set_cons_succ]
     refine wpList_store_mid rfl 63 (.tmp 4) (.tmp 44) rfl (w.heap.size + 1) (0) ((aL ⟨g1,g2,g3,g4,FB⟩).toArray) rfl rfl ((show World.there _ (w.heap.size + 1) 0 5 from there_new HY.out)) info_attr5 (all_oneCell_toArray (one5 _)) ?_
     simp only [Act.put]
     go_wp2
     have hw:=whole_setCells (aL ⟨g1,g2,g3,g4,FB⟩) 0 _ _ HY.out (by simp [aL])
     exact bodyPost_ret (ret_agg rfl _ _ (w.heap.size + 1) (aL ⟨g1,g2,g3,g4,FB⟩) rfl (range_new hw) Tryz.underlying63 rfl info_attr5) rfl ⟨rfl,below_setN HB.out (by omega) _ _⟩
 · rw [if_neg h21]
   have hq:(v == 21) = false:=beq_eq_false_iff_ne.2 h21
   obtain ⟨FB,hFB⟩:∃ FB,bits .andNot .i64 (bits .or .i64 fl sv) cv = FB:=⟨_,rfl⟩
   rw [hFB]
   have HFB:=Hd hFB
   clear h21 hv0 hv hv2 hFB
   go_enter Tryz.func362,Tryz.ntmps362
   go_upto_region 5 with fail
   generalize hW:World.alloc _ _ = W5
   have hx5:W5.heap[w.heap.size]? = some (.cells (aL ⟨fk,fn,bk,bn,fl⟩).toArray 63 (0,0)):=by rw [← hW];exact hp_old (hp_new rfl)
   have hy5:W5.heap[w.heap.size + 1]? = some (.cells (aL zeroA).toArray 63 (0,0)):=by rw [← hW];exact hp_new (by simp)
   have hb5:Below w.heap.size w W5:=by rw [← hW];exact below_allocs (below_allocs (Below.refl _ _) _) _
   clear hW hq hv0q
   have HX5:=Hd hx5
   have HY5:=Hd hy5
   have HB5:=Hd hb5
   obtain ⟨c4,f4⟩:=at_ hx5 4 (.int .i64 fl) rfl
   clear hx5 hy5 hb5
   refine wp_region_u 9 (fun w' => Below W5.heap.size W5 w'∧w'.cell? ⟨w.heap.size,4,none⟩ = some (.int .i64 fl)) (by kernel_rfl) (by kernel_rfl) ?_ ?_
   · exact ⟨(Below.refl _ _).drew,c4⟩
   simp only [List.take_succ_cons,List.take_zero,List.drop_succ_cons,List.drop_zero]
   repeat (
    (first
     | refine seqU_skip (by rfl) ?_
     | ((refine seqU_call 385 #[.int .i64 v] (.int .i64 sv) (by rfl) ?_ (fun w' hS => (HS.out w').mono fun e w2 ⟨he,hw⟩ => ⟨he,hw ▸ hS⟩) ?_;(focus (intro w2;go_simp;done))))
     | ((refine seqU_call 386 #[.int .i64 v] (.int .i64 cv) (by rfl) ?_ (fun w' hS => (HC.out w').mono fun e w2 ⟨he,hw⟩ => ⟨he,hw ▸ hS⟩) ?_;(focus (intro w2;go_simp;done))))
     | (refine seqU_val ?_ (by rfl) ?_ ?_;rotate_left;(focus (intro w' hS;obtain ⟨_,_⟩:=hS;go_simp;first | done | with_reducible rfl))))
    simp only [Act.put,List.setIfInBounds_toArray,List.set_cons_zero,List.set_cons_succ])
   refine seqU_nil (fun w' hS => ?_)
   have hx6:=(hS.1.block _ (lt_of_heap HX5.out)).trans HX5.out
   have hy6:=(hS.1.block _ (lt_of_heap HY5.out)).trans HY5.out
   have hb6:=below_tail HB5.out hS.1
   clear hS c4 f4
   obtain ⟨c4,f4⟩:=at_ hx6 4 (.int .i64 fl) rfl
   have hFB:=HFB.out
   go_upto_region 6 with fail
   have hx7:(w'.setCell ⟨w.heap.size,4,none⟩ (.int .i64 FB)).heap[w.heap.size]? = some (.cells (aL ⟨fk,fn,bk,bn,FB⟩).toArray 63 (0,0)):=whole_set hx6 4 _ rfl
   have hy7:=heap_set_old (i:=4) (v:=.int .i64 FB) hy6 (show w.heap.size + 1 ≠ w.heap.size by omega)
   have hb7:=below_set hb6 (Nat.le_refl w.heap.size) (o:=4) (.int .i64 FB)
   clear hx6 hy6 hb6 c4 f4 hFB
   generalize w'.setCell ⟨w.heap.size,4,none⟩ (.int .i64 FB) = W7 at hx7 hy7 hb7 ⊢
   have HX:=Hd hx7
   have HY:=Hd hy7
   have HB:=Hd hb7
   clear hx7 hy7 hb7 HX5 HY5 HB5
   go_upto_region 7 with (go_at_call 387;(with_reducible refine (HP1.out _).mono ?_);rintro e w8 ⟨rfl,hb8⟩;have HB8:=Hd hb8;clear hb8)
   generalize hW8:World.alloc _ _ = W8
   have hb8:Below w8.heap.size w8 W8:=by rw [← hW8];exact below_allocs (Below.refl _ _) _
   have hc8:W8.heap[w8.heap.size]? = some (.cells #[.int .i64 k1,.int .i64 n1] 61 (0,0)):=by rw [← hW8];exact hp_new rfl
   have hb9:=below_tail HB8.out hb8
   have hx9:=(hb9.block _ (lt_of_heap HX.out)).trans HX.out
   have hy9:=(hb9.block _ (lt_of_heap HY.out)).trans HY.out
   have hB9:=below_tail HB.out hb9
   clear hW8 hb8 hb9 HB8 HX HY HB
   obtain ⟨d0,-⟩:=at_ hc8 0 (.int .i64 k1) rfl
   obtain ⟨d1,-⟩:=at_ hc8 1 (.int .i64 n1) rfl
   obtain ⟨x0,x0f⟩:=at_ hx9 0 (.int .i64 fk) rfl
   obtain ⟨x1,x1f⟩:=at_ hx9 1 (.int .i64 fn) rfl
   have HX9:=Hd hx9
   have HY9:=Hd hy9
   have HB9:=Hd hB9
   clear hc8 hx9 hy9 hB9
   cases o1
   case' false =>
    go_upto_region 9 with fail
    clear d0 d1 x0 x0f x1 x1f
    have HX:Hid (W8.heap[w.heap.size]? = some (.cells (aL ⟨g1,g2,bk,bn,FB⟩).toArray 63 (0,0))):=Hd (by rw [← HG1.out.1,← HG1.out.2];exact HX9.out)
    have HY:=HY9
    have HB:=HB9
    rename World => W9
   case' true =>
    go_upto_region 9 with fail
    have HX:Hid (((W8.setCell ⟨w.heap.size,0,none⟩ (.int .i64 k1)).setCell ⟨w.heap.size,1,none⟩ (.int .i64 n1)).heap[w.heap.size]? = some (.cells (aL ⟨g1,g2,bk,bn,FB⟩).toArray 63 (0,0))):=Hd (by rw [← HG1.out.1,← HG1.out.2];exact whole_set (whole_set HX9.out 0 _ rfl) 1 _ rfl)
    have HY:Hid (((W8.setCell ⟨w.heap.size,0,none⟩ (.int .i64 k1)).setCell ⟨w.heap.size,1,none⟩ (.int .i64 n1)).heap[w.heap.size + 1]? = some (.cells (aL zeroA).toArray 63 (0,0))):=Hd (heap_set_old (heap_set_old HY9.out (by omega)) (by omega))
    have HB:=Hd (below_set (below_set HB9.out (Nat.le_refl w.heap.size) (o:=0) (.int .i64 k1)) (Nat.le_refl w.heap.size) (o:=1) (.int .i64 n1))
    clear d0 d1 x0 x0f x1 x1f
    generalize (W8.setCell ⟨w.heap.size,0,none⟩ (.int .i64 k1)).setCell ⟨w.heap.size,1,none⟩ (.int .i64 n1) = W9 at HX HY HB ⊢
   all_goals
    clear HX9 HY9 HB9 HP1
    go_upto_region 10 with (go_at_call 387;(with_reducible refine (HP2.out _).mono ?_);rintro e w10 ⟨rfl,hb10⟩;have HB10:=Hd hb10;clear hb10)
    generalize hW10:World.alloc _ _ = W10
    have hb11:Below w10.heap.size w10 W10:=by rw [← hW10];exact below_allocs (Below.refl _ _) _
    have hc11:W10.heap[w10.heap.size]? = some (.cells #[.int .i64 k2,.int .i64 n2] 61 (0,0)):=by rw [← hW10];exact hp_new rfl
    have hb12:=below_tail HB10.out hb11
    have hx12:=(hb12.block _ (lt_of_heap HX.out)).trans HX.out
    have hy12:=(hb12.block _ (lt_of_heap HY.out)).trans HY.out
    have hB12:=below_tail HB.out hb12
    clear hW10 hb11 hb12 HB10 HX HY HB
    obtain ⟨d0,-⟩:=at_ hc11 0 (.int .i64 k2) rfl
    obtain ⟨d1,-⟩:=at_ hc11 1 (.int .i64 n2) rfl
    obtain ⟨x2,x2f⟩:=at_ hx12 2 (.int .i64 bk) rfl
    obtain ⟨x3,x3f⟩:=at_ hx12 3 (.int .i64 bn) rfl
    have HX12:=Hd hx12
    have HY12:=Hd hy12
    have HB12:=Hd hB12
    clear hc11 hx12 hy12 hB12
    cases o2
    case' false =>
     go_upto_region 12 with fail
     clear d0 d1 x2 x2f x3 x3f
     have HX:Hid (W10.heap[w.heap.size]? = some (.cells (aL ⟨g1,g2,g3,g4,FB⟩).toArray 63 (0,0))):=Hd (by rw [← HG2.out.1,← HG2.out.2];exact HX12.out)
     have HY:=HY12
     have HB:=HB12
     rename World => W11
    case' true =>
     go_upto_region 12 with fail
     have HX:Hid (((W10.setCell ⟨w.heap.size,2,none⟩ (.int .i64 k2)).setCell ⟨w.heap.size,3,none⟩ (.int .i64 n2)).heap[w.heap.size]? = some (.cells (aL ⟨g1,g2,g3,g4,FB⟩).toArray 63 (0,0))):=Hd (by rw [← HG2.out.1,← HG2.out.2];exact whole_set (whole_set HX12.out 2 _ rfl) 3 _ rfl)
     have HY:Hid (((W10.setCell ⟨w.heap.size,2,none⟩ (.int .i64 k2)).setCell ⟨w.heap.size,3,none⟩ (.int .i64 n2)).heap[w.heap.size + 1]? = some (.cells (aL zeroA).toArray 63 (0,0))):=Hd (heap_set_old (heap_set_old HY12.out (by omega)) (by omega))
     have HB:=Hd (below_set (below_set HB12.out (Nat.le_refl w.heap.size) (o:=2) (.int .i64 k2)) (Nat.le_refl w.heap.size) (o:=3) (.int .i64 n2))
     clear d0 d1 x2 x2f x3 x3f
     generalize (W10.setCell ⟨w.heap.size,2,none⟩ (.int .i64 k2)).setCell ⟨w.heap.size,3,none⟩ (.int .i64 n2) = W11 at HX HY HB ⊢
    all_goals
     clear HX12 HY12 HB12 HP2
     refine wp_region_lit ?_
     refine load_mid_g (by rfl) 63 (.tmp 2) rfl (w.heap.size) (0) rfl (aL ⟨g1,g2,g3,g4,FB⟩) _ (range_new HX.out) Tryz.underlying63 rfl info_attr5 ?_
     simp only [Act.put,List.setIfInBounds_toArray,List.set_cons_zero,List.set_cons_succ]
     refine wpList_store_mid rfl 63 (.tmp 4) (.tmp 44) rfl (w.heap.size + 1) (0) ((aL ⟨g1,g2,g3,g4,FB⟩).toArray) rfl rfl ((show World.there _ (w.heap.size + 1) 0 5 from there_new HY.out)) info_attr5 (all_oneCell_toArray (one5 _)) ?_
     simp only [Act.put]
     go_wp2
     have hw:=whole_setCells (aL ⟨g1,g2,g3,g4,FB⟩) 0 _ _ HY.out (by simp [aL])
     exact bodyPost_ret (ret_agg rfl _ _ (w.heap.size + 1) (aL ⟨g1,g2,g3,g4,FB⟩) rfl (range_new hw) Tryz.underlying63 rfl info_attr5) rfl ⟨rfl,below_setN HB.out (by omega) _ _⟩
def flagNums:List Int:=[1,2,3,5,6,7,8,9,21,22,23,24,25,27,28,29,53,55]
theorem flags_fin:∀ f:Fin 1024,∀ v ∈ flagNums,flagsB (f.val:Int) v = flagsA (f.val:Int) v []:=by decide +kernel
theorem flags_none:∀ f:Fin 1024,bits .andNot .i64 (bits .or .i64 (f.val:Int) 0) 0 = (f.val:Int):=by decide +kernel
theorem flags_four:∀ f:Fin 1024,bits .or .i64 (bits .andNot .i64 (f.val:Int) 264) 0 = withF (withF f.val 256 false) 8 false∧bits .or .i64 (bits .andNot .i64 (f.val:Int) 264) 8 = withF (withF f.val 256 false) 8 true∧bits .or .i64 (bits .andNot .i64 (f.val:Int) 264) 256 = withF (withF f.val 256 true) 8 false:=by decide +kernel
theorem withF_ok:∀ f:Fin 1024,∀ k ∈ ([1,2,4,8,16,32,64,128,256,512]:List Int),∀ b:Bool,0 ≤ withF (f.val:Int) k b∧withF (f.val:Int) k b < 1024:=by decide +kernel
theorem FlOk.with {f:Int} (h:FlOk f) (k:Int) (hk:k ∈ ([1,2,4,8,16,32,64,128,256,512]:List Int)) (b:Bool):FlOk (withF f k b):=by
 obtain ⟨h0,h1⟩:=h
 have:=withF_ok ⟨f.toNat,by omega⟩ k hk b
 rw [show (((⟨f.toNat,by omega⟩:Fin 1024).val:Nat):Int) = f from by show ((f.toNat:Nat):Int) = f;omega] at this
 exact this
theorem flagsB_A {f:Int} (h:FlOk f) (v:Int) (hv:v ≠ 4) (g:List Int):flagsB f v = flagsA f v g:=by
 obtain ⟨h0,h1⟩:=h
 have e:(((⟨f.toNat,by omega⟩:Fin 1024).val:Nat):Int) = f:=by show ((f.toNat:Nat):Int) = f;omega
 have hg:flagsA f v g = flagsA f v []:=by unfold flagsA;simp only [if_neg hv]
 rw [hg]
 by_cases hm:v ∈ flagNums
 · have:=flags_fin ⟨f.toNat,by omega⟩ v hm
   rw [e] at this
   exact this
 · simp only [flagNums,List.mem_cons,List.not_mem_nil,or_false,not_or] at hm
   obtain ⟨a1,a2,a3,a5,a6,a7,a8,a9,a21,a22,a23,a24,a25,a27,a28,a29,a53,a55⟩:=hm
   have s0:setsV v = 0:=by unfold setsV;simp [*]
   have c0:clearsV v = 0:=by unfold clearsV;simp [*]
   have f0:flagsA f v [] = f:=by unfold flagsA;simp [*]
   have b0:f21 f v = f:=by unfold f21;simp [*]
   unfold flagsB
   rw [s0,c0,f0,b0]
   have:=flags_none ⟨f.toNat,by omega⟩
   rw [e] at this
   exact this
theorem flags4 {f:Int} (h:FlOk f) (g:List Int):bits .or .i64 (bits .andNot .i64 f 264) (lineV g) = flagsA f 4 g:=by
 obtain ⟨h0,h1⟩:=h
 have e:(((⟨f.toNat,by omega⟩:Fin 1024).val:Nat):Int) = f:=by show ((f.toNat:Nat):Int) = f;omega
 have:=flags_four ⟨f.toNat,by omega⟩
 rw [e] at this
 obtain ⟨t0,t8,t256⟩:=this
 unfold flagsA lineV
 simp only [Int.reduceEq,if_false,if_true]
 by_cases h1:1 < g.length
 · by_cases h2:g.getD 1 0 = 0
   · rw [if_pos ⟨h1,h2⟩]
     simp only [h1,h2,decide_true,Bool.true_and,show decide ((0:Int) = 2) = false from rfl,show decide ((0:Int) = 0) = true from rfl,Bool.not_false,Bool.not_true,Bool.and_false]
     exact t0
   · rw [if_neg (by omega)]
     by_cases h3:g.getD 1 0 = 2
     · rw [if_pos ⟨h1,h3⟩]
       simp only [h1,h3,decide_true,Bool.true_and,Bool.not_true,Bool.false_and]
       exact t256
     · rw [if_neg (by omega)]
       simp only [h1,h2,h3,decide_true,decide_false,Bool.and_false,Bool.not_false,Bool.and_true]
       exact t8
 · rw [if_neg (by omega),if_neg (by omega)]
   simp only [h1,decide_false,Bool.false_and,Bool.not_false,Bool.and_true]
   exact t8
theorem pal_fore (c:Col) (v:Int) (h:0 ≤ v):(if (palV v 30 90).2 then (palV v 30 90).1 else c) = foreA c v:=by
 by_cases h1:30 ≤ v∧v < 30 + 8
 · have e:palV v 30 90 = (⟨1,v - 30⟩,true):=by unfold palV;rw [if_pos h1]
   rw [e]
   show (⟨1,v - 30⟩:Col) = _
   unfold foreA
   rw [if_neg (by omega),if_pos (by omega)]
 by_cases h2:90 ≤ v∧v < 90 + 8
 · have e:palV v 30 90 = (⟨1,v - 90 + 8⟩,true):=by unfold palV;rw [if_neg h1,if_pos h2]
   rw [e]
   show (⟨1,v - 90 + 8⟩:Col) = _
   unfold foreA
   rw [if_neg (by omega),if_neg (by omega),if_pos (by omega),show v - 90 + 8 = v - 82 by omega]
 · have e:palV v 30 90 = (⟨0,0⟩,v == 30 + 9):=by unfold palV;rw [if_neg h1,if_neg h2]
   rw [e]
   unfold foreA
   by_cases h3:v = 30 + 9
   · rw [if_pos (show v = 39 by omega),h3];rfl
   · rw [if_neg (show ¬ v = 39 by omega),if_neg (show ¬ (30 ≤ v∧v ≤ 37) by omega),if_neg (show ¬ (90 ≤ v∧v ≤ 97) by omega)]
     rw [show (v == 30 + 9) = false from beq_eq_false_iff_ne.2 h3]
     rfl
theorem pal_back (c:Col) (v:Int) (h:0 ≤ v):(if (palV v 40 100).2 then (palV v 40 100).1 else c) = backA c v:=by
 by_cases h1:40 ≤ v∧v < 40 + 8
 · have e:palV v 40 100 = (⟨1,v - 40⟩,true):=by unfold palV;rw [if_pos h1]
   rw [e]
   show (⟨1,v - 40⟩:Col) = _
   unfold backA
   rw [if_neg (by omega),if_pos (by omega)]
 by_cases h2:100 ≤ v∧v < 100 + 8
 · have e:palV v 40 100 = (⟨1,v - 100 + 8⟩,true):=by unfold palV;rw [if_neg h1,if_pos h2]
   rw [e]
   show (⟨1,v - 100 + 8⟩:Col) = _
   unfold backA
   rw [if_neg (by omega),if_neg (by omega),if_pos (by omega),show v - 100 + 8 = v - 92 by omega]
 · have e:palV v 40 100 = (⟨0,0⟩,v == 40 + 9):=by unfold palV;rw [if_neg h1,if_neg h2]
   rw [e]
   unfold backA
   by_cases h3:v = 40 + 9
   · rw [if_pos (show v = 49 by omega),h3];rfl
   · rw [if_neg (show ¬ v = 49 by omega),if_neg (show ¬ (40 ≤ v∧v ≤ 47) by omega),if_neg (show ¬ (100 ≤ v∧v ≤ 107) by omega)]
     rw [show (v == 40 + 9) = false from beq_eq_false_iff_ne.2 h3]
     rfl
theorem simpB_A {a:Atr} (h:FlOk a.fl) (v:Int) (hv:0 ≤ v) (h0:v ≠ 0) (h4:v ≠ 4) (g:List Int):simpB a v = simpA a v g:=by
 unfold simpB simpA
 rw [if_neg h0,flagsB_A h v h4 g,← pal_fore ⟨a.fk,a.fn⟩ v hv,← pal_back ⟨a.bk,a.bn⟩ v hv]
 congr 1
 all_goals (split <;> rfl)
end Go.Proofs.YtaefcahblmopfaaGreatDoor
