/- Joined by a tool of this claim out of smaller texts. Conditions: as stated. -/
import Derived.Test.YtffdblmdelgkaaaGreatRt18
set_option linter.unusedVariables false
set_option linter.unusedSimpArgs false
set_option maxRecDepth 100000
open Go.Lib renaming hid → Hd
namespace Go.Proofs.YtffdblmdelgkaaaGreat
open Go.RowKit
theorem CrO.gr {w:World} {base g cap:Nat} {l:List Cl} (h:CrO w base g cap l):GrAt encCl 8 w (some ⟨g,0,none⟩) l:=fun _ => ⟨g,0,rfl,fun i c hi j v hv => by
 rw [Nat.zero_add];exact h.range hi j v hv⟩
def RPost (n:Nat) (o:List Cl) (w:World) (e:Ending) (w':World):Prop:=∃ g cap,e = .returned (.slice (some ⟨g,0,none⟩) n cap)∧CrO w' w.heap.size g cap o∧Below w.heap.size w w'
theorem rMend_n (A:Option Addr) (o:List Cl) (n ca:Nat) (w:World) (hl:GrAt encCl 8 w A o) (hn:o.length = n) (h0:0 < n) (hz:n ≤ 10000) :
 Calls Tryz.prog 70 #[.slice A n ca] w (RPost n (mendL o) w):=by
 subst hn
 refine (rMend_any A o ca w hl h0 hz).mono ?_
 rintro e w1 ⟨g,cap,he,hc,hb⟩
 rw [mendL_len] at he
 exact ⟨g,cap,he,hc,hb⟩
set_option maxHeartbeats 1600000 in
theorem rBlank_any (b:Col) (w:World):Calls Tryz.prog 83 #[.agg #[.int .i64 b.k,.int .i64 b.n]] w (CellPost (blankC b) w):=by
 have HB0:=Hd (below_allocs (below_allocs (Below.refl w.heap.size w) (.cells #[.int .i64 b.k,.int .i64 b.n] 32)) (.cells (encCl (emptyA ⟨0,0,0,0,0⟩)).toArray 109))
 have HT0:=Hd (there_new (cs:=(encCl (emptyA ⟨0,0,0,0,0⟩)).toArray) (w:=(w.alloc (.cells #[.int .i64 b.k,.int .i64 b.n] 32)).alloc (.cells (encCl (emptyA ⟨0,0,0,0,0⟩)).toArray 109)) (g:=w.heap.size + 1) (hp_new (by simp)))
 go_enter Tryz.func83,Tryz.ntmps83
 go_wp2_with (refine wpList_store_mid (op:=⟨none,.store 109 (.tmp 2) (.tmp 5),_,_,_,_⟩) rfl 109 (.tmp 2) (.tmp 5) rfl (w.heap.size + 1) 0 (encCl (blankC b)).toArray rfl rfl HT0.out info_cell (cl_one (blankC b)) ?_)
 exact bodyPost_ret (ret_cell rfl _ _ (w.heap.size + 1) (blankC b) rfl (World.rangeAt_setCells_same _ _ _ _ HT0.out)) rfl ⟨rfl,below_setCells HB0.out (by omega) _ _⟩
set_option maxHeartbeats 3200000 in
theorem rClose_any (A:Option Addr) (l:List Cl) (ca:Nat) (w:World) (hl:GrAt encCl 8 w A l) (h0:0 < l.length) (hz:l.length ≤ 10000) :
 Calls Tryz.prog 46 #[.slice A l.length ca] w (WithPost (closeL l) w):=by
 have HM:=Hd (rMend_n A l l.length ca w hl rfl h0 hz)
 obtain ⟨n,hn⟩:∃ n,l.length = n + 1:=⟨l.length - 1,by omega⟩
 have hpos:(0:Int) < (l.length:Int):=by omega
 have hw:IntKind.i64.wrap ((l.length:Int) - 1) = (n:Int):=by rw [IntWalk.i64_in _ (by omega)];omega
 have hnl:(n:Int) < (l.length:Int):=by omega
 have HN:=Hd hn
 clear hl hn
 go_enter Tryz.func46,Tryz.ntmps46
 go_wp2_with (first
  | (go_at_call 70;(with_reducible refine HM.out.mono ?_);rintro e w1 ⟨g,cap,rfl,hc,hb⟩;have HC:=Hd hc;have HB1:=Hd hb;have HTH:=Hd (hc.there (i:=n) (by rw [mendL_len];have:=HN.out;omega));have HS:=Hd (hc.set (i:=n) (by rw [mendL_len];have:=HN.out;omega) padC);have HBS:=Hd (below_setCells hb hc.lt.1 (encCl padC) (n * 8));have HM2:=Hd (rMend_n _ _ l.length cap _ HS.out.1.gr (by rw [List.length_set,mendL_len]) h0 hz);clear hc hb)
  | (go_at_call 70;(with_reducible refine HM2.out.mono ?_);rintro e w2 ⟨g',cap',rfl,hc,hb⟩;have HC2:=Hd hc;have HB2:=Hd hb;clear hc hb)
  | (refine wpList_store_mid (op:=⟨none,.store 109 (.tmp 14) (.tmp 13),_,_,_,_⟩) rfl 109 (.tmp 14) (.tmp 13) rfl g (n * 8) (encCl padC).toArray rfl rfl HTH.out info_cell (cl_one padC) ?_))
 go_ret
 refine ⟨g',cap',by rw [show (closeL l).length = l.length by unfold closeL;rw [mendL_len,List.length_set,mendL_len]];rfl,?_,below_tail HBS.out HB2.out⟩
 have hO:=HC2.out
 rw [show mendL ((mendL l).set n padC) = closeL l by unfold closeL;rw [show l.length - 1 = n by have:=HN.out;omega]] at hO
 exact owns_weaken hO HBS.out.size
def eraseK (o:List Cl) (x y:Int) (b:Col) (i:Nat):List Cl:=o.mapIdx (fun j c => if j < i∧x ≤ j∧(j:Int) < y then blankC b else c)
theorem eraseK_len (o:List Cl) (x y:Int) (b:Col) (i:Nat):(eraseK o x y b i).length = o.length:=by unfold eraseK;simp
theorem eraseK_zero (o:List Cl) (x y:Int) (b:Col):eraseK o x y b 0 = o:=by
 unfold eraseK
 refine List.ext_getElem (by simp) (fun j h1 h2 => ?_)
 simp
theorem eraseK_in (o:List Cl) (x y:Int) (b:Col) (i:Nat) (h:x ≤ i∧(i:Int) < y):(eraseK o x y b i).set i (blankC b) = eraseK o x y b (i + 1):=by
 unfold eraseK
 refine List.ext_getElem (by simp) (fun j h1 h2 => ?_)
 rw [List.getElem_set]
 simp only [List.getElem_mapIdx]
 by_cases hj:i = j
 · subst hj;rw [if_pos rfl,if_pos ⟨by omega,h⟩]
 · rw [if_neg hj]
   by_cases h3:j < i∧x ≤ j∧(j:Int) < y
   · rw [if_pos h3,if_pos ⟨by omega,h3.2⟩]
   · rw [if_neg h3,if_neg (fun h4 => h3 ⟨by omega,h4.2⟩)]
theorem eraseK_out (o:List Cl) (x y:Int) (b:Col) (i:Nat) (h:¬ (x ≤ i∧(i:Int) < y)):eraseK o x y b i = eraseK o x y b (i + 1):=by
 unfold eraseK
 refine List.ext_getElem (by simp) (fun j h1 h2 => ?_)
 simp only [List.getElem_mapIdx]
 by_cases h3:j < i∧x ≤ j∧(j:Int) < y
 · rw [if_pos h3,if_pos ⟨by omega,h3.2⟩]
 · rw [if_neg h3,if_neg (fun h4 => h3 ⟨by
    have hne:j ≠ i:=by rintro rfl;exact h h4.2
    omega,h4.2⟩)]
theorem eraseK_all (o:List Cl) (x y:Int) (b:Col):eraseK o x y b o.length = wipeL b x y o:=by
 unfold eraseK wipeL
 refine List.ext_getElem (by simp) (fun j h1 h2 => ?_)
 have hj:j < o.length:=by simpa using h2
 simp [hj]
set_option maxHeartbeats 3200000 in
theorem rErase_any (A:Option Addr) (l:List Cl) (ca:Nat) (x y:Int) (b:Col) (w:World) (hl:GrAt encCl 8 w A l) (h0:0 < l.length) (hz:l.length ≤ 10000) :
 Calls Tryz.prog 79 #[.slice A l.length ca,.int .i64 x,.int .i64 y,.agg #[.int .i64 b.k,.int .i64 b.n]] w (WithPost (eraseL l x y b) w):=by
 have hb0:=below_allocs (Below.refl w.heap.size w) (.cells #[.int .i64 b.k,.int .i64 b.n] 32)
 have HB0:=Hd hb0
 have HK:Hid (HoldAt (w.alloc (.cells #[.int .i64 b.k,.int .i64 b.n] 32)) w.heap.size 0 (.int .i64 b.k)∧HoldAt (w.alloc (.cells #[.int .i64 b.k,.int .i64 b.n] 32)) w.heap.size 1 (.int .i64 b.n)):=Hd ⟨at_ (hp_new rfl) 0 _ rfl,at_ (hp_new rfl) 1 _ rfl⟩
 have HM:=Hd (rMend_n A l l.length ca _ (hl.below hb0) rfl h0 hz)
 have HBL:=Hd (fun w => rBlank_any b w)
 have HM2:=Hd (fun (g cap base:Nat) (o:List Cl) (w':World) (h:CrO w' base g cap o) (hn:o.length = l.length) => rMend_n (some ⟨g,0,none⟩) o l.length cap w' h.gr hn h0 hz)
 clear hl hb0
 go_enter Tryz.func79,Tryz.ntmps79
 go_wp2_with (go_at_call 70;refine HM.out.mono ?_;rintro e w1 ⟨g,cap,rfl,hc,hb⟩;have HC:=Hd hc;have HB1:=Hd (below_tail HB0.out hb);have HK1:=Hd (show HoldAt w1 w.heap.size 0 (.int .i64 b.k)∧HoldAt w1 w.heap.size 1 (.int .i64 b.n) from ⟨hold hb HK.out.1,hold hb HK.out.2⟩);clear hc hb)
 have hgb:w.heap.size + 1 ≤ g:=by have:=HC.out.lt.1;simpa using this
 go_loopw [10] (fun s10 wr => ∃ (i:Nat) (o:List Cl),s10 = .int .i64 i∧i ≤ l.length∧o = eraseK (mendL l) x y b i∧CrO wr (w.heap.size + 1) g cap o∧Mod [g] w1 wr) (fun s10 _ => l.length - (intOf s10).toNat)
 case atStart => exact ⟨0,mendL l,rfl,Nat.zero_le _,(eraseK_zero _ _ _ _).symm,by have:=HC.out;simpa using this,Mod.refl _ _⟩
 case round =>
  obtain ⟨i,o,rfl,hi,ho,hO,hM⟩:=hrel
  have HO:=Hd hO
  have HMd:=Hd hM
  have HE:=Hd ho
  have HOL:Hid (o.length = l.length):=Hd (by rw [ho,eraseK_len,mendL_len])
  have k0:=(hM.hold (by simp;omega) HK1.out.1).1
  have k1:=(hM.hold (by simp;omega) HK1.out.2).1
  have HBM:=Hd (HB1.out.trans (hM.below (fun x hx => by rw [List.mem_singleton.1 hx];omega) HB1.out.size))
  clear hO hM ho
  by_cases hlt:i < l.length
  rotate_left
  · have hge:¬ (i:Int) < (l.length:Int):=by omega
    have HM3:=Hd (HM2.out _ _ _ _ _ HO.out HOL.out)
    go_wp2_with (go_at_call 70;refine HM3.out.mono ?_;rintro e w2 ⟨g',cap',rfl,hc,hb⟩;have HC2:=Hd hc;have HB2:=Hd hb;clear hc hb)
    go_ret
    have hO2:=HC2.out
    rw [show mendL o = eraseL l x y b by
     unfold eraseL;rw [HE.out,show i = (mendL l).length by rw [mendL_len];omega,eraseK_all]] at hO2
    exact ⟨g',cap',by rw [show (eraseL l x y b).length = l.length by unfold eraseL;rw [mendL_len,← eraseK_all,eraseK_len,mendL_len]];rfl,owns_weaken hO2 HBM.out.size,below_tail HBM.out HB2.out⟩
  · have hltI:(i:Int) < (l.length:Int):=by omega
    by_cases hin:x ≤ i∧(i:Int) < y
    · have hx1:=hin.1
      have hx2:=hin.2
      have HIN:=Hd hin
      clear hin
      go_wp2_with (first
       | (go_at_call 83;refine (HBL.out _).mono ?_;rintro e w3 ⟨rfl,hb⟩;have HB3:=Hd hb;clear hb;have HTH:=Hd ((HO.out.below HB3.out).there (i:=i) (by rw [HOL.out];omega)))
       | (refine wpList_store_mid (op:=⟨none,.store 109 (.tmp 31) (.tmp 30),_,_,_,_⟩) rfl 109 (.tmp 31) (.tmp 30) rfl g (i * 8) (encCl (blankC b)).toArray rfl rfl HTH.out info_cell (cl_one (blankC b)) ?_))
      obtain ⟨q1,q2⟩:=(HO.out.below HB3.out).set (i:=i) (by rw [HOL.out];omega) (blankC b)
      rw [HE.out,eraseK_in _ _ _ _ _ HIN.out] at q1
      have Q1:=Hd q1
      have Q2:=Hd q2
      clear q1 q2
      go_roundw
      case rel => exact ⟨i + 1,_,by go_num,by omega,rfl,Q1.out,(HMd.out.then_below HB3.out).trans Q2.out (fun k hk => .inl hk)⟩
      case measure => simp [intOf];omega
    · have HOT:=Hd hin
      by_cases hx1:x ≤ i
      · have hx2:¬ (i:Int) < y:=fun h => hin ⟨hx1,h⟩
        clear hin
        go_wp2
        go_roundw
        case rel => exact ⟨i + 1,o,by go_num,by omega,by rw [HE.out];exact eraseK_out _ _ _ _ _ HOT.out,HO.out,HMd.out⟩
        case measure => simp [intOf];omega
      · clear hin
        go_wp2
        go_roundw
        case rel => exact ⟨i + 1,o,by go_num,by omega,by rw [HE.out];exact eraseK_out _ _ _ _ _ HOT.out,HO.out,HMd.out⟩
        case measure => simp [intOf];omega
theorem wpList_callG {P:Program} {ops:Array Oper} {rest:List Oper} {o:Oper} {a:Act} {w:World} {Q:Exit→Act→World→Prop} (hg:o.guard = none) (f:FuncId) (args:Array Value) (hrun:(execOp a.eval o).run P w = .ok (.enter f args) w)
 {Post:Ending→World→Prop} (hc:Calls P f args w Post) (v:Value) (hv:∀ e w',Post e w'→e = .returned v) (h:∀ w',Post (.returned v) w'→wpList P ops Q rest (a.put o.dst v) w'):wpList P ops Q (o :: rest) a w:=by
 refine wpList_plain hg fun K hK => ?_
 unfold Oper.wp
 rw [hrun,Oper.upon_enter]
 refine hc.mono fun e w'' hh => ?_
 obtain rfl:=hv e w'' hh
 exact hK _ _ (h _ hh)
set_option maxHeartbeats 1000000 in
theorem rBlanks_any (n:Nat) (b:Col) (w:World) (hn0:0 < n) (hn:n ≤ 1000) :
 Calls Tryz.prog 113 #[.int .i64 n,.agg #[.int .i64 b.k,.int .i64 b.n]] w (WithPost (List.replicate n (blankC b)) w):=by
 obtain ⟨j0,hj,gz0,gz1,gz2⟩:=info_parts info_cellz
 obtain ⟨X,hX⟩:∃ X,blankC b = X:=⟨_,rfl⟩
 rw [hX]
 have HBL:=Hd (fun w => rBlank_any b w)
 rw [hX] at HBL
 clear hX
 obtain ⟨xr,xm,xh,x1,x2,x3,x4,x5⟩:=X
 have HBL:Hid (∀ w:World,Calls Tryz.prog 83 #[.agg #[.int .i64 b.k,.int .i64 b.n]] w (fun e w' => e = .returned (.agg #[.int .i32 xr,.string xm,.int .i64 xh,.int .i64 x1,.int .i64 x2,.int .i64 x3,.int .i64 x4,.int .i64 x5])∧Below w.heap.size w w')):=HBL
 have HB0:=Hd (below_allocs (Below.refl w.heap.size w) (.cells #[.int .i64 b.k,.int .i64 b.n] 32))
 have HK:Hid (HoldAt (w.alloc (.cells #[.int .i64 b.k,.int .i64 b.n] 32)) w.heap.size 0 (.int .i64 b.k)∧HoldAt (w.alloc (.cells #[.int .i64 b.k,.int .i64 b.n] 32)) w.heap.size 1 (.int .i64 b.n)):=Hd ⟨at_ (hp_new rfl) 0 _ rfl,at_ (hp_new rfl) 1 _ rfl⟩
 go_enter Tryz.func113,Tryz.ntmps113
 go_wp2_with fail
 go_loopw [5,6] (fun s5 s6 wr => ∃ i:Nat,s6 = .int .i64 i∧i ≤ n∧ClO (w.heap.size + 1) wr s5 (List.replicate i ((⟨xr,xm,xh,x1,x2,x3,x4,x5⟩:Cl)))∧Below (w.heap.size + 1) (w.alloc (.cells #[.int .i64 b.k,.int .i64 b.n] 32)) wr) (fun _ s6 _ => n - (intOf s6).toNat)
 case atStart => exact ⟨0,rfl,Nat.zero_le _,World.ownsRow_nil _ _ _ _,by simpa using Below.refl (w.alloc (.cells #[.int .i64 b.k,.int .i64 b.n] 32)).heap.size _⟩
 case round =>
  obtain ⟨i,rfl,hi,hO,hB⟩:=hrel
  obtain ⟨bx,rfl⟩:∃ bx:Value × Unit,u5 = bx.1:=⟨(u5,()),rfl⟩
  have HO:=Hd hO
  have HB:=Hd hB
  have k0:=(hold (W:=w.alloc (.cells #[.int .i64 b.k,.int .i64 b.n] 32)) (by simpa using hB) HK.out.1).1
  have k1:=(hold (W:=w.alloc (.cells #[.int .i64 b.k,.int .i64 b.n] 32)) (by simpa using hB) HK.out.2).1
  clear hO hB
  by_cases hlt:i < n
  rotate_left
  · obtain rfl:i = n:=by omega
    go_wp2
    go_ret
    obtain ⟨g,cap,hv,hc⟩:=ClO.form HO.out (by simpa using hn0)
    exact ⟨g,cap,by rw [← hv];rfl,owns_weaken hc (by omega),below_tail HB0.out (by simpa using HB.out)⟩
  · have hltI:(i:Int) < (n:Int):=by omega
    have hk:(i:Int) < 1000:=by omega
    have HI:=Hd hi
    go_upto_region 5 with fail
    refine wp_region_lit ?_
    refine wpList_valG (bx.1) (by rfl) (by rfl) ?_
    simp only [Act.put,List.setIfInBounds_toArray,List.set_cons_zero,List.set_cons_succ]
    refine wpList_valG (.agg #[.int .i64 b.k,.int .i64 b.n]) (by rfl) (by go_simp) ?_
    simp only [Act.put,List.setIfInBounds_toArray,List.set_cons_zero,List.set_cons_succ]
    refine wpList_callG rfl 83 #[.agg #[.int .i64 b.k,.int .i64 b.n]] (by go_simp) (HBL.out _) (.agg #[.int .i32 xr,.string xm,.int .i64 xh,.int .i64 x1,.int .i64 x2,.int .i64 x3,.int .i64 x4,.int .i64 x5]) (fun e w' h => h.1) ?_
    rintro w3 ⟨-,hb⟩
    have HB3:=Hd hb
    clear hb k0 k1
    have HBX:=Hd (below_tail HB3.out (below_allocs (Below.refl w3.heap.size w3) (.cells #[.int .i32 xr,.string xm,.int .i64 xh,.int .i64 x1,.int .i64 x2,.int .i64 x3,.int .i64 x4,.int .i64 x5] 109)))
    have HO3:=Hd (ClO.below HO.out HBX.out)
    simp only [Act.put,List.setIfInBounds_toArray,List.set_cons_zero,List.set_cons_succ]
    refine wpList_actG (.slice (some ⟨w3.heap.size,0,none⟩) 1 1) (w3.alloc (.cells #[.int .i32 xr,.string xm,.int .i64 xh,.int .i64 x1,.int .i64 x2,.int .i64 x3,.int .i64 x4,.int .i64 x5] 109)) (by rfl) (by go_simp) ?_
    simp only [Act.put,List.setIfInBounds_toArray,List.set_cons_zero,List.set_cons_succ]
    refine wpList_append_g (o:=⟨some 20,_,_,_,_,_⟩) rfl (.tmp 16) (.tmp 19) 48 rfl (w.heap.size + 1) 109 j0 _ 8 72 Tryz.underlying48 hj gz0 gz1 gz2 rfl (by decide) bx.1 _ _ rfl HO3.out ⟨w3.heap.size,0,none⟩ 1 1 (encCl (⟨xr,xm,xh,x1,x2,x3,x4,x5⟩:Cl)) rfl rfl (fun j u hj => by rw [add_lit',Nat.zero_add];exact (at_ (hp_new rfl) j u (by simpa [encCl] using hj)).1) (encCl_one _) (by simp only [maxLen,List.length_replicate];omega) (by simp only [List.length_replicate];omega) (by have:=HB.out.size;have:=HB3.out.size;simp at *;omega) ?_
    intro v' w7 ho hg hv'
    have HO7:Hid (ClO (w.heap.size + 1) w7 v' (List.replicate (i + 1) (⟨xr,xm,xh,x1,x2,x3,x4,x5⟩:Cl))):=Hd (by unfold ClO;rw [List.replicate_succ',flat_append,List.length_append];exact ho)
    have HB7:=Hd ((show Below (w.heap.size + 1) (w.alloc (.cells #[.int .i64 b.k,.int .i64 b.n] 32)) _ from HB.out.trans (HBX.out.mono (by have:=HB.out.size;simpa using this))).grown hg (by have:=HB.out.size;have:=HB3.out.size;simp at *;omega) (fun b hb => (World.ownsRow.lt (show World.ownsRow _ _ _ _ _ _ _ from HO3.out) b hb).1))
    simp only [Act.put,List.setIfInBounds_toArray,List.set_cons_zero,List.set_cons_succ]
    clear ho hg hv'
    go_wp2
    go_roundw
    case rel => exact ⟨i + 1,by go_num,by omega,HO7.out,HB7.out⟩
    case measure => simp [intOf];omega
def insM (o:List Cl) (x n:Int) (b:Col):List Cl :=
 if x < 0 ∨ (o.length:Int) ≤ x ∨ n < 1 then o else (o.take x.toNat ++ List.replicate n.toNat (blankC b) ++ o.drop x.toNat).take o.length
theorem insM_len (o:List Cl) (x n:Int) (b:Col):(insM o x n b).length = o.length:=by
 unfold insM
 split
 · rfl
 · simp;omega
theorem insM_L (l:List Cl) (x n:Int) (b:Col):mendL (insM (mendL l) x n b) = insertL l x n b:=by
 unfold insM insertL
 split
 · rw [if_pos (by assumption)];exact mendL_idem l
 · rw [if_neg (by assumption)]
def insAt (o:List Cl) (x n:Int) (b:Col) (i:Nat):Option Cl :=
 if x < 0 ∨ (o.length:Int) ≤ x ∨ n < 1 ∨ (i:Int) < x then o[i]? else if (i:Int) - x < n then some (blankC b) else o[((i:Int) - n).toNat]?
theorem insM_at (o:List Cl) (x n:Int) (b:Col) (i:Nat) (hi:i < o.length):(insM o x n b)[i]? = insAt o x n b i:=by
 unfold insAt insM
 by_cases h:x < 0 ∨ (o.length:Int) ≤ x ∨ n < 1
 · rw [if_pos h,if_pos (by omega)]
 · rw [if_neg h,List.getElem?_take_of_lt hi]
   by_cases hx:(i:Int) < x
   · rw [if_pos (by omega),List.getElem?_append_left (by simp;omega),List.getElem?_append_left (by simp;omega),List.getElem?_take_of_lt (by omega)]
   · rw [if_neg (by omega)]
     by_cases hn:(i:Int) - x < n
     · rw [if_pos hn,List.getElem?_append_left (by simp;omega),List.getElem?_append_right (by simp;omega),List.getElem?_replicate,if_pos (by simp;omega)]
     · rw [if_neg hn,List.getElem?_append_right (by simp;omega),List.getElem?_drop]
       congr 1
       simp
       omega
def delM (o:List Cl) (x n:Int) (b:Col):List Cl :=
 if x < 0 ∨ (o.length:Int) ≤ x ∨ n < 1 then o else (o.take x.toNat ++ o.drop (x.toNat + n.toNat) ++ List.replicate n.toNat (blankC b)).take o.length
theorem delM_len (o:List Cl) (x n:Int) (b:Col):(delM o x n b).length = o.length:=by
 unfold delM
 split
 · rfl
 · simp;omega
theorem delM_L (l:List Cl) (x n:Int) (b:Col):mendL (delM (mendL l) x n b) = deleteL l x n b:=by
 unfold delM deleteL
 split
 · rw [if_pos (by assumption)];exact mendL_idem l
 · rw [if_neg (by assumption)]
set_option maxHeartbeats 3200000 in
theorem rInsert_any (A:Option Addr) (l:List Cl) (ca:Nat) (x n:Int) (b:Col) (w:World) (hl:GrAt encCl 8 w A l) (h0:0 < l.length) (hz:l.length ≤ 10000) :
 Calls Tryz.prog 37 #[.slice A l.length ca,.int .i64 x,.int .i64 n,.agg #[.int .i64 b.k,.int .i64 b.n]] w (WithPost (insertL l x n b) w):=by
 obtain ⟨j0,hj,gz0,gz1,gz2⟩:=info_parts info_cellz
 have hb0:=below_allocs (Below.refl w.heap.size w) (.cells #[.int .i64 b.k,.int .i64 b.n] 32)
 have HB0:=Hd hb0
 have HK:Hid (HoldAt (w.alloc (.cells #[.int .i64 b.k,.int .i64 b.n] 32)) w.heap.size 0 (.int .i64 b.k)∧HoldAt (w.alloc (.cells #[.int .i64 b.k,.int .i64 b.n] 32)) w.heap.size 1 (.int .i64 b.n)):=Hd ⟨at_ (hp_new rfl) 0 _ rfl,at_ (hp_new rfl) 1 _ rfl⟩
 have HM:=Hd (rMend_n A l l.length ca _ (hl.below hb0) rfl h0 hz)
 have HBL:=Hd (fun w => rBlank_any b w)
 have HM2:=Hd (fun (g cap base:Nat) (o:List Cl) (w':World) (h:CrO w' base g cap o) (hn:o.length = l.length) => rMend_n (some ⟨g,0,none⟩) o l.length cap w' h.gr hn h0 hz)
 clear hl hb0
 go_enter Tryz.func37,Tryz.ntmps37
 go_wp2_with (go_at_call 70;refine HM.out.mono ?_;rintro e w1 ⟨g,cap,rfl,hc,hb⟩;have HC:=Hd hc;have HB1:=Hd (below_tail HB0.out hb);have HK1:=Hd (show HoldAt w1 w.heap.size 0 (.int .i64 b.k)∧HoldAt w1 w.heap.size 1 (.int .i64 b.n) from ⟨hold hb HK.out.1,hold hb HK.out.2⟩);clear hc hb)
 go_loopw [10,11] (fun s10 s11 wr => ∃ (i:Nat) (P:List Cl),s11 = .int .i64 i∧i ≤ l.length∧P.length = i∧P = (insM (mendL l) x n b).take i∧ClO w1.heap.size wr s10 P∧Below w1.heap.size w1 wr) (fun _ s11 _ => l.length - (intOf s11).toNat)
 case atStart => exact ⟨0,[],rfl,Nat.zero_le _,rfl,rfl,World.ownsRow_nil _ _ _ _,Below.refl _ _⟩
 case round =>
  obtain ⟨i,P,rfl,hi,hP,hT,hO,hB⟩:=hrel
  obtain ⟨bx,rfl⟩:∃ bx:Value × Unit,u10 = bx.1:=⟨(u10,()),rfl⟩
  have HO:=Hd hO
  have HB:=Hd hB
  have HP:=Hd hP
  have HT:=Hd hT
  have k0:=(hold hB HK1.out.1).1
  have k1:=(hold hB HK1.out.2).1
  clear hO hB hP hT
  by_cases hlt:i < l.length
  rotate_left
  · have hge:¬ (i:Int) < (l.length:Int):=by omega
    have HPE:Hid (P = insM (mendL l) x n b):=Hd (by rw [HT.out,List.take_of_length_le (by rw [insM_len,mendL_len];omega)])
    obtain ⟨g2,cap2,hv,hc2⟩:=ClO.form HO.out (by rw [HP.out];omega)
    rw [show P.length = l.length by rw [HP.out];omega] at hv
    have HM3:=Hd (HM2.out _ _ _ _ _ hc2 (by rw [HP.out];omega))
    rw [hv]
    clear hc2
    go_wp2_with (go_at_call 70;refine HM3.out.mono ?_;rintro e w2 ⟨g',cap',rfl,hc,hb⟩;have HC2:=Hd hc;have HB2:=Hd hb;clear hc hb)
    go_ret
    have hO2:=HC2.out
    rw [HPE.out,insM_L] at hO2
    have hbb:=HB1.out.trans (HB.out.mono HB1.out.size)
    exact ⟨g',cap',by rw [show (insertL l x n b).length = l.length by rw [← insM_L,mendL_len,insM_len,mendL_len]];rfl,owns_weaken hO2 hbb.size,below_tail hbb HB2.out⟩
  · have hltI:(i:Int) < (l.length:Int):=by omega
    have HAT:=Hd (insM_at (mendL l) x n b i (by rw [mendL_len];exact hlt))
    have HNX:Hid (∀ c,(insM (mendL l) x n b)[i]? = some c→P ++ [c] = (insM (mendL l) x n b).take (i + 1)):=Hd (fun c hc => by rw [HT.out,List.take_add_one,hc];rfl)
    have HG:=Hd (fun (k:Nat) (c:Cl) (h:(mendL l)[k]? = some c) => range_below (HC.out.range h) HB.out)
    by_cases e1:x < 0
    · obtain ⟨c,hc⟩:∃ c,(mendL l)[i]? = some c:=⟨(mendL l)[i]'(by rw [mendL_len];omega),List.getElem?_eq_getElem _⟩
      obtain ⟨xr,xm,xh,x1,x2,x3,x4,x5⟩:=c
      have HRG:=Hd (HG.out i _ hc)
      have HNC:=Hd (HNX.out _ (by rw [HAT.out];unfold insAt;rw [if_pos (by rw [mendL_len];omega)];exact hc))
      clear hc
      go_upto_region 8 with fail
      refine wp_region_lit ?_
      refine wpList_valG (bx.1) (by rfl) (by rfl) ?_
      simp only [Act.put,List.setIfInBounds_toArray,List.set_cons_zero,List.set_cons_succ]
      refine wpList_valG (.slice (some ⟨g,0,none⟩) l.length cap) (by rfl) (by rfl) ?_
      simp only [Act.put,List.setIfInBounds_toArray,List.set_cons_zero,List.set_cons_succ]
      refine wpList_valG (.int .i64 (i:Int)) (by rfl) (by rfl) ?_
      simp only [Act.put,List.setIfInBounds_toArray,List.set_cons_zero,List.set_cons_succ]
      refine wpList_valG (.pointer (some ⟨g,i * 8,none⟩)) (by rfl) (by go_simp) ?_
      simp only [Act.put,List.setIfInBounds_toArray,List.set_cons_zero,List.set_cons_succ]
      refine load_mid_g (by rfl) 109 (.tmp 50) rfl (g) (i * 8) rfl (encCl (⟨xr,xm,xh,x1,x2,x3,x4,x5⟩:Cl)) _ (HRG.out) Tryz.underlying109 rfl info_cell ?_
      simp only [Act.put,List.setIfInBounds_toArray,List.set_cons_zero,List.set_cons_succ]
      simp only [encCl]
      have HBX:=Hd (below_allocs (Below.refl wr.heap.size wr) (.cells #[.int .i32 xr,.string xm,.int .i64 xh,.int .i64 x1,.int .i64 x2,.int .i64 x3,.int .i64 x4,.int .i64 x5] 109))
      have HO3:=Hd (ClO.below HO.out HBX.out)
      refine wpList_actG (.slice (some ⟨wr.heap.size,0,none⟩) 1 1) (wr.alloc (.cells #[.int .i32 xr,.string xm,.int .i64 xh,.int .i64 x1,.int .i64 x2,.int .i64 x3,.int .i64 x4,.int .i64 x5] 109)) (by rfl) (by go_simp) ?_
      simp only [Act.put,List.setIfInBounds_toArray,List.set_cons_zero,List.set_cons_succ]
      refine wpList_append_g rfl (.tmp 47) (.tmp 52) 48 rfl w1.heap.size 109 j0 _ 8 72 Tryz.underlying48 hj gz0 gz1 gz2 rfl (by decide) bx.1 _ _ rfl HO3.out ⟨wr.heap.size,0,none⟩ 1 1 (encCl (⟨xr,xm,xh,x1,x2,x3,x4,x5⟩:Cl)) rfl rfl (fun j u hj => by rw [add_lit',Nat.zero_add];exact (at_ (hp_new rfl) j u (by simpa [encCl] using hj)).1) (encCl_one _) (by simp only [maxLen];have:=HP.out;omega) (by have:=HP.out;omega) (by have:=HB.out.size;simp at *;omega) ?_
      intro v' w7 ho hg hv'
      have HO7:Hid (ClO w1.heap.size w7 v' (P ++ [(⟨xr,xm,xh,x1,x2,x3,x4,x5⟩:Cl)])):=Hd (by unfold ClO;rw [flat_append,List.length_append];exact ho)
      have HB7:=Hd ((show Below w1.heap.size w1 _ from HB.out.trans (HBX.out.mono HB.out.size)).grown hg (by have:=HB.out.size;simp at *;omega) (fun b hb => (World.ownsRow.lt (show World.ownsRow _ _ _ _ _ _ _ from HO3.out) b hb).1))
      simp only [Act.put,List.setIfInBounds_toArray,List.set_cons_zero,List.set_cons_succ]
      clear ho hg hv'
      go_wp2
      go_roundw
      case rel => exact ⟨i + 1,P ++ [(⟨xr,xm,xh,x1,x2,x3,x4,x5⟩:Cl)],by go_num,by omega,by rw [List.length_append,HP.out];rfl,HNC.out,HO7.out,HB7.out⟩
      case measure => simp [intOf];omega
    by_cases e2:(l.length:Int) ≤ x
    · obtain ⟨c,hc⟩:∃ c,(mendL l)[i]? = some c:=⟨(mendL l)[i]'(by rw [mendL_len];omega),List.getElem?_eq_getElem _⟩
      obtain ⟨xr,xm,xh,x1,x2,x3,x4,x5⟩:=c
      have HRG:=Hd (HG.out i _ hc)
      have HNC:=Hd (HNX.out _ (by rw [HAT.out];unfold insAt;rw [if_pos (by rw [mendL_len];omega)];exact hc))
      clear hc
      go_upto_region 8 with fail
      refine wp_region_lit ?_
      refine wpList_valG (bx.1) (by rfl) (by rfl) ?_
      simp only [Act.put,List.setIfInBounds_toArray,List.set_cons_zero,List.set_cons_succ]
      refine wpList_valG (.slice (some ⟨g,0,none⟩) l.length cap) (by rfl) (by rfl) ?_
      simp only [Act.put,List.setIfInBounds_toArray,List.set_cons_zero,List.set_cons_succ]
      refine wpList_valG (.int .i64 (i:Int)) (by rfl) (by rfl) ?_
      simp only [Act.put,List.setIfInBounds_toArray,List.set_cons_zero,List.set_cons_succ]
      refine wpList_valG (.pointer (some ⟨g,i * 8,none⟩)) (by rfl) (by go_simp) ?_
      simp only [Act.put,List.setIfInBounds_toArray,List.set_cons_zero,List.set_cons_succ]
      refine load_mid_g (by rfl) 109 (.tmp 50) rfl (g) (i * 8) rfl (encCl (⟨xr,xm,xh,x1,x2,x3,x4,x5⟩:Cl)) _ (HRG.out) Tryz.underlying109 rfl info_cell ?_
      simp only [Act.put,List.setIfInBounds_toArray,List.set_cons_zero,List.set_cons_succ]
      simp only [encCl]
      have HBX:=Hd (below_allocs (Below.refl wr.heap.size wr) (.cells #[.int .i32 xr,.string xm,.int .i64 xh,.int .i64 x1,.int .i64 x2,.int .i64 x3,.int .i64 x4,.int .i64 x5] 109))
      have HO3:=Hd (ClO.below HO.out HBX.out)
      refine wpList_actG (.slice (some ⟨wr.heap.size,0,none⟩) 1 1) (wr.alloc (.cells #[.int .i32 xr,.string xm,.int .i64 xh,.int .i64 x1,.int .i64 x2,.int .i64 x3,.int .i64 x4,.int .i64 x5] 109)) (by rfl) (by go_simp) ?_
      simp only [Act.put,List.setIfInBounds_toArray,List.set_cons_zero,List.set_cons_succ]
      refine wpList_append_g rfl (.tmp 47) (.tmp 52) 48 rfl w1.heap.size 109 j0 _ 8 72 Tryz.underlying48 hj gz0 gz1 gz2 rfl (by decide) bx.1 _ _ rfl HO3.out ⟨wr.heap.size,0,none⟩ 1 1 (encCl (⟨xr,xm,xh,x1,x2,x3,x4,x5⟩:Cl)) rfl rfl (fun j u hj => by rw [add_lit',Nat.zero_add];exact (at_ (hp_new rfl) j u (by simpa [encCl] using hj)).1) (encCl_one _) (by simp only [maxLen];have:=HP.out;omega) (by have:=HP.out;omega) (by have:=HB.out.size;simp at *;omega) ?_
      intro v' w7 ho hg hv'
      have HO7:Hid (ClO w1.heap.size w7 v' (P ++ [(⟨xr,xm,xh,x1,x2,x3,x4,x5⟩:Cl)])):=Hd (by unfold ClO;rw [flat_append,List.length_append];exact ho)
      have HB7:=Hd ((show Below w1.heap.size w1 _ from HB.out.trans (HBX.out.mono HB.out.size)).grown hg (by have:=HB.out.size;simp at *;omega) (fun b hb => (World.ownsRow.lt (show World.ownsRow _ _ _ _ _ _ _ from HO3.out) b hb).1))
      simp only [Act.put,List.setIfInBounds_toArray,List.set_cons_zero,List.set_cons_succ]
      clear ho hg hv'
      go_wp2
      go_roundw
      case rel => exact ⟨i + 1,P ++ [(⟨xr,xm,xh,x1,x2,x3,x4,x5⟩:Cl)],by go_num,by omega,by rw [List.length_append,HP.out];rfl,HNC.out,HO7.out,HB7.out⟩
      case measure => simp [intOf];omega
    by_cases e3:n < 1
    · obtain ⟨c,hc⟩:∃ c,(mendL l)[i]? = some c:=⟨(mendL l)[i]'(by rw [mendL_len];omega),List.getElem?_eq_getElem _⟩
      obtain ⟨xr,xm,xh,x1,x2,x3,x4,x5⟩:=c
      have HRG:=Hd (HG.out i _ hc)
      have HNC:=Hd (HNX.out _ (by rw [HAT.out];unfold insAt;rw [if_pos (by rw [mendL_len];omega)];exact hc))
      clear hc
      go_upto_region 8 with fail
      refine wp_region_lit ?_
      refine wpList_valG (bx.1) (by rfl) (by rfl) ?_
      simp only [Act.put,List.setIfInBounds_toArray,List.set_cons_zero,List.set_cons_succ]
      refine wpList_valG (.slice (some ⟨g,0,none⟩) l.length cap) (by rfl) (by rfl) ?_
      simp only [Act.put,List.setIfInBounds_toArray,List.set_cons_zero,List.set_cons_succ]
      refine wpList_valG (.int .i64 (i:Int)) (by rfl) (by rfl) ?_
      simp only [Act.put,List.setIfInBounds_toArray,List.set_cons_zero,List.set_cons_succ]
      refine wpList_valG (.pointer (some ⟨g,i * 8,none⟩)) (by rfl) (by go_simp) ?_
      simp only [Act.put,List.setIfInBounds_toArray,List.set_cons_zero,List.set_cons_succ]
      refine load_mid_g (by rfl) 109 (.tmp 50) rfl (g) (i * 8) rfl (encCl (⟨xr,xm,xh,x1,x2,x3,x4,x5⟩:Cl)) _ (HRG.out) Tryz.underlying109 rfl info_cell ?_
      simp only [Act.put,List.setIfInBounds_toArray,List.set_cons_zero,List.set_cons_succ]
      simp only [encCl]
      have HBX:=Hd (below_allocs (Below.refl wr.heap.size wr) (.cells #[.int .i32 xr,.string xm,.int .i64 xh,.int .i64 x1,.int .i64 x2,.int .i64 x3,.int .i64 x4,.int .i64 x5] 109))
      have HO3:=Hd (ClO.below HO.out HBX.out)
      refine wpList_actG (.slice (some ⟨wr.heap.size,0,none⟩) 1 1) (wr.alloc (.cells #[.int .i32 xr,.string xm,.int .i64 xh,.int .i64 x1,.int .i64 x2,.int .i64 x3,.int .i64 x4,.int .i64 x5] 109)) (by rfl) (by go_simp) ?_
      simp only [Act.put,List.setIfInBounds_toArray,List.set_cons_zero,List.set_cons_succ]
      refine wpList_append_g rfl (.tmp 47) (.tmp 52) 48 rfl w1.heap.size 109 j0 _ 8 72 Tryz.underlying48 hj gz0 gz1 gz2 rfl (by decide) bx.1 _ _ rfl HO3.out ⟨wr.heap.size,0,none⟩ 1 1 (encCl (⟨xr,xm,xh,x1,x2,x3,x4,x5⟩:Cl)) rfl rfl (fun j u hj => by rw [add_lit',Nat.zero_add];exact (at_ (hp_new rfl) j u (by simpa [encCl] using hj)).1) (encCl_one _) (by simp only [maxLen];have:=HP.out;omega) (by have:=HP.out;omega) (by have:=HB.out.size;simp at *;omega) ?_
      intro v' w7 ho hg hv'
      have HO7:Hid (ClO w1.heap.size w7 v' (P ++ [(⟨xr,xm,xh,x1,x2,x3,x4,x5⟩:Cl)])):=Hd (by unfold ClO;rw [flat_append,List.length_append];exact ho)
      have HB7:=Hd ((show Below w1.heap.size w1 _ from HB.out.trans (HBX.out.mono HB.out.size)).grown hg (by have:=HB.out.size;simp at *;omega) (fun b hb => (World.ownsRow.lt (show World.ownsRow _ _ _ _ _ _ _ from HO3.out) b hb).1))
      simp only [Act.put,List.setIfInBounds_toArray,List.set_cons_zero,List.set_cons_succ]
      clear ho hg hv'
      go_wp2
      go_roundw
      case rel => exact ⟨i + 1,P ++ [(⟨xr,xm,xh,x1,x2,x3,x4,x5⟩:Cl)],by go_num,by omega,by rw [List.length_append,HP.out];rfl,HNC.out,HO7.out,HB7.out⟩
      case measure => simp [intOf];omega
    by_cases e4:(i:Int) < x
    · obtain ⟨c,hc⟩:∃ c,(mendL l)[i]? = some c:=⟨(mendL l)[i]'(by rw [mendL_len];omega),List.getElem?_eq_getElem _⟩
      obtain ⟨xr,xm,xh,x1,x2,x3,x4,x5⟩:=c
      have HRG:=Hd (HG.out i _ hc)
      have HNC:=Hd (HNX.out _ (by rw [HAT.out];unfold insAt;rw [if_pos (by rw [mendL_len];omega)];exact hc))
      clear hc
      go_upto_region 8 with fail
      refine wp_region_lit ?_
      refine wpList_valG (bx.1) (by rfl) (by rfl) ?_
      simp only [Act.put,List.setIfInBounds_toArray,List.set_cons_zero,List.set_cons_succ]
      refine wpList_valG (.slice (some ⟨g,0,none⟩) l.length cap) (by rfl) (by rfl) ?_
      simp only [Act.put,List.setIfInBounds_toArray,List.set_cons_zero,List.set_cons_succ]
      refine wpList_valG (.int .i64 (i:Int)) (by rfl) (by rfl) ?_
      simp only [Act.put,List.setIfInBounds_toArray,List.set_cons_zero,List.set_cons_succ]
      refine wpList_valG (.pointer (some ⟨g,i * 8,none⟩)) (by rfl) (by go_simp) ?_
      simp only [Act.put,List.setIfInBounds_toArray,List.set_cons_zero,List.set_cons_succ]
      refine load_mid_g (by rfl) 109 (.tmp 50) rfl (g) (i * 8) rfl (encCl (⟨xr,xm,xh,x1,x2,x3,x4,x5⟩:Cl)) _ (HRG.out) Tryz.underlying109 rfl info_cell ?_
      simp only [Act.put,List.setIfInBounds_toArray,List.set_cons_zero,List.set_cons_succ]
      simp only [encCl]
      have HBX:=Hd (below_allocs (Below.refl wr.heap.size wr) (.cells #[.int .i32 xr,.string xm,.int .i64 xh,.int .i64 x1,.int .i64 x2,.int .i64 x3,.int .i64 x4,.int .i64 x5] 109))
      have HO3:=Hd (ClO.below HO.out HBX.out)
      refine wpList_actG (.slice (some ⟨wr.heap.size,0,none⟩) 1 1) (wr.alloc (.cells #[.int .i32 xr,.string xm,.int .i64 xh,.int .i64 x1,.int .i64 x2,.int .i64 x3,.int .i64 x4,.int .i64 x5] 109)) (by rfl) (by go_simp) ?_
      simp only [Act.put,List.setIfInBounds_toArray,List.set_cons_zero,List.set_cons_succ]
      refine wpList_append_g rfl (.tmp 47) (.tmp 52) 48 rfl w1.heap.size 109 j0 _ 8 72 Tryz.underlying48 hj gz0 gz1 gz2 rfl (by decide) bx.1 _ _ rfl HO3.out ⟨wr.heap.size,0,none⟩ 1 1 (encCl (⟨xr,xm,xh,x1,x2,x3,x4,x5⟩:Cl)) rfl rfl (fun j u hj => by rw [add_lit',Nat.zero_add];exact (at_ (hp_new rfl) j u (by simpa [encCl] using hj)).1) (encCl_one _) (by simp only [maxLen];have:=HP.out;omega) (by have:=HP.out;omega) (by have:=HB.out.size;simp at *;omega) ?_
      intro v' w7 ho hg hv'
      have HO7:Hid (ClO w1.heap.size w7 v' (P ++ [(⟨xr,xm,xh,x1,x2,x3,x4,x5⟩:Cl)])):=Hd (by unfold ClO;rw [flat_append,List.length_append];exact ho)
      have HB7:=Hd ((show Below w1.heap.size w1 _ from HB.out.trans (HBX.out.mono HB.out.size)).grown hg (by have:=HB.out.size;simp at *;omega) (fun b hb => (World.ownsRow.lt (show World.ownsRow _ _ _ _ _ _ _ from HO3.out) b hb).1))
      simp only [Act.put,List.setIfInBounds_toArray,List.set_cons_zero,List.set_cons_succ]
      clear ho hg hv'
      go_wp2
      go_roundw
      case rel => exact ⟨i + 1,P ++ [(⟨xr,xm,xh,x1,x2,x3,x4,x5⟩:Cl)],by go_num,by omega,by rw [List.length_append,HP.out];rfl,HNC.out,HO7.out,HB7.out⟩
      case measure => simp [intOf];omega
    have hwx:IntKind.i64.wrap ((i:Int) - x) = (i:Int) - x:=IntWalk.i64_in _ (by omega)
    by_cases e5:(i:Int) - x < n
    · have HNC0:=Hd (HNX.out (blankC b) (by rw [HAT.out];unfold insAt;rw [if_neg (by rw [mendL_len];omega),if_pos (by omega)]))
      obtain ⟨X,hX⟩:∃ X,blankC b = X:=⟨_,rfl⟩
      rw [hX] at HBL HNC0
      clear hX
      obtain ⟨xr,xm,xh,x1,x2,x3,x4,x5⟩:=X
      have HNC:=HNC0
      go_upto_region 10 with fail
      refine wp_region_lit ?_
      refine wpList_valG (bx.1) (by rfl) (by rfl) ?_
      simp only [Act.put,List.setIfInBounds_toArray,List.set_cons_zero,List.set_cons_succ]
      refine wpList_valG (.agg #[.int .i64 b.k,.int .i64 b.n]) (by rfl) (by go_simp) ?_
      simp only [Act.put,List.setIfInBounds_toArray,List.set_cons_zero,List.set_cons_succ]
      refine wpList_callG rfl 83 #[.agg #[.int .i64 b.k,.int .i64 b.n]] (by go_simp) (HBL.out _) (.agg #[.int .i32 xr,.string xm,.int .i64 xh,.int .i64 x1,.int .i64 x2,.int .i64 x3,.int .i64 x4,.int .i64 x5]) (fun e w' h => h.1) ?_
      rintro w3 ⟨-,hb⟩
      have HO2:=Hd (ClO.below HO.out hb)
      have HB3:=Hd (HB.out.trans (hb.mono HB.out.size))
      clear hb k0 k1
      simp only [Act.put,List.setIfInBounds_toArray,List.set_cons_zero,List.set_cons_succ]
      have HBX:=Hd (below_allocs (Below.refl w3.heap.size w3) (.cells #[.int .i32 xr,.string xm,.int .i64 xh,.int .i64 x1,.int .i64 x2,.int .i64 x3,.int .i64 x4,.int .i64 x5] 109))
      have HO3:=Hd (ClO.below HO2.out HBX.out)
      refine wpList_actG (.slice (some ⟨w3.heap.size,0,none⟩) 1 1) (w3.alloc (.cells #[.int .i32 xr,.string xm,.int .i64 xh,.int .i64 x1,.int .i64 x2,.int .i64 x3,.int .i64 x4,.int .i64 x5] 109)) (by rfl) (by go_simp) ?_
      simp only [Act.put,List.setIfInBounds_toArray,List.set_cons_zero,List.set_cons_succ]
      refine wpList_append_g rfl (.tmp 60) (.tmp 63) 48 rfl w1.heap.size 109 j0 _ 8 72 Tryz.underlying48 hj gz0 gz1 gz2 rfl (by decide) bx.1 _ _ rfl HO3.out ⟨w3.heap.size,0,none⟩ 1 1 (encCl (⟨xr,xm,xh,x1,x2,x3,x4,x5⟩:Cl)) rfl rfl (fun j u hj => by rw [add_lit',Nat.zero_add];exact (at_ (hp_new rfl) j u (by simpa [encCl] using hj)).1) (encCl_one _) (by simp only [maxLen];have:=HP.out;omega) (by have:=HP.out;omega) (by have:=HB3.out.size;simp at *;omega) ?_
      intro v' w7 ho hg hv'
      have HO7:Hid (ClO w1.heap.size w7 v' (P ++ [(⟨xr,xm,xh,x1,x2,x3,x4,x5⟩:Cl)])):=Hd (by unfold ClO;rw [flat_append,List.length_append];exact ho)
      have HB7:=Hd ((show Below w1.heap.size w1 _ from HB3.out.trans (HBX.out.mono HB3.out.size)).grown hg (by have:=HB3.out.size;simp at *;omega) (fun b hb => (World.ownsRow.lt (show World.ownsRow _ _ _ _ _ _ _ from HO3.out) b hb).1))
      simp only [Act.put,List.setIfInBounds_toArray,List.set_cons_zero,List.set_cons_succ]
      clear ho hg hv'
      go_wp2
      go_roundw
      case rel => exact ⟨i + 1,P ++ [(⟨xr,xm,xh,x1,x2,x3,x4,x5⟩:Cl)],by go_num,by omega,by rw [List.length_append,HP.out];rfl,HNC.out,HO7.out,HB7.out⟩
      case measure => simp [intOf];omega
    · skip
      obtain ⟨k,hk⟩:∃ k:Nat,(i:Int) - n = (k:Int):=⟨((i:Int) - n).toNat,by omega⟩
      have hwk:IntKind.i64.wrap (k:Int) = (k:Int):=IntWalk.i64_in _ (by omega)
      have hkl:k < l.length:=by omega
      have hklI:(k:Int) < (l.length:Int):=by omega
      obtain ⟨c,hc⟩:∃ c,(mendL l)[k]? = some c:=⟨(mendL l)[k]'(by rw [mendL_len];omega),List.getElem?_eq_getElem _⟩
      obtain ⟨xr,xm,xh,x1,x2,x3,x4,x5⟩:=c
      have HRG:=Hd (HG.out k _ hc)
      have HNC:=Hd (HNX.out _ (by rw [HAT.out];unfold insAt;rw [if_neg (by rw [mendL_len];omega),if_neg (by omega),hk];exact hc))
      clear hc
      go_upto_region 6 with fail
      refine wp_region_lit ?_
      refine wpList_valG (bx.1) (by rfl) (by rfl) ?_
      simp only [Act.put,List.setIfInBounds_toArray,List.set_cons_zero,List.set_cons_succ]
      refine wpList_valG (.slice (some ⟨g,0,none⟩) l.length cap) (by rfl) (by rfl) ?_
      simp only [Act.put,List.setIfInBounds_toArray,List.set_cons_zero,List.set_cons_succ]
      refine wpList_valG (.int .i64 (i:Int)) (by rfl) (by rfl) ?_
      simp only [Act.put,List.setIfInBounds_toArray,List.set_cons_zero,List.set_cons_succ]
      refine wpList_valG (.int .i64 n) (by rfl) (by rfl) ?_
      simp only [Act.put,List.setIfInBounds_toArray,List.set_cons_zero,List.set_cons_succ]
      refine wpList_valG (.int .i64 (k:Int)) (by rfl) (by go_simp) ?_
      simp only [Act.put,List.setIfInBounds_toArray,List.set_cons_zero,List.set_cons_succ]
      refine wpList_valG (.pointer (some ⟨g,k * 8,none⟩)) (by rfl) (by go_simp) ?_
      simp only [Act.put,List.setIfInBounds_toArray,List.set_cons_zero,List.set_cons_succ]
      refine load_mid_g (by rfl) 109 (.tmp 25) rfl (g) (k * 8) rfl (encCl (⟨xr,xm,xh,x1,x2,x3,x4,x5⟩:Cl)) _ (HRG.out) Tryz.underlying109 rfl info_cell ?_
      simp only [Act.put,List.setIfInBounds_toArray,List.set_cons_zero,List.set_cons_succ]
      simp only [encCl]
      have HBX:=Hd (below_allocs (Below.refl wr.heap.size wr) (.cells #[.int .i32 xr,.string xm,.int .i64 xh,.int .i64 x1,.int .i64 x2,.int .i64 x3,.int .i64 x4,.int .i64 x5] 109))
      have HO3:=Hd (ClO.below HO.out HBX.out)
      refine wpList_actG (.slice (some ⟨wr.heap.size,0,none⟩) 1 1) (wr.alloc (.cells #[.int .i32 xr,.string xm,.int .i64 xh,.int .i64 x1,.int .i64 x2,.int .i64 x3,.int .i64 x4,.int .i64 x5] 109)) (by rfl) (by go_simp) ?_
      simp only [Act.put,List.setIfInBounds_toArray,List.set_cons_zero,List.set_cons_succ]
      refine wpList_append_g rfl (.tmp 20) (.tmp 27) 48 rfl w1.heap.size 109 j0 _ 8 72 Tryz.underlying48 hj gz0 gz1 gz2 rfl (by decide) bx.1 _ _ rfl HO3.out ⟨wr.heap.size,0,none⟩ 1 1 (encCl (⟨xr,xm,xh,x1,x2,x3,x4,x5⟩:Cl)) rfl rfl (fun j u hj => by rw [add_lit',Nat.zero_add];exact (at_ (hp_new rfl) j u (by simpa [encCl] using hj)).1) (encCl_one _) (by simp only [maxLen];have:=HP.out;omega) (by have:=HP.out;omega) (by have:=HB.out.size;simp at *;omega) ?_
      intro v' w7 ho hg hv'
      have HO7:Hid (ClO w1.heap.size w7 v' (P ++ [(⟨xr,xm,xh,x1,x2,x3,x4,x5⟩:Cl)])):=Hd (by unfold ClO;rw [flat_append,List.length_append];exact ho)
      have HB7:=Hd ((show Below w1.heap.size w1 _ from HB.out.trans (HBX.out.mono HB.out.size)).grown hg (by have:=HB.out.size;simp at *;omega) (fun b hb => (World.ownsRow.lt (show World.ownsRow _ _ _ _ _ _ _ from HO3.out) b hb).1))
      simp only [Act.put,List.setIfInBounds_toArray,List.set_cons_zero,List.set_cons_succ]
      clear ho hg hv'
      go_wp2
      go_roundw
      case rel => exact ⟨i + 1,P ++ [(⟨xr,xm,xh,x1,x2,x3,x4,x5⟩:Cl)],by go_num,by omega,by rw [List.length_append,HP.out];rfl,HNC.out,HO7.out,HB7.out⟩
      case measure => simp [intOf];omega
def delP (o:List Cl) (x n:Int) (i:Nat):List Cl :=
 if x < 0 ∨ (o.length:Int) ≤ x ∨ n < 1 then o.take i else o.take (min i x.toNat) ++ (o.take i).drop (x.toNat + n.toNat)
theorem delP_zero (o:List Cl) (x n:Int):delP o x n 0 = []:=by unfold delP;split <;> simp
theorem delP_in {o:List Cl} {x n:Int} {i:Nat} {c:Cl} (hc:o[i]? = some c) (h:x < 0 ∨ (o.length:Int) ≤ x ∨ n < 1 ∨ (i:Int) < x ∨ n ≤ (i:Int) - x):delP o x n (i + 1) = delP o x n i ++ [c]:=by
 have hi:=(List.getElem?_eq_some_iff.1 hc).1
 unfold delP
 split
 · rw [List.take_add_one,hc];rfl
 · by_cases hx:(i:Int) < x
   · rw [List.drop_eq_nil_of_le (by simp;omega),List.drop_eq_nil_of_le (by simp;omega),List.append_nil,List.append_nil,show min (i + 1) x.toNat = i + 1 by omega,show min i x.toNat = i by omega,List.take_add_one,hc];rfl
   · rw [show min (i + 1) x.toNat = x.toNat by omega,show min i x.toNat = x.toNat by omega,List.take_add_one,hc,List.drop_append_of_le_length (by simp;omega),List.append_assoc];rfl
theorem delP_out {o:List Cl} {x n:Int} {i:Nat} (h:¬ (x < 0 ∨ (o.length:Int) ≤ x ∨ n < 1 ∨ (i:Int) < x ∨ n ≤ (i:Int) - x)):delP o x n (i + 1) = delP o x n i:=by
 unfold delP
 rw [if_neg (by omega),if_neg (by omega),show min (i + 1) x.toNat = min i x.toNat by omega,List.drop_eq_nil_of_le (by simp;omega),List.drop_eq_nil_of_le (by simp;omega)]
theorem delP_le (o:List Cl) (x n:Int) (i:Nat):(delP o x n i).length ≤ i:=by
 unfold delP
 split
 · simp;omega
 · simp;omega
theorem delP_end {o:List Cl} {x n:Int} {j:Nat} {b:Col} (h:(delP o x n o.length).length + j = o.length):delP o x n o.length ++ List.replicate j (blankC b) = delM o x n b:=by
 unfold delP delM at *
 split at h
 · next hh =>
   rw [if_pos hh,if_pos hh]
   have:j = 0:=by simp at h;omega
   subst this
   simp
 · next hh =>
   rw [if_neg hh,if_neg hh,List.take_length,show min o.length x.toNat = x.toNat by omega]
   rw [List.take_length,show min o.length x.toNat = x.toNat by omega] at h
   have hl:=h
   simp only [List.length_append,List.length_take,List.length_drop] at hl
   have hjn:j ≤ n.toNat:=by omega
   clear hl
   generalize o.take x.toNat ++ o.drop (x.toNat + n.toNat) = Q at *
   rw [List.take_append,List.take_of_length_le (by omega),List.take_replicate,show min (o.length - Q.length) n.toNat = j by omega]
end Go.Proofs.YtffdblmdelgkaaaGreat
