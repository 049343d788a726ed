/- Joined by a tool of this claim out of smaller texts. Conditions: as stated. -/
import Derived.Test.YtaefcahblmopfaaGreatDoorDp28
import Derived.Deep.LoopGhost
import Derived.Deep.QuietTactic
import Derived.BigQuiet
import Derived.Shelf.Strconv.Itoa3
import Derived.Ground.NamesProg
import Derived.Test.YtaefcahblmopfaaGreatDoorProg
import Derived.Lib.Builder
import Derived.Lib.AppendStr
import Derived.Lib.UnsafeStr
import Derived.Lib.FrozenHead
import Derived.Shelf.RegionOpenPlain
import Derived.Deep.DeepCutAuto
import Derived.Lib.ItoaNum
import Derived.Lib.AppendIntMem
import Derived.Lib.LaidTab
import Derived.Shelf.Strings.OnBuilder
import Derived.Shelf.Strings.Trim
set_option linter.unusedVariables false
set_option linter.unusedSimpArgs false
set_option maxRecDepth 100000
open Go.Lib renaming hid → Hd
namespace Go.Proofs.YtaefcahblmopfaaGreatDoor
open Go.RowKit Go.ChangeShapes Go.WideShapes Go.Deep
theorem co_cell:Tryz.prog.cellsOf 65 = 8:=by kernel_rfl
theorem co_attr:Tryz.prog.cellsOf 63 = 5:=by kernel_rfl
theorem co_color:Tryz.prog.cellsOf 61 = 2:=by kernel_rfl
theorem co_int:Tryz.prog.cellsOf 3 = 1:=by kernel_rfl
theorem co_int32:Tryz.prog.cellsOf 21 = 1:=by kernel_rfl
theorem co_string:Tryz.prog.cellsOf 9 = 1:=by kernel_rfl
def clList (c:Cl):List Value:=[.int .i32 c.r,.string c.more,.int .i64 c.half,.int .i64 c.fk,.int .i64 c.fn,.int .i64 c.bk,.int .i64 c.bn,.int .i64 c.fl]
section
variable {H:Type} {enc:TypeId × Value→H} {w:World} {base:Nat} {spare:Nat→Bool} {held:Bool}
theorem int_of_trod {n:Nat} {v:Value} {x:DataW H × List MemPlace} (h:DataW.trod enc Tryz.prog w base spare held n 3 [v] = some x):∃ z:Int,v = .int .i64 z:=by
 obtain ⟨z,e,-,-⟩:=DataW.trod_int Tryz.underlying3 h
 exact ⟨z,by simpa using e⟩
theorem color_of_trod {n:Nat} {v0 v1:Value} {x:DataW H × List MemPlace} (h:DataW.trod enc Tryz.prog w base spare held n 61 [v0,v1] = some x):∃ z y:Int,v0 = .int .i64 z∧v1 = .int .i64 y:=by
 obtain ⟨xs,m,_,_,_,hlen,hf⟩:=DataW.trod_struct Tryz.underlying61 h
 match xs,hlen with
 | [y0,y1],_ =>
   have h0:=hf 0 _ rfl
   have h1:=hf 1 _ rfl
   simp [co_int] at h0 h1
   obtain ⟨z,rfl⟩:=int_of_trod h0
   obtain ⟨y,rfl⟩:=int_of_trod h1
   exact ⟨z,y,rfl,rfl⟩
theorem attr_of_trod {n:Nat} {v0 v1 v2 v3 v4:Value} {x:DataW H × List MemPlace} (h:DataW.trod enc Tryz.prog w base spare held n 63 [v0,v1,v2,v3,v4] = some x):∃ a b c d e:Int,v0 = .int .i64 a∧v1 = .int .i64 b∧v2 = .int .i64 c∧v3 = .int .i64 d∧v4 = .int .i64 e:=by
 obtain ⟨xs,m,_,_,_,hlen,hf⟩:=DataW.trod_struct Tryz.underlying63 h
 match xs,hlen with
 | [y0,y1,y2],_ =>
   have h0:=hf 0 _ rfl
   have h1:=hf 1 _ rfl
   have h2:=hf 2 _ rfl
   simp [co_int,co_color] at h0 h1 h2
   obtain ⟨a,b,rfl,rfl⟩:=color_of_trod h0
   obtain ⟨c,d,rfl,rfl⟩:=color_of_trod h1
   obtain ⟨e,rfl⟩:=int_of_trod h2
   exact ⟨a,b,c,d,e,rfl,rfl,rfl,rfl,rfl⟩
theorem cell_of_trod {n:Nat} {cs:List Value} {x:DataW H × List MemPlace} (h:DataW.trod enc Tryz.prog w base spare held n 65 cs = some x):∃ c:Cl,cs = clList c:=by
 obtain ⟨xs,m,_,_,hl,hlen,hf⟩:=DataW.trod_struct Tryz.underlying65 h
 rw [co_cell] at hl
 match cs,hl with
 | [v0,v1,v2,v3,v4,v5,v6,v7],_ =>
   match xs,hlen with
   | [y0,y1,y2,y3],_ =>
     have h0:=hf 0 _ rfl
     have h1:=hf 1 _ rfl
     have h2:=hf 2 _ rfl
     have h3:=hf 3 _ rfl
     simp [co_int,co_int32,co_string,co_attr] at h0 h1 h2 h3
     obtain ⟨z,e0,-,-⟩:=DataW.trod_int Tryz.underlying21 h0
     obtain ⟨s,e1,-,-⟩:=DataW.trod_string Tryz.underlying9 h1
     obtain ⟨hh,rfl⟩:=int_of_trod h2
     obtain ⟨a,b,c,d,e,rfl,rfl,rfl,rfl,rfl⟩:=attr_of_trod h3
     simp at e0 e1
     subst e0 e1
     exact ⟨⟨z,s,hh,a,b,c,d,e⟩,rfl⟩
end
structure Rw where
 A:Option Addr
 cs:List Cl
 cap:Nat
 cont:Bool
def RwAt (w:World) (b o:Nat) (r:Rw):Prop:=(w.cell? ⟨b,o,none⟩ = some (.slice r.A r.cs.length r.cap)∧w.cell? ⟨b,o + 1,none⟩ = some (.bool r.cont))∧ClsAt w r.A r.cs∧r.cs.length ≤ 9223372036854775807
theorem RwAt.below {w w1:World} {b o:Nat} {r:Rw} (h:RwAt w b o r) (hb:Below w.heap.size w w1):RwAt w1 b o r :=
 ⟨⟨holda hb h.1.1,holda hb h.1.2⟩,h.2.1.below hb,h.2.2⟩
def RwsAt (w:World) (A:Option Addr) (l:List Rw):Prop:=0 < l.length→∃ b off,A = some ⟨b,off,none⟩∧∀ i r,l[i]? = some r→RwAt w b (off + i * 2) r
theorem RwsAt.below {w w1:World} {A:Option Addr} {l:List Rw} (h:RwsAt w A l) (hb:Below w.heap.size w w1):RwsAt w1 A l:=fun hl => by
 obtain ⟨b,off,e,hc⟩:=h hl
 exact ⟨b,off,e,fun i s hs => (hc i s hs).below hb⟩
theorem RwsAt.at_ {w:World} {A:Option Addr} {l:List Rw} (h:RwsAt w A l) {k:Nat} (hk:k < l.length):∃ b off r,A = some ⟨b,off,none⟩∧l[k]? = some r∧RwAt w b (off + k * 2) r:=by
 obtain ⟨b,off,hA,hc⟩:=h (by omega)
 exact ⟨b,off,l[k],hA,List.getElem?_eq_getElem hk,hc k _ (List.getElem?_eq_getElem hk)⟩
theorem co_row:Tryz.prog.cellsOf 52 = 2:=by kernel_rfl
theorem co_bool:Tryz.prog.cellsOf 4 = 1:=by kernel_rfl
theorem co_cells:Tryz.prog.cellsOf 50 = 1:=by kernel_rfl
section
variable {H:Type} {enc:TypeId × Value→H} {w:World} {base:Nat} {spare:Nat→Bool} {held:Bool}
end
open Go.RowKit
def RowsOk (l:List Rw) (cols:Nat):Prop:=0 < l.length∧l.length ≤ 400∧2 ≤ cols∧cols ≤ 1000∧∀ r ∈ l,r.cs.length = cols∧mendL r.cs = r.cs∧∀ c ∈ r.cs,DrawOk c
theorem dsize_any (A:Option Addr) (l:List Rw) (ca cols:Nat) (w:World) (hl:RwsAt w A l) (hok:RowsOk l cols) :
 Calls Tryz.prog 23 #[.slice A l.length ca] w fun e w' => e = .returned (.tuple #[.int .i64 l.length,.int .i64 cols])∧Below w.heap.size w w':=by
 obtain ⟨h0,h1,h2,h3,h4⟩:=hok
 obtain ⟨b,off,rfl,hr⟩:=hl h0
 obtain ⟨⟨c0,-⟩,-,-⟩:=hr 0 _ (List.getElem?_eq_getElem h0)
 rw [(h4 _ (List.getElem_mem h0)).1,Nat.zero_mul,Nat.add_zero] at c0
 clear hr hl h4
 generalize l[0] = r at c0
 obtain ⟨B,_,cap,_⟩:=r
 simp only at c0
 go_enter Tryz.func23,Tryz.ntmps23
 go_upto_region 3 with fail
 refine wp_region_u 8 (fun w' => Below w.heap.size w w'∧w'.cell? ⟨b,off,none⟩ = some (.slice B cols cap)) (by kernel_rfl) (by kernel_rfl) ?_ ?_
 · exact ⟨(Below.refl _ _).drew,c0⟩
 simp only [List.take_succ_cons,List.take_zero,List.drop_succ_cons,List.drop_zero]
 repeat (
  (first
   | refine seqU_skip (by rfl) ?_
   | (refine seqU_val ?_ (by rfl) ?_ ?_;rotate_left;(focus (intro w' hS;obtain ⟨_,_⟩:=hS;go_simp;first | done | with_reducible rfl))))
  simp only [Act.put,List.setIfInBounds_toArray,List.set_cons_zero,List.set_cons_succ])
 refine seqU_nil (fun w' hS => ?_)
 obtain ⟨hb,_⟩:=hS
 go_wp2
 go_ret2
 exact ⟨rfl,hb⟩
set_option maxHeartbeats 3200000 in
theorem dright_any (A:Option Addr) (l:List Rw) (ca cols:Nat) (w:World) (hl:RwsAt w A l) (hok:RowsOk l cols) :
 Calls Tryz.prog 24 #[.slice A l.length ca] w fun e w' => e = .returned (.bool true)∧Below w.heap.size w w':=by
 have HS:=Hd (dsize_any A l ca cols w hl hok)
 obtain ⟨h0,h1,h2,h3,h4⟩:=hok
 have HL:=Hd hl
 have HOK:=Hd h4
 clear hl h4
 have g1:¬ (l.length:Int) < 1:=by omega
 have g2:¬ (1000:Int) < l.length:=by omega
 have g3:¬ (cols:Int) < 2:=by omega
 have g4:¬ (1000:Int) < cols:=by omega
 go_enter Tryz.func24,Tryz.ntmps24
 go_wp2_with (go_at_call 23;(with_reducible refine HS.out.mono ?_);rintro e w1 ⟨rfl,hb1⟩)
 have HB1:=Hd hb1
 clear hb1
 go_loopw [30] (fun i wr => ∃ k:Nat,k ≤ l.length∧i = .int .i64 k∧Below w.heap.size w wr) (fun i _ => l.length - (intOf i).toNat)
 case atStart => exact ⟨0,Nat.zero_le _,rfl,HB1.out⟩
 case round =>
  obtain ⟨k,hk,rfl,hB⟩:=hrel
  by_cases hlt:k < l.length
  · obtain ⟨b,off,rfl,hr⟩:=HL.out h0
    have hget:=List.getElem?_eq_getElem hlt
    obtain ⟨⟨c0,c1⟩,hcl,-⟩:=(hr k _ hget).below hB
    obtain ⟨hlen,hm,hcs⟩:=HOK.out _ (List.getElem_mem hlt)
    generalize l[k] = r at c0 c1 hcl hlen hm hcs
    obtain ⟨B,cs,cap,cont⟩:=r
    simp only at c0 c1 hcl hlen hm hcs
    clear hr hget
    have hp:0 < cs.length:=by omega
    have HR:=Hd (fun w h => cright_any B cs cap w h hp (by omega) hm (fun c hc => (hcs c hc).1))
    have HC:=Hd hcs
    have HCL:=Hd hcl
    rw [hlen] at c0 HR
    have HLEN:=Hd hlen
    clear hm hcs hcl hp hlen
    have hcl2:=HCL.out.below ((Below.refl wr.heap.size wr).alloc (Nat.le_refl _) (.cells #[.slice B cols cap,.bool cont] 52))
    have HC2:=Hd hcl2
    have HBW:=Hd (below_allocs hB (.cells #[.slice B cols cap,.bool cont] 52))
    clear hcl2
    go_wp2_with (go_at_call 49;(with_reducible refine (HR.out _ HC2.out).mono ?_);rintro e w2 ⟨rfl,hb2⟩;have d0:=(at_new hb2 (hp_new rfl) 0 _ rfl).1;have HB2:=Hd (below_tail HBW.out hb2);have HC3:=Hd (HC2.out.below hb2);clear hb2)
    go_loopw [48] (fun i w5 => ∃ j:Nat,j ≤ cols∧i = .int .i64 j∧Below w.heap.size w w5∧Below w2.heap.size w2 w5) (fun i _ => cols - (intOf i).toNat)
    case atStart => exact ⟨0,Nat.zero_le _,rfl,HB2.out,Below.refl _ _⟩
    case round =>
     obtain ⟨j,hj,rfl,hB5,hb5⟩:=hrel
     by_cases hjl:j < cols
     · have hjc:j < cs.length:=by have:=HLEN.out;omega
       obtain ⟨b',off',c,rfl,hcg,hca⟩:=HC3.out.at_ hjc
       have hD:=HC.out c (List.mem_of_getElem? hcg)
       have hca:=hca.below hb5
       have HF:=Hd (fun w => dfine_any c hD w)
       clear hcg hD
       obtain ⟨r0,r1,r2,r3,r4,r5,r6,r7⟩:=hca
       obtain ⟨cr,cm,chf,c3,c4,c5,c6,c7⟩:=c
       unfold clV at HF
       simp only at HF r0 r1 r2 r3 r4 r5 r6 r7
       have HBX:=Hd (below_allocs hB5 (.cells #[.int .i32 cr,.string cm,.int .i64 chf,.int .i64 c3,.int .i64 c4,.int .i64 c5,.int .i64 c6,.int .i64 c7] 65))
       have HBY:=Hd (below_allocs hb5 (.cells #[.int .i32 cr,.string cm,.int .i64 chf,.int .i64 c3,.int .i64 c4,.int .i64 c5,.int .i64 c6,.int .i64 c7] 65))
       go_wp2_with (go_at_call 50;(with_reducible refine (HF.out _).mono ?_);rintro e w6 ⟨rfl,hb6⟩)
       go_roundw
       case rel => exact ⟨j + 1,by omega,by go_num,below_tail HBX.out hb6,below_tail HBY.out hb6⟩
       case measure => simp [intOf];omega
     · obtain rfl:j = cols:=by omega
       go_wp2
       go_roundw
       case rel => exact ⟨k + 1,by omega,by go_num,hB5⟩
       case measure => simp [intOf];omega
  · obtain rfl:k = l.length:=by omega
    go_wp2
    go_ret
    exact ⟨by first | rfl | simp,hB⟩
def encRq (r:Rw):List Value:=[.slice r.A r.cs.length r.cap,.bool false]
def unCont (r:Rw):Rw:={ r with cont:=false }
theorem info_rowy:(Tryz.prog.info? 52).map (fun i => (i.zero,i.size,i.bytes)) = some (some (.agg #[.slice none 0 0,.bool false]),2,32):=by kernel_rfl
theorem encRq_len:∀ r,(encRq r).length = 2:=fun _ => rfl
theorem rows_of_own {w:World} {base g c:Nat} {l:List Rw} (h:w.ownsRow base 52 2 (.slice (some ⟨g,0,none⟩) l.length c) l.length (flat encRq l)) (hc:∀ r ∈ l,ClsAt w r.A r.cs∧r.cs.length ≤ 9223372036854775807):RwsAt w (some ⟨g,0,none⟩) (l.map unCont):=fun _ => by
 refine ⟨g,0,rfl,fun i r hr => ?_⟩
 rw [List.getElem?_map] at hr
 obtain ⟨q,hq,rfl⟩:=Option.map_eq_some_iff.1 hr
 have hcell:∀ j v,(encRq q)[j]? = some v→w.cell? ⟨g,i * 2 + j,none⟩ = some v:=fun j v hj =>
  (owns_hold h (i:=i * 2 + j) (by rw [flat_at2 encRq_len l i q j hq (by have:=(List.getElem?_eq_some_iff.1 hj).1;rw [encRq_len] at this;exact this)];exact hj)).1
 rw [Nat.zero_add]
 exact ⟨⟨hcell 0 _ rfl,hcell 1 _ rfl⟩,hc q (List.mem_of_getElem? hq)⟩
theorem cell_two_new (W:World) (x y:Value) (t:TypeId):∀ j u,[x,y][j]? = some u→(W.alloc (.cells #[x,y] t)).cell? ((⟨W.heap.size,0,none⟩:Addr).add j) = some u:=fun j u hj => by
 have h:(W.alloc (.cells #[x,y] t)).heap[W.heap.size]? = some (.cells #[x,y] t (0,0)):=hp_new rfl
 rcases j with _ | _ | j
 · simp at hj;subst hj;exact (at_ h 0 _ rfl).1
 · simp at hj;subst hj;exact (at_ h 1 _ rfl).1
 · simp at hj
theorem one_row (A:Option Addr) (n c:Nat):∀ u ∈ [Value.slice A n c,Value.bool false],u.oneCell' = true:=fun u hu => by
 rcases List.mem_cons.1 hu with rfl | hu
 · rfl
 · rw [List.mem_singleton.1 hu];rfl
def PartedPost (l:List Rw) (w:World) (e:Ending) (w':World):Prop:=∃ A c,e = .returned (.slice A l.length c)∧RwsAt w' A (l.map unCont)∧Below w.heap.size w w'
set_option maxHeartbeats 3200000 in
theorem parted_any (A:Option Addr) (l:List Rw) (ca:Nat) (w:World) (hl:RwsAt w A l) (h0:0 < l.length) (hz:l.length ≤ 400) :
 Calls Tryz.prog 89 #[.slice A l.length ca] w (PartedPost l w):=by
 obtain ⟨b,off,rfl,hr⟩:=hl h0
 have HR:=Hd hr
 obtain ⟨i0,hi,hz0,hz1,hz2⟩:=info_parts info_rowy
 clear hl hr
 go_enter Tryz.func89,Tryz.ntmps89
 go_wp2_with fail
 go_loopw [3,4] (fun o i wr => ∃ k:Nat,k ≤ l.length∧i = .int .i64 k∧wr.ownsRow w.heap.size 52 2 o (l.take k).length (flat encRq (l.take k))∧Below w.heap.size w wr) (fun _ i _ => l.length - (intOf i).toNat)
 case atStart => exact ⟨0,Nat.zero_le _,rfl,World.ownsRow_nil _ _ _ _,Below.refl _ _⟩
 case round =>
  obtain ⟨k,hk,rfl,ho,hB⟩:=hrel
  by_cases hlt:k < l.length
  · obtain ⟨⟨d0,d1⟩,-,-⟩:=(HR.out k _ (List.getElem?_eq_getElem hlt)).below hB
    have HT:Hid (flat encRq (l.take (k + 1)) = flat encRq (l.take k) ++ encRq l[k]∧(l.take (k + 1)).length = (l.take k).length + 1):=Hd ⟨by rw [List.take_succ_eq_append_getElem hlt];simp only [flat,List.flatMap_append,List.flatMap_cons,List.flatMap_nil,List.append_nil],by rw [List.length_take,List.length_take];omega⟩
    have htl:(l.take k).length ≤ 400:=by rw [List.length_take];omega
    obtain ⟨rA,rn,rc,he⟩:∃ A n c,encRq l[k] = [.slice A n c,.bool false]∧Value.slice l[k].A l[k].cs.length l[k].cap = .slice A n c:=⟨_,_,_,rfl,rfl⟩
    rw [he.2] at d0
    have HE:=Hd he.1
    have ho1:=ho.alloc (.cells #[.slice rA rn rc,.bool false] 52)
    have HO:=Hd ho
    have HB:=Hd hB
    clear he d1 ho hB
    go_wp2_with (at_builtin;refine wpList_append_gP rfl _ _ 46 rfl w.heap.size 52 i0 _ 2 32 Tryz.underlying46 hi hz0 hz1 hz2 rfl (by decide) _ (l.take k).length _ rfl ho1 ⟨wr.heap.size,0,none⟩ 1 1 [.slice rA rn rc,.bool false] rfl rfl (cell_two_new _ _ _ _) (one_row _ _ _) (by unfold maxLen;omega) (by omega) (by have:=HB.out.size;simp;omega) ?_;intro v' w2 hown' hgrow _;have HB2:=Hd (show Below w.heap.size w w2 from (HB.out.alloc HB.out.size _).grown hgrow (by have:=HB.out.size;simp;omega) (fun k hk => (ho1.lt k hk).1));have HO2:=Hd hown';clear hown' hgrow)
    go_roundw
    case rel => exact ⟨k + 1,by omega,by go_num,by rw [HT.out.1,HT.out.2,HE.out];exact HO2.out,HB2.out⟩
    case measure => simp [intOf];omega
  · obtain rfl:k = l.length:=by omega
    rw [List.take_length] at ho
    obtain ⟨g,c,rfl⟩:=own_formP ho h0
    go_wp2
    go_ret
    refine ⟨_,_,rfl,rows_of_own ho (fun r hr => ?_),hB⟩
    obtain ⟨i,hi,rfl⟩:=List.getElem_of_mem hr
    have:=(HR.out i _ (List.getElem?_eq_getElem hi)).below hB
    exact ⟨this.2.1,this.2.2⟩
theorem ClsAt.cell {w:World} {b off:Nat} {l:List Cl} {k:Nat} {c:Cl} (h:ClsAt w (some ⟨b,off,none⟩) l) (hk:l[k]? = some c):ClAt w b (off + k * 8) c:=by
 obtain ⟨b1,off1,e,hc⟩:=h (by have:=(List.getElem?_eq_some_iff.1 hk).1;omega)
 injection e with e
 injection e with e1 e2 _
 subst e1 e2
 exact hc k c hk
end Go.Proofs.YtaefcahblmopfaaGreatDoor
namespace Go.Proofs
open Go.Shelf
def Tryz.laysItoa_ren:Go.Shelf.Ren:=⟨fun | 171 => 249 | 243 => 327 | 246 => 374 | 283 => 398 | 284 => 399 | 285 => 400 | 286 => 401 | 129 => 381 | 317 => 411 | 318 => 412 | 319 => 413 | 320 => 414 | 337 => 423 | 338 => 345 | n => n,fun | 3 => 3 | 9 => 9 | 2 => 2 | 4 => 4 | 171 => 358 | 0 => 0 | 53 => 206 | 37 => 23 | 5 => 5 | 173 => 360 | 212 => 364 | 51 => 38 | 20 => 20 | 213 => 365 | 46 => 183 | 232 => 380 | 233 => 351 | n => n,fun | 17 => 4 | 18 => 7 | 19 => 3 | n => n⟩
theorem Tryz.laysItoa:Go.Proofs.LaysM.n171 Tryz.prog Tryz.laysItoa_ren:={
 mixed:=by kernel_rfl
 f129:=Tryz.func381.trans (congrArg some (by kernel_rfl))
 f171:=Tryz.func249.trans (congrArg some (by kernel_rfl))
 f243:=Tryz.func327.trans (congrArg some (by kernel_rfl))
 f246:=Tryz.func374.trans (congrArg some (by kernel_rfl))
 f283:=Tryz.func398.trans (congrArg some (by kernel_rfl))
 f284:=Tryz.func399.trans (congrArg some (by kernel_rfl))
 f285:=Tryz.func400.trans (congrArg some (by kernel_rfl))
 f286:=Tryz.func401.trans (congrArg some (by kernel_rfl))
 f317:=Tryz.func411.trans (congrArg some (by kernel_rfl))
 f318:=Tryz.func412.trans (congrArg some (by kernel_rfl))
 f319:=Tryz.func413.trans (congrArg some (by kernel_rfl))
 f320:=Tryz.func414.trans (congrArg some (by kernel_rfl))
 f337:=Tryz.func423.trans (congrArg some (by kernel_rfl))
 f338:=Tryz.func345.trans (congrArg some (by kernel_rfl))
 t0:=Tryz.underlying0
 a0:=Tryz.isAgg0
 z0:=Tryz.sizeOf0
 v0:=Tryz.zeroValue0
 t2:=Tryz.underlying2
 a2:=Tryz.isAgg2
 z2:=Tryz.sizeOf2
 v2:=Tryz.zeroValue2
 t3:=Tryz.underlying3
 a3:=Tryz.isAgg3
 z3:=Tryz.sizeOf3
 v3:=Tryz.zeroValue3
 t4:=Tryz.underlying4
 a4:=Tryz.isAgg4
 z4:=Tryz.sizeOf4
 v4:=Tryz.zeroValue4
 t5:=Tryz.underlying5
 a5:=Tryz.isAgg5
 z5:=Tryz.sizeOf5
 v5:=Tryz.zeroValue5
 t9:=Tryz.underlying9
 a9:=Tryz.isAgg9
 z9:=Tryz.sizeOf9
 v9:=Tryz.zeroValue9
 t20:=Tryz.underlying20
 a20:=Tryz.isAgg20
 z20:=Tryz.sizeOf20
 v20:=Tryz.zeroValue20
 t37:=Tryz.underlying23
 a37:=Tryz.isAgg23
 z37:=Tryz.sizeOf23
 v37:=Tryz.zeroValue23
 t46:=Tryz.underlying183
 a46:=Tryz.isAgg183
 z46:=Tryz.sizeOf183
 v46:=Tryz.zeroValue183
 t51:=Tryz.underlying38
 a51:=Tryz.isAgg38
 z51:=Tryz.sizeOf38
 v51:=Tryz.zeroValue38
 t53:=Tryz.underlying206
 a53:=Tryz.isAgg206
 z53:=Tryz.sizeOf206
 v53:=Tryz.zeroValue206
 t171:=Tryz.underlying358
 a171:=Tryz.isAgg358
 z171:=Tryz.sizeOf358
 v171:=Tryz.zeroValue358
 t173:=Tryz.underlying360
 a173:=Tryz.isAgg360
 z173:=Tryz.sizeOf360
 v173:=Tryz.zeroValue360
 t212:=Tryz.underlying364
 a212:=Tryz.isAgg364
 z212:=Tryz.sizeOf364
 v212:=Tryz.zeroValue364
 t213:=Tryz.underlying365
 a213:=Tryz.isAgg365
 z213:=Tryz.sizeOf365
 t232:=Tryz.underlying380
 a232:=Tryz.isAgg380
 z232:=Tryz.sizeOf380
 v232:=Tryz.zeroValue380
 t233:=Tryz.underlying351
 a233:=Tryz.isAgg351
 z233:=Tryz.sizeOf351
 v233:=Tryz.zeroValue351
 g17:=by kernel_rfl
 g18:=by kernel_rfl
 g19:=by kernel_rfl
 i0:=by kernel_rfl
 i2:=by kernel_rfl
 i3:=by kernel_rfl
 i4:=by kernel_rfl
 i5:=by kernel_rfl
 i9:=by kernel_rfl
 i20:=by kernel_rfl
 i37:=by kernel_rfl
 i46:=by kernel_rfl
 i51:=by kernel_rfl
 i53:=by kernel_rfl
 i171:=by kernel_rfl
 i173:=by kernel_rfl
 i212:=by kernel_rfl
 i232:=by kernel_rfl
 i233:=by kernel_rfl
 m17:=by kernel_rfl
 m18:=by kernel_rfl
 m19:=by kernel_rfl }
end Go.Proofs
namespace Go.Proofs.YtaefcahblmopfaaGreatDoor
open Go.RowKit
def TabP (w:World):Prop:=Lib.TabIs Tryz.prog w "internal/strconv.uint64pow10" .u64 Lib.pow10Tab
theorem TabP.below {w w':World} (h:TabP w) (hb:Below w.heap.size w w'):TabP w':=Lib.tabBelow_of_tabIs h w' hb
def digS (n:Nat):ByteArray:=⟨(Lib.decDigits n).toArray⟩
theorem itoa_any (n:Nat) (hn:n ≤ 100000) (w:World) (ht:TabP w):Calls Tryz.prog 249 #[.int .i64 n] w fun e w' => e = .returned (.string (digS n))∧Below w.heap.size w w':=by
 refine (Any.strconv_Itoa Tryz.laysItoa (n:Int) (by omega) (by omega) w ht).mono ?_
 rintro e w' ⟨rfl,k,os,rfl⟩
 refine ⟨?_,Lib.below_grow _ w (Nat.le_refl _) k os⟩
 rw [Lib.itoa_nonneg]
 rfl
theorem decD_len (n:Nat):∀ k,n < 10 ^ (k + 1)→(Lib.decDigits n).length ≤ k + 1:=by
 intro k
 induction k generalizing n with
 | zero =>
   intro h
   rw [Lib.decDigits,dif_pos (by omega)]
   simp
 | succ k ih =>
   intro h
   rw [Lib.decDigits]
   split
   · simp
   · rw [List.length_append]
     have:=ih (n / 10) (by rw [Nat.pow_succ] at h;omega)
     simp
     omega
theorem digS_size (n:Nat) (hn:n ≤ 100000):(digS n).size ≤ 6∧0 < (digS n).size:=by
 have h1:=decD_len n 5 (by omega)
 have h2:0 < (Lib.decDigits n).length:=by
  rw [Lib.decDigits]
  split <;> simp
 show (Lib.decDigits n).toArray.size ≤ 6∧0 < (Lib.decDigits n).toArray.size
 rw [List.size_toArray]
 exact ⟨h1,h2⟩
def curS (a b:ByteArray):ByteArray:=((((⟨#[27,91]⟩:ByteArray) ++ a) ++ (⟨#[59]⟩:ByteArray)) ++ b) ++ (⟨#[72]⟩:ByteArray)
def u8 (xs:List Int):List UInt8:=(strOfNums xs).data.toList
theorem u8_append (a b:List Int):u8 (a ++ b) = u8 a ++ u8 b:=by
 unfold u8
 rw [← strOfNums_append]
 simp
theorem u8_len (xs:List Int):(u8 xs).length = xs.length:=by
 unfold u8
 rw [Array.length_toList]
 exact strOfNums_size xs
theorem digS_nums (n:Nat):digS n = strOfNums (decI n):=by
 unfold digS decI strOfNums
 congr 1
 rw [List.map_map]
 congr 1
 conv => lhs;rw [← List.map_id (Lib.decDigits n)]
 refine List.map_congr_left (fun b _ => ?_)
 show b = UInt8.ofNat ((b.toNat:Int)).toNat
 rw [Int.toNat_natCast,UInt8.ofNat_toNat]
theorem curS_nums (y x:Nat):curS (digS (y + 1)) (digS (x + 1)) = strOfNums (movI y x):=by
 unfold curS movI
 rw [digS_nums,digS_nums,show (⟨#[27,91]⟩:ByteArray) = strOfNums [27,91] from rfl,show (⟨#[59]⟩:ByteArray) = strOfNums [59] from rfl,show (⟨#[72]⟩:ByteArray) = strOfNums [72] from rfl]
 simp only [strOfNums_append]
 congr 1
 show _ = 27 :: 91 :: ((decI (y + 1) ++ 59 :: decI (x + 1)) ++ [72])
 simp
theorem movI_len (y x:Nat) (hy:y ≤ 1000) (hx:x ≤ 1000):(movI y x).length ≤ 16:=by
 have h1:=decI_len 5 (y + 1) (by omega)
 have h2:=decI_len 5 (x + 1) (by omega)
 show (27 :: 91 :: ((decI (y + 1) ++ 59 :: decI (x + 1)) ++ [72])).length ≤ 16
 simp
 omega
section
variable {base:Nat} {w:World} {v:Pn} {on:Atr} {l:List UInt8}
set_option maxHeartbeats 3200000 in
theorem pmove_any (h:PnO base w v on l) (hbw:base ≤ w.heap.size) (ht:TabP w) (y x:Nat) (hy:y ≤ 1000) (hx:x ≤ 1000) (hl:l.length ≤ 90000000) :
 Calls Tryz.prog 158 #[.pointer (some ⟨v.P,0,none⟩),.int .i64 y,.int .i64 x] w (PnPost base w v on (l ++ u8 (movI y x))):=by
 have HI1:Hid (∀ w',TabP w'→Calls Tryz.prog 249 #[.int .i64 ((y:Int) + 1)] w' fun e w2 => e = .returned (.string (digS (y + 1)))∧Below w'.heap.size w' w2):=Hd (fun w' ht => itoa_any (y + 1) (by omega) w' ht)
 have HI2:Hid (∀ w',TabP w'→Calls Tryz.prog 249 #[.int .i64 ((x:Int) + 1)] w' fun e w2 => e = .returned (.string (digS (x + 1)))∧Below w'.heap.size w' w2):=Hd (fun w' ht => itoa_any (x + 1) (by omega) w' ht)
 have HWR:Hid (∀ w',Below w.heap.size w w'→Calls Tryz.prog 101 #[.pointer (some ⟨v.B,0,none⟩),.string (((((⟨#[27,91]⟩:ByteArray) ++ digS (y + 1)) ++ (⟨#[59]⟩:ByteArray)) ++ digS (x + 1)) ++ (⟨#[72]⟩:ByteArray))] w' (fun e w2 => (∃ n:Int,e = .returned (.tuple #[.int .i64 n,.nilIface]))∧PnRes base w' v on (l ++ u8 (movI y x)) w2)):=Hd (fun w' hb => by
  have e:((((⟨#[27,91]⟩:ByteArray) ++ digS (y + 1)) ++ (⟨#[59]⟩:ByteArray)) ++ digS (x + 1)) ++ (⟨#[72]⟩:ByteArray) = strOfNums (movI y x):=curS_nums y x
  rw [e]
  have hz:=movI_len y x hy hx
  exact (pwrite_any (h.below hb) (Nat.le_trans hbw hb.size) (strOfNums (movI y x)) (by rw [strOfNums_size];omega)).mono (fun e w2 h => ⟨⟨_,h.1⟩,h.2⟩))
 obtain ⟨s1,s1'⟩:=digS_size (y + 1) (by omega)
 obtain ⟨s2,s2'⟩:=digS_size (x + 1) (by omega)
 generalize digS (y + 1) = d1 at HI1 HWR s1 s1'
 generalize digS (x + 1) = d2 at HI2 HWR s2 s2'
 have w1:IntKind.i64.wrap ((y:Int) + 1) = (y:Int) + 1:=IntWalk.i64_in _ (by omega)
 have w2:IntKind.i64.wrap ((x:Int) + 1) = (x:Int) + 1:=IntWalk.i64_in _ (by omega)
 have n0:¬ 9223372036854775807 < 2 + d1.size:=by omega
 have n1:¬ 9223372036854775807 < 2 + d1.size + 1:=by omega
 have n2:¬ 9223372036854775806 < 2 + d1.size:=by omega
 have n3:¬ 9223372036854775807 < 2 + d1.size + 1 + d2.size:=by omega
 have n4:¬ 9223372036854775807 < 2 + d1.size + 1 + d2.size + 1:=by omega
 have n5:¬ 9223372036854775806 < 2 + d1.size + 1 + d2.size:=by omega
 obtain ⟨⟨c0,-⟩,-⟩:=h.facts
 have HT:=Hd ht
 clear h ht hy hx hl hbw
 go_enter Tryz.func158,Tryz.ntmps158
 go_upto_region 0 with fail
 refine wp_region_u 14 (fun w' => Below w.heap.size w w'∧w'.cell? ⟨v.P,0,none⟩ = some (.pointer (some ⟨v.B,0,none⟩))) (by kernel_rfl) (by kernel_rfl) ?_ ?_
 · exact ⟨(Below.refl _ _).drew,c0⟩
 simp only [List.take_succ_cons,List.take_zero,List.drop_succ_cons,List.drop_zero]
 repeat (
  (first
   | refine seqU_skip (by rfl) ?_
   | ((refine seqU_call 249 #[.int .i64 ((y:Int) + 1)] (.string d1) (by rfl) ?_ (fun w' hS => (HI1.out w' (HT.out.below hS.1)).mono fun e w2 ⟨he,hb⟩ => ⟨he,below_tail hS.1 hb,holda hb hS.2⟩) ?_;(focus (intro w2;go_simp;done))))
   | ((refine seqU_call 249 #[.int .i64 ((x:Int) + 1)] (.string d2) (by rfl) ?_ (fun w' hS => (HI2.out w' (HT.out.below hS.1)).mono fun e w2 ⟨he,hb⟩ => ⟨he,below_tail hS.1 hb,holda hb hS.2⟩) ?_;(focus (intro w2;go_simp;done))))
   | (refine seqU_val ?_ (by rfl) ?_ ?_;rotate_left;(focus (intro w' hS;obtain ⟨hS0,hS1⟩:=hS;go_simp;first | done | with_reducible rfl))))
  simp only [Act.put,List.setIfInBounds_toArray,List.set_cons_zero,List.set_cons_succ])
 refine seqU_nil (fun w' hS => ?_)
 go_wp2_with (go_at_call 101;(with_reducible refine (HWR.out _ hS.1).mono ?_);rintro e w4 ⟨⟨n,rfl⟩,hr⟩;have HR:=Hd (PnRes.pre hS.1 hr);clear hr)
 go_end0
 exact ⟨rfl,HR.out⟩
end
def ints (l:List Nat):List Int:=l.map fun n:Nat => (n:Int)
def PntPost (l:List Nat) (w:World) (e:Ending) (w':World):Prop:=∃ (A:Option Addr) (c:Nat),e = .returned (.slice A l.length c)∧GrAt encZ 1 w' A (ints l)∧Below w.heap.size w w'
theorem gr_new {w:World} {g:Nat} {xs:List Int} {t:TypeId} (h:w.heap[g]? = some (.cells (xs.map (Value.int .i64)).toArray t (0,0))):GrAt encZ 1 w (some ⟨g,0,none⟩) xs:=fun _ => by
 refine ⟨g,0,rfl,fun i x hi j v hj => ?_⟩
 have hj0:j = 0:=by have:=(List.getElem?_eq_some_iff.1 hj).1;simpa [encZ] using this
 subst hj0
 obtain rfl:Value.int .i64 x = v:=by simpa [encZ] using hj
 rw [Nat.zero_add,Nat.mul_one,Nat.add_zero]
 exact (at_ h i _ (by rw [List.getElem?_toArray,List.getElem?_map,hi];rfl)).1
theorem i64_and255 (n:Int):bits .and .i64 n 255 = n % 256:=by
 have h255:(BitVec.ofInt 64 255).toNat = 2 ^ 8 - 1:=by decide
 have key:(BitVec.ofInt 64 n &&& BitVec.ofInt 64 255).toNat = (n % ((2 ^ 64:Nat):Int)).toNat % 2 ^ 8:=by
  rw [BitVec.toNat_and,BitVec.toNat_ofInt,h255,Nat.and_two_pow_sub_one_eq_mod]
 show IntKind.i64.wrap ((BitVec.ofInt 64 n &&& BitVec.ofInt 64 255).toNat:Nat) = n % 256
 rw [key,IntKind.wrap_i64]
 omega
set_option maxHeartbeats 1600000 in
theorem apaint_any (k n:Int) (m:Nat) (hm:m ≤ 255) (hc:colB k n = true) (w:World):Calls Tryz.prog 316 #[.agg #[.int .i64 k,.int .i64 n],.int .i64 m] w (PntPost (paintC k n m) w):=by
 have hk:(k = 0∧n = 0) ∨ (k = 1∧0 ≤ n∧n < 256) ∨ (k = 2∧0 ≤ n∧n < 16777216):=by
  unfold colB at hc
  rw [decide_eq_true_eq] at hc
  omega
 rcases hk with ⟨rfl,rfl⟩ | ⟨rfl,h1,h2⟩ | ⟨rfl,h1,h2⟩
 · clear hc
   go_enter Tryz.func316,Tryz.ntmps316
   go_wp2
   go_ret
   exact ⟨none,0,rfl,fun h => absurd h (by simp [ints,paintC]),below_allocs (Below.refl _ _) _⟩
 · have e:paintC 1 n m = [m,5,n.toNat]:=rfl
   rw [e]
   obtain ⟨q,rfl⟩:∃ q:Nat,n = q:=⟨n.toNat,by omega⟩
   rw [Int.toNat_natCast]
   clear hc e
   go_enter Tryz.func316,Tryz.ntmps316
   go_wp2
   go_ret
   refine ⟨some ⟨w.heap.size + 1,0,none⟩,3,rfl,gr_new (xs:=ints [m,5,q]) (hp_new (by simp)),below_allocs (below_allocs (Below.refl _ _) _) _⟩
 · have e:paintC 2 n m = [m,2,(n / 65536).toNat,(n / 256 % 256).toNat,(n % 256).toNat]:=rfl
   rw [e]
   obtain ⟨q0,hq0⟩:∃ q:Nat,n / 65536 = q:=⟨(n / 65536).toNat,by omega⟩
   obtain ⟨q1,hq1⟩:∃ q:Nat,bits .and .i64 (n / 256) 255 = q:=⟨(n / 256 % 256).toNat,by rw [i64_and255];omega⟩
   obtain ⟨q2,hq2⟩:∃ q:Nat,bits .and .i64 n 255 = q:=⟨(n % 256).toNat,by rw [i64_and255];omega⟩
   have e2:[m,2,(n / 65536).toNat,(n / 256 % 256).toNat,(n % 256).toNat] = [m,2,q0,q1,q2]:=by
    rw [← i64_and255 (n / 256),← i64_and255 n,hq0,hq1,hq2]
    simp only [Int.toNat_natCast]
   rw [e2]
   clear hc e e2
   go_enter Tryz.func316,Tryz.ntmps316
   go_wp2
   go_ret
   exact ⟨some ⟨w.heap.size + 1,0,none⟩,5,rfl,gr_new (xs:=ints [m,2,q0,q1,q2]) (hp_new (by simp)),below_allocs (below_allocs (Below.refl _ _) _) _⟩
theorem wpList_append_i {P:Program} {ops:Array Oper} {rest:List Oper} {o:Oper} {a:Act} {w:World} {Q:Exit→Act→World→Prop} (hgd:o.guard = none) (s x:Operand) (t:TypeId)
 (ho:o.op = .call { callee:=.builtin .append,args:=#[s,x],argTypes:=#[t,t] }) (base:Nat) (e:TypeId) (i:TypeInfo) (z:Value) (size bytes:Nat) (ht:P.underlying t = some (.slice e)) (hi:P.info? e = some i) (hz:i.zero = some z) (hsize:i.size = size) (hby:i.bytes = bytes) (hzs:z.cells.size = size) (hsz:0 < size)
 (v:Value) (n:Nat) (xs:List Value) (hs:a.eval s = v) (hown:w.ownsRow base e size v n xs) (hn:0 < n) (A:Option Addr) (m c:Nat) (news:List Value) (hx:a.eval x = .slice A m c) (hl:news.length = m * size) (hnews:0 < m→∃ ad,A = some ad∧∀ j u,news[j]? = some u→w.cell? (ad.add j) = some u) (h1:∀ u ∈ news,u.oneCell' = true)
 (h63:n + m ≤ maxLen) (hbytes:(n + m) * bytes ≤ 140737488355328) (hbase:base ≤ w.heap.size)
 (h:∀ v' w',w'.ownsRow base e size v' (n + m) (xs ++ news)→w.grownBy w' v.ownBlock→(∀ g,v'.ownBlock = some g→v.ownBlock = some g ∨ w.heap.size ≤ g)→wpList P ops Q rest (a.put o.dst v') w'):wpList P ops Q (o :: rest) a w:=by
 rcases Nat.eq_zero_or_pos m with rfl | hm
 · have e0:news = []:=List.length_eq_zero_iff.1 (by omega)
   subst e0
   have hown2:=hown
   rcases hown.2 with ⟨rfl,rfl⟩ | ⟨g,cap,cur,rfl,hbg,hg,hnc,hcm,hcs,htake⟩
   · have:=hown.1
     simp at this
     rcases this with h0 | h0 <;> omega
   · have hr:(Builtin.append_ #[t,t] o.type #[.slice (some ⟨g,0,none⟩) n cap,.slice A 0 c]).run P w = .ok (.slice (some ⟨g,0,none⟩) n cap) w:=by
      cases A <;> simp [Builtin.append_,run_underlying ht,sizeOf,typeInfo,hi,Builtin.lenOf,Builtin.firstCells,loadCells,loadCellsFrom,hnc,storeCells]
     refine wpList_plain hgd fun K hK => ?_
     unfold Oper.wp execOp
     simp only [ho,resolve,invoke,builtin,Sem.run_bind,Sem.run_pure,Result.andThen_ok,List.map_toArray,List.map_cons,List.map_nil,hs,hx,hr]
     exact hK _ _ (h _ _ (by rw [Nat.add_zero,List.append_nil];exact hown2) (World.grownBy.refl _ _) (fun g hg => .inl hg))
 · obtain ⟨ad,rfl,hn2⟩:=hnews hm
   exact wpList_append_g hgd s x t ho base e i z size bytes ht hi hz hsize hby hzs hsz v n xs hs hown ad m c news hx hl hn2 h1 h63 hbytes hbase h
end Go.Proofs.YtaefcahblmopfaaGreatDoor
namespace Go.Proofs
open Go.Shelf
def Tryz.laysJoin_ren:Go.Shelf.Ren:=⟨fun | 156 => 55 | 165 => 103 | 166 => 101 | 169 => 42 | 240 => 168 | 241 => 171 | 276 => 260 | 277 => 261 | n => n,fun | 31 => 109 | 9 => 9 | 3 => 3 | 4 => 4 | 0 => 0 | 20 => 20 | 72 => 76 | 76 => 164 | 70 => 74 | 37 => 23 | 75 => 162 | 127 => 146 | 164 => 280 | 5 => 5 | 80 => 42 | n => n,fun | n => n⟩
theorem Tryz.laysJoin:Go.Proofs.Lays.n156 Tryz.prog Tryz.laysJoin_ren:={
 mixed:=by kernel_rfl
 f156:=Tryz.func55.trans (congrArg some (by kernel_rfl))
 f165:=Tryz.func103.trans (congrArg some (by kernel_rfl))
 f166:=Tryz.func101.trans (congrArg some (by kernel_rfl))
 f169:=Tryz.func42.trans (congrArg some (by kernel_rfl))
 f240:=Tryz.func168.trans (congrArg some (by kernel_rfl))
 f241:=Tryz.func171.trans (congrArg some (by kernel_rfl))
 f276:=Tryz.func260.trans (congrArg some (by kernel_rfl))
 f277:=Tryz.func261.trans (congrArg some (by kernel_rfl))
 t0:=Tryz.underlying0
 a0:=Tryz.isAgg0
 z0:=Tryz.sizeOf0
 v0:=Tryz.zeroValue0
 t3:=Tryz.underlying3
 a3:=Tryz.isAgg3
 z3:=Tryz.sizeOf3
 v3:=Tryz.zeroValue3
 t4:=Tryz.underlying4
 a4:=Tryz.isAgg4
 z4:=Tryz.sizeOf4
 v4:=Tryz.zeroValue4
 t9:=Tryz.underlying9
 a9:=Tryz.isAgg9
 z9:=Tryz.sizeOf9
 v9:=Tryz.zeroValue9
 t20:=Tryz.underlying20
 a20:=Tryz.isAgg20
 z20:=Tryz.sizeOf20
 v20:=Tryz.zeroValue20
 t31:=Tryz.underlying109
 a31:=Tryz.isAgg109
 z31:=Tryz.sizeOf109
 v31:=Tryz.zeroValue109
 t37:=Tryz.underlying23
 a37:=Tryz.isAgg23
 z37:=Tryz.sizeOf23
 v37:=Tryz.zeroValue23
 t70:=Tryz.underlying74
 a70:=Tryz.isAgg74
 z70:=Tryz.sizeOf74
 v70:=Tryz.zeroValue74
 t72:=Tryz.underlying76
 a72:=Tryz.isAgg76
 z72:=Tryz.sizeOf76
 v72:=Tryz.zeroValue76
 t75:=Tryz.underlying162
 a75:=Tryz.isAgg162
 z75:=Tryz.sizeOf162
 v75:=Tryz.zeroValue162
 t76:=Tryz.underlying164
 a76:=Tryz.isAgg164
 z76:=Tryz.sizeOf164
 v76:=Tryz.zeroValue164
 t127:=Tryz.underlying146
 a127:=Tryz.isAgg146
 z127:=Tryz.sizeOf146
 v127:=Tryz.zeroValue146
 t164:=Tryz.underlying280
 a164:=Tryz.isAgg280
 z164:=Tryz.sizeOf280
 v164:=Tryz.zeroValue280 }
def Tryz.laysTrimR_ren:Go.Shelf.Ren:=⟨fun | 162 => 53 | 232 => 95 | 227 => 96 | 234 => 97 | 236 => 98 | 228 => 165 | 271 => 166 | 151 => 167 | 120 => 257 | 197 => 258 | 152 => 259 | 260 => 331 | 137 => 312 | 119 => 332 | 224 => 333 | 225 => 334 | 217 => 371 | 266 => 396 | n => n,fun | 9 => 9 | 4 => 4 | 3 => 3 | 5 => 5 | 117 => 157 | 116 => 156 | 0 => 0 | 124 => 160 | 21 => 21 | 105 => 219 | 46 => 183 | 119 => 346 | 139 => 349 | 138 => 348 | n => n,fun | 3 => 1 | 4 => 2 | n => n⟩
theorem Tryz.laysTrimR:Go.Proofs.Lays.n162 Tryz.prog Tryz.laysTrimR_ren:={
 mixed:=by kernel_rfl
 f119:=Tryz.func332.trans (congrArg some (by kernel_rfl))
 f120:=Tryz.func257.trans (congrArg some (by kernel_rfl))
 f137:=Tryz.func312.trans (congrArg some (by kernel_rfl))
 f151:=Tryz.func167.trans (congrArg some (by kernel_rfl))
 f152:=Tryz.func259.trans (congrArg some (by kernel_rfl))
 f162:=Tryz.func53.trans (congrArg some (by kernel_rfl))
 f197:=Tryz.func258.trans (congrArg some (by kernel_rfl))
 f217:=Tryz.func371.trans (congrArg some (by kernel_rfl))
 f224:=Tryz.func333.trans (congrArg some (by kernel_rfl))
 f225:=Tryz.func334.trans (congrArg some (by kernel_rfl))
 f227:=Tryz.func96.trans (congrArg some (by kernel_rfl))
 f228:=Tryz.func165.trans (congrArg some (by kernel_rfl))
 f232:=Tryz.func95.trans (congrArg some (by kernel_rfl))
 f234:=Tryz.func97.trans (congrArg some (by kernel_rfl))
 f236:=Tryz.func98.trans (congrArg some (by kernel_rfl))
 f260:=Tryz.func331.trans (congrArg some (by kernel_rfl))
 f266:=Tryz.func396.trans (congrArg some (by kernel_rfl))
 f271:=Tryz.func166.trans (congrArg some (by kernel_rfl))
 t0:=Tryz.underlying0
 a0:=Tryz.isAgg0
 z0:=Tryz.sizeOf0
 v0:=Tryz.zeroValue0
 t3:=Tryz.underlying3
 a3:=Tryz.isAgg3
 z3:=Tryz.sizeOf3
 v3:=Tryz.zeroValue3
 t4:=Tryz.underlying4
 a4:=Tryz.isAgg4
 z4:=Tryz.sizeOf4
 v4:=Tryz.zeroValue4
 t5:=Tryz.underlying5
 a5:=Tryz.isAgg5
 z5:=Tryz.sizeOf5
 v5:=Tryz.zeroValue5
 t9:=Tryz.underlying9
 a9:=Tryz.isAgg9
 z9:=Tryz.sizeOf9
 v9:=Tryz.zeroValue9
 t21:=Tryz.underlying21
 a21:=Tryz.isAgg21
 z21:=Tryz.sizeOf21
 v21:=Tryz.zeroValue21
 t46:=Tryz.underlying183
 a46:=Tryz.isAgg183
 z46:=Tryz.sizeOf183
 v46:=Tryz.zeroValue183
 t105:=Tryz.underlying219
 a105:=Tryz.isAgg219
 z105:=Tryz.sizeOf219
 v105:=Tryz.zeroValue219
 t116:=Tryz.underlying156
 a116:=Tryz.isAgg156
 z116:=Tryz.sizeOf156
 t117:=Tryz.underlying157
 a117:=Tryz.isAgg157
 z117:=Tryz.sizeOf157
 v117:=Tryz.zeroValue157
 t119:=Tryz.underlying346
 a119:=Tryz.isAgg346
 z119:=Tryz.sizeOf346
 t124:=Tryz.underlying160
 a124:=Tryz.isAgg160
 z124:=Tryz.sizeOf160
 v124:=Tryz.zeroValue160
 t138:=Tryz.underlying348
 a138:=Tryz.isAgg348
 z138:=Tryz.sizeOf348
 v138:=Tryz.zeroValue348
 t139:=Tryz.underlying349
 a139:=Tryz.isAgg349
 z139:=Tryz.sizeOf349
 v139:=Tryz.zeroValue349
 g3:=by kernel_rfl
 g4:=by kernel_rfl }
end Go.Proofs
namespace Go.Proofs.YtaefcahblmopfaaGreatDoor
open Go.RowKit
theorem extraJ:Builder.Extra Tryz.prog Tryz.laysJoin_ren :=
 { sizeBuilder:=by kernel_rfl
   liesBuilder:=by kernel_rfl
   t5:=Tryz.underlying5
   a5:=Tryz.isAgg5
   z5:=Tryz.sizeOf5
   v5:=Tryz.zeroValue5
   infoByte:=by kernel_rfl
   cellsByte:=by kernel_rfl
   sizeByte:=by kernel_rfl
   neB5:=by decide }
theorem sjoin_any (bk c:Nat) (xs:List ByteArray) (sep:ByteArray) (w:World) (hcells:∀ (j:Nat) x,xs[j]? = some x→w.cell? ⟨bk,j,none⟩ = some (.string x)) (hbk:bk < w.heap.size) (hN:xs.length ≤ 1000000) (hcap:xs.length ≤ c)
 (hlen:(Lib.join (xs.map (·.data.toList)) sep.data.toList).length ≤ 140737488355328) :
 Calls Tryz.prog 55 #[.slice (some ⟨bk,0,none⟩) xs.length c,.string sep] w fun e w' => e = .returned (.string ⟨(Lib.join (xs.map (·.data.toList)) sep.data.toList).toArray⟩)∧Below w.heap.size w w' :=
 Any.strings_Join Tryz.laysJoin extraJ bk 0 c xs sep w (fun j x hx => by rw [Nat.zero_add];exact hcells j x hx) hbk (by omega) hcap hlen
theorem strimR_any (s:ByteArray) (c:UInt8) (hc:c.toNat < 128) (w:World) (hs:s.size ≤ 9223372036854775807) :
 Calls Tryz.prog 53 #[.string s,.string ⟨#[c]⟩] w fun e w' => e = .returned (.string ⟨(Lib.trimRightB s.data.toList c).toArray⟩)∧w' = w:=Any.strings_TrimRight_one Tryz.laysTrimR s c hc w hs
def encSt (s:ByteArray):List Value:=[.string s]
theorem encSt_len:∀ s,(encSt s).length = 1:=fun _ => rfl
theorem encSt_one:∀ s,∀ v ∈ encSt s,v.oneCell' = true:=fun s v hv => by obtain rfl:=List.mem_singleton.1 hv;rfl
theorem info_str1:(Tryz.prog.info? 9).map (fun i => (i.zero,i.size,i.bytes)) = some (some (.string ⟨#[]⟩),1,16):=by kernel_rfl
theorem u8_dec (n:Nat):u8 (decI n) = Lib.decDigits n:=by
 unfold u8
 rw [← digS_nums]
 rfl
theorem u8_join:∀ l:List Nat,l ≠ []→u8 (joinI l) = Lib.join (l.map Lib.decDigits) [59]
 | [],h => absurd rfl h
 | [n],_ => by
   rw [show joinI [n] = decI n from rfl,u8_dec]
   simp [Lib.join_one]
 | n :: m :: l,_ => by
   rw [show joinI (n :: m :: l) = decI n ++ ([59] ++ joinI (m :: l)) from rfl,u8_append,u8_append,u8_dec,u8_join (m :: l) (by simp)]
   simp only [List.map_cons,Lib.join_cons]
   rw [show u8 [59] = [59] from rfl]
   simp [Lib.joinTail]
theorem flat_at1 {α:Type} {enc:α→List Value} (h1:∀ a,(enc a).length = 1) {xs:List α} {j:Nat} {x:α} (h:xs[j]? = some x) {v:Value} (hv:(enc x)[0]? = some v):(flat enc xs)[j]? = some v:=by
 have:=flat_at2 h1 xs j x 0 h (by decide)
 rw [Nat.mul_one,Nat.add_zero] at this
 rw [this];exact hv
section
variable {w:World}
set_option maxHeartbeats 3200000 in
theorem ajoin_any {b off:Nat} {l:List Nat} (hG:GrAt encZ 1 w (some ⟨b,off,none⟩) (ints l)) (ca:Nat) (h0:0 < l.length) (hz:l.length ≤ 32) (hn:∀ n ∈ l,n ≤ 65535) (ht:TabP w) :
 Calls Tryz.prog 317 #[.slice (some ⟨b,off,none⟩) l.length ca] w fun e w' => e = .returned (.string (strOfNums (joinI l)))∧Below w.heap.size w w':=by
 obtain ⟨j0,hj,gz0,gz1,gz2⟩:=info_parts info_str1
 have hil:(ints l).length = l.length:=by unfold ints;simp
 have HC:Hid (∀ k,k < l.length→w.cell? ⟨b,off + k,none⟩ = some (.int .i64 (l.getD k 0:Nat))):=Hd (fun k hk => by
  obtain ⟨b',off',h1,h2⟩:=gr_num hG (i:=k) (by omega)
  injection h1 with h1
  injection h1 with e1 e2
  subst e1 e2
  rw [h2]
  unfold ints
  rw [List.getD_eq_getElem?_getD,List.getD_eq_getElem?_getD,List.getElem?_map,List.getElem?_eq_getElem hk]
  rfl)
 have HI:Hid (∀ k w',k < l.length→TabP w'→Calls Tryz.prog 249 #[.int .i64 (l.getD k 0:Nat)] w' fun e w2 => e = .returned (.string (digS (l.getD k 0)))∧Below w'.heap.size w' w2):=Hd (fun k w' hk ht => itoa_any _ (by
  have:=hn _ (List.getElem_mem hk)
  rw [List.getD_eq_getElem?_getD,List.getElem?_eq_getElem hk]
  show l[k] ≤ _
  omega) w' ht)
 obtain ⟨X,hX⟩:∃ X:Nat→List ByteArray,X = fun k => (l.take k).map digS:=⟨_,rfl⟩
 have HXS:Hid (∀ k,k < l.length→X (k + 1) = X k ++ [digS (l.getD k 0)]):=Hd (fun k hk => by rw [hX];simp only [];rw [List.take_succ_eq_append_getElem hk,List.map_append];congr 2;rw [List.getD_eq_getElem?_getD,List.getElem?_eq_getElem hk];rfl)
 have HX0:Hid (X 0 = []):=Hd (by rw [hX];rfl)
 have HXL:Hid ((X l.length).length = l.length):=Hd (by rw [hX];simp)
 have HXE:Hid ((Lib.join ((X l.length).map (·.data.toList)) [59]).length ≤ 1000∧(⟨(Lib.join ((X l.length).map (·.data.toList)) [59]).toArray⟩:ByteArray) = strOfNums (joinI l)):=Hd (by
  have e:Lib.join ((X l.length).map (·.data.toList)) [59] = u8 (joinI l):=by
   rw [u8_join l (fun e => by rw [e] at h0;simp at h0),hX]
   simp only []
   rw [List.take_length,List.map_map]
   rfl
  rw [e]
  have:=joinI_len l hn
  refine ⟨by rw [u8_len];omega,?_⟩
  unfold u8
  rfl)
 have HT:=Hd ht
 obtain ⟨s1,hs1⟩:∃ s1,strOfNums (joinI l) = s1:=⟨_,rfl⟩
 rw [hs1] at HXE ⊢
 obtain ⟨L,hL⟩:∃ L,l.length = L:=⟨_,rfl⟩
 rw [hL] at h0 hz HC HI HXS HXL HXE ⊢
 have HLZ:=Hd (And.intro h0 hz)
 clear hG hX hL hil h0 hz hn ht hs1
 go_enter Tryz.func317,Tryz.ntmps317
 go_wp2_with fail
 go_loopw [3,5,8] (fun s3 _ s8 wr => ∃ k:Nat,s8 = .int .i64 k∧k ≤ L∧wr.ownsRow w.heap.size 9 1 s3 k (flat encSt (X k))∧Below w.heap.size w wr) (fun _ _ s8 _ => L - (intOf s8).toNat)
 case atStart => exact ⟨0,rfl,Nat.zero_le _,by rw [HX0.out];exact World.ownsRow_nil _ _ _ _,Below.refl _ _⟩
 case round =>
  obtain ⟨k,rfl,hk,hO,hB⟩:=hrel
  obtain ⟨bx,rfl⟩:∃ bx:Value × Unit,u3 = bx.1:=⟨(u3,()),rfl⟩
  have HO:=Hd hO
  have HB:=Hd hB
  have hwk:IntKind.i64.wrap ((k:Int) + 1) = (k:Int) + 1:=IntWalk.i64_in _ (by have:=HLZ.out.2;omega)
  clear hO hB
  by_cases hlt:k < L
  · have hltI:(k:Int) < (L:Int):=by omega
    have hcell:=holda HB.out (HC.out k hlt)
    have HIK:=Hd (HI.out k wr hlt (HT.out.below HB.out))
    have HXK:=Hd (HXS.out k hlt)
    obtain ⟨n,hn⟩:∃ n:Nat,l.getD k 0 = n:=⟨_,rfl⟩
    rw [hn] at hcell HIK HXK
    obtain ⟨d,hd⟩:∃ d,digS n = d:=⟨_,rfl⟩
    rw [hd] at HIK HXK
    have HSZ:=Hd HB.out.size
    clear hn hd
    go_upto_region 5 with fail
    refine wp_region_lit ?_
    refine wpList_valG (bx.1) (by rfl) (by rfl) ?_
    simp only [Act.put,List.setIfInBounds_toArray,List.set_cons_zero,List.set_cons_succ]
    refine wpList_valG (.int .i64 n) (by rfl) (by rfl) ?_
    simp only [Act.put,List.setIfInBounds_toArray,List.set_cons_zero,List.set_cons_succ]
    refine wpList_callE rfl 249 #[.int .i64 n] (by go_simp) (HIK.out.mono (fun e w' h => (⟨_,h.1,rfl,h.2⟩:∃ v,e = .returned v∧v = .string d∧Below wr.heap.size wr w'))) ?_
    rintro v5 w5 ⟨rfl,hb5⟩
    simp only [Act.put,List.setIfInBounds_toArray,List.set_cons_zero,List.set_cons_succ]
    have hO5:=owns_mod HO.out (Mod.of_below (X:=[]) hb5) (fun _ _ h => by cases h)
    have HO3:=Hd (owns_mod hO5 (Mod.of_below (X:=[]) (below_allocs (Below.refl w5.heap.size w5) (.cells #[.string d] 9))) (fun _ _ h => by cases h))
    have HBX:=Hd (below_allocs (below_tail HB.out hb5) (.cells #[.string d] 9))
    have HSZ5:=Hd hb5.size
    clear hO5 hb5
    refine wpList_actG (.slice (some ⟨w5.heap.size,0,none⟩) 1 1) (w5.alloc (.cells #[.string d] 9)) (by rfl) (by go_simp) ?_
    simp only [Act.put,List.setIfInBounds_toArray,List.set_cons_zero,List.set_cons_succ]
    refine wpList_append_g (o:=⟨some 16,_,_,_,_,_⟩) rfl (.tmp 12) (.tmp 15) 109 rfl w.heap.size 9 j0 _ 1 16 Tryz.underlying109 hj gz0 gz1 gz2 rfl (by decide) bx.1 k (flat encSt (X k)) rfl HO3.out ⟨w5.heap.size,0,none⟩ 1 1 [.string d] rfl rfl (fun j u hj => by rw [add_lit',Nat.zero_add];exact (at_ (hp_new rfl) j u (by simpa using hj)).1) (encSt_one d) (by have:=HLZ.out.2;simp only [maxLen];omega) (by have:=HLZ.out.2;omega) (by have:=HSZ.out;have:=HSZ5.out;simp at *;omega) ?_
    intro v' w7 ho hg hv'
    have HO7:Hid (w7.ownsRow w.heap.size 9 1 v' (k + 1) (flat encSt (X (k + 1)))):=Hd (by rw [HXK.out,flat_append];exact ho)
    have HB7:=Hd (HBX.out.grown hg HBX.out.size (fun b hb => (World.ownsRow.lt (show World.ownsRow _ _ _ _ _ _ _ from HO3.out) b hb).1))
    simp only [Act.put,List.setIfInBounds_toArray,List.set_cons_zero,List.set_cons_succ]
    clear ho hg hv'
    go_wp2
    go_roundw
    case rel => exact ⟨k + 1,by go_num,by omega,HO7.out,HB7.out⟩
    case measure => simp [intOf];omega
  · have hltI:¬ (k:Int) < (L:Int):=by omega
    obtain rfl:k = L:=by omega
    obtain ⟨b8,c8,hv8⟩:=own_form HO.out HLZ.out.1
    obtain ⟨bv,bu⟩:=bx
    simp only at hv8
    subst hv8
    have hcc:=own_cap HO.out
    have hlt8:=World.ownsRow.lt (show World.ownsRow _ _ _ _ _ _ _ from HO.out) b8 rfl
    have hJ:=sjoin_any b8 c8 (X k) ⟨#[59]⟩ wr (fun j x hx => by
     have:=World.ownsRow.cells HO.out (g:=b8) rfl j (.string x) (flat_at1 encSt_len hx rfl)
     rw [add_lit',Nat.zero_add] at this
     exact this) hlt8.2 (by rw [HXL.out];have:=HLZ.out.2;omega) (by rw [HXL.out];exact hcc) (by have:=HXE.out.1;exact Nat.le_trans this (by decide))
    rw [HXL.out,show (⟨(Lib.join ((X k).map (·.data.toList)) (⟨#[59]⟩:ByteArray).data.toList).toArray⟩:ByteArray) = s1 from HXE.out.2] at hJ
    have HJ:=Hd hJ
    clear hJ hcc hlt8
    go_wp2_with (go_at_call 55;(with_reducible refine HJ.out.mono ?_);rintro e w9 ⟨rfl,hb⟩;have HB9:=Hd (below_tail HB.out hb);clear hb)
    go_ret
    exact ⟨rfl,HB9.out⟩
end
end Go.Proofs.YtaefcahblmopfaaGreatDoor
