/- Joined by a tool of this claim out of smaller texts. Conditions: as stated. -/
import Derived.Test.YtaefcahblmopfaaGreatDoorDp29
import Derived.Test.YtaefcahblmopfaaGreatDoorRows
set_option linter.unusedVariables false
set_option linter.unusedSimpArgs false
set_option maxRecDepth 100000
open Go.Lib renaming hid → Hd
namespace Go.Proofs.YtaefcahblmopfaaGreatDoor
open Go.RowKit Go.ChangeShapes Go.WideShapes Go.Deep
section
variable {H:Type} {enc:TypeId × Value→H} {P:Program} {w:World} {base:Nat} {spare:Nat→Bool} {held:Bool}
theorem bulk_partN {d:DataW H} {l:List (DataW H)} (h:d ∈ l):Rows.uptoBulk d ≤ Rows.uptoBulkAll l:=by
 induction l with
 | nil => cases h
 | cons x r ih =>
   simp only [Rows.uptoBulkAll]
   rcases List.mem_cons.1 h with e | e
   · subst e;omega
   · have:=ih e;omega
theorem bulk_sliceN {n:Nat} {D:Nat→DataW H} {rest:List (DataW H)} {i:Nat} (hi:i < n):Rows.uptoBulk (D i) ≤ Rows.uptoBulk (.slice ((List.range n).map D) rest):=by
 have h1:=bulk_partN (List.mem_map.2 ⟨i,List.mem_range.2 hi,rfl⟩:D i ∈ (List.range n).map D)
 simp only [Rows.uptoBulk]
 omega
theorem bulk_pos (d:DataW H):1 ≤ Rows.uptoBulk d:=by
 cases d with
 | lit l => cases l <;> simp [Rows.uptoBulk]
 | _ => simp [Rows.uptoBulk]
theorem bulk_len:∀ l:List (DataW H),l.length ≤ Rows.uptoBulkAll l
 | [] => Nat.zero_le _
 | d :: r => by
   have h1:=bulk_pos d
   have h2:=bulk_len r
   simp only [Rows.uptoBulkAll,List.length_cons]
   omega
theorem bulk_lenS (n:Nat) (D:Nat→DataW H) (rest:List (DataW H)):n ≤ Rows.uptoBulk (.slice ((List.range n).map D) rest):=by
 have h1:=bulk_len ((List.range n).map D)
 rw [List.length_map,List.length_range] at h1
 simp only [Rows.uptoBulk]
 omega
theorem open_elemsN {b0:Nat} {r:Reach} {t e:TypeId} {v:Value} {d:DataW H} {p:List MemPlace} (ht:P.underlying t = some (.slice e)) (hpos:0 < P.cellsOf e)
 (hv:Value.okWide P w r b0 t v) (h:DataW.Trod enc P w base spare held t v d p) :
 ∃ (A:Option Addr) (len cap:Nat),v = .slice A len cap∧len ≤ cap∧cap ≤ maxLen∧len ≤ Rows.uptoBulk d ∧
  (0 < len→∃ b off,A = some ⟨b,off,none⟩∧∀ i,i < len→∃ (cs:List Value) (y:DataW H × List MemPlace) (n:Nat),cs.length = P.cellsOf e∧(∀ j,j < P.cellsOf e→w.cell? ⟨b,off + i * P.cellsOf e + j,none⟩ = cs[j]?)∧DataW.trod enc P w base spare held n e cs = some y∧Rows.uptoBulk y.1 ≤ Rows.uptoBulk d):=by
 obtain ⟨a0,len,cap,rfl⟩:=okWide_slice ht hv
 obtain ⟨fuel,hf⟩:=h
 rcases open_slice ht hf with ⟨hcs,hx⟩ | ⟨a,len',cap',m,n,D,Pl,hcs,_,hl,hm,hmm,hx,hi⟩
 · simp only [Value.cells,List.cons.injEq,and_true,Value.slice.injEq] at hcs
   obtain ⟨rfl,rfl,rfl⟩:=hcs
   exact ⟨none,0,0,rfl,Nat.le_refl _,Nat.zero_le _,Nat.zero_le _,fun h => absurd h (by omega)⟩
 · simp only [Value.cells,List.cons.injEq,and_true,Value.slice.injEq] at hcs
   obtain ⟨rfl,rfl,rfl⟩:=hcs
   refine ⟨some a,len,cap,rfl,hl,hm,by rw [(Prod.mk.inj hx).1];exact bulk_lenS _ _ _,fun h0 => ?_⟩
   have hlm:len ≤ m:=by rw [hmm];split <;> omega
   have hspot:a.spot = none:=by
    obtain ⟨cs',hc,_⟩:=hi 0 (by omega)
    obtain ⟨_,hcl,hat⟩:=World.cells?_some hc
    have h1:=hat 0 hpos
    have h2:cs'[0]? = some (cs'[0]'(by omega)):=List.getElem?_eq_getElem (by omega)
    rw [h2] at h1
    have h3:=World.cell?_spot h1
    simpa [Addr.add] using h3
   obtain ⟨b,off,spot⟩:=a
   simp only at hspot
   subst hspot
   refine ⟨b,off,rfl,fun i hil => ?_⟩
   obtain ⟨cs',hc,htr⟩:=hi i (by omega)
   obtain ⟨_,hcl,hat⟩:=World.cells?_some hc
   refine ⟨cs',_,n,hcl,fun j hj => ?_,htr,?_⟩
   · rw [← hat j hj,Go.Deep.add_add]
     congr 1
     unfold Addr.add
     by_cases hz:i * P.cellsOf e + j = 0
     · rw [if_pos hz]
       have h1:i * P.cellsOf e = 0:=by omega
       have h2:j = 0:=by omega
       simp
     · rw [if_neg hz]
       simp [Nat.add_assoc]
   · rw [(Prod.mk.inj hx).1]
     exact bulk_sliceN hil
theorem cell_of_trodN {n:Nat} {cs:List Value} {x:DataW H × List MemPlace} (h:DataW.trod enc Tryz.prog w base spare held n 65 cs = some x):∃ c:Cl,cs = clList c∧c.more.size ≤ Rows.uptoBulk x.1:=by
 obtain ⟨c,hc⟩:=cell_of_trod h
 refine ⟨c,hc,?_⟩
 obtain ⟨xs,m,_,hx,hl,hlen,hf⟩:=DataW.trod_struct Tryz.underlying65 h
 subst hc
 match xs,hlen with
 | [y0,y1,y2,y3],_ =>
   have h1:=hf 1 _ rfl
   simp [co_string,clList] at h1
   obtain ⟨s,e1,e2,-⟩:=DataW.trod_string Tryz.underlying9 h1
   simp at e1
   subst e1
   subst e2
   subst hx
   simp only [List.map_cons,List.map_nil,Rows.uptoBulk,Rows.uptoBulkAll]
   have:c.more.data.toList.length = c.more.size:=by rw [Array.length_toList];rfl
   omega
theorem cells_of_trodN {n:Nat} {v:Value} {x:DataW H × List MemPlace} (h:DataW.trod enc Tryz.prog w base spare held n 50 [v] = some x) :
 ∃ (A:Option Addr) (l:List Cl) (cap:Nat),v = .slice A l.length cap∧l.length ≤ 9223372036854775807∧ClsAt w A l∧(∀ c ∈ l,c.more.size ≤ Rows.uptoBulk x.1)∧l.length ≤ cap∧l.length ≤ Rows.uptoBulk x.1:=by
 rcases open_slice Tryz.underlying50 h with ⟨hcs,hx⟩ | ⟨a,len,cap,m,n',D,Pl,hcs,_,hl,hm,hmm,hx,hi⟩
 · simp only [List.cons.injEq,and_true] at hcs
   exact ⟨none,[],0,hcs,Nat.zero_le _,fun h => absurd h (by simp),fun c hc => (by cases hc),Nat.zero_le _,Nat.zero_le _⟩
 · simp only [List.cons.injEq,and_true] at hcs
   subst hcs
   rw [co_cell] at hi
   unfold maxLen at hm
   have hlm:len ≤ m:=by rw [hmm];split <;> omega
   rcases Nat.eq_zero_or_pos len with h0 | h0
   · subst h0
     exact ⟨some a,[],cap,rfl,Nat.zero_le _,fun h => absurd h (by simp),fun c hc => (by cases hc),Nat.zero_le _,Nat.zero_le _⟩
   · have hspot:a.spot = none:=by
      obtain ⟨cs',hc,_⟩:=hi 0 (by omega)
      obtain ⟨_,hcl,hat⟩:=World.cells?_some hc
      have h1:=hat 0 (by omega)
      have h2:cs'[0]? = some (cs'[0]'(by omega)):=List.getElem?_eq_getElem (by omega)
      rw [h2] at h1
      have h3:=World.cell?_spot h1
      simpa [Addr.add] using h3
     obtain ⟨b,off,spot⟩:=a
     simp only at hspot
     subst hspot
     have hadd:∀ i j:Nat,((⟨b,off,none⟩:Addr).add (i * 8)).add j = ⟨b,off + i * 8 + j,none⟩:=by
      intro i j
      rw [Go.Deep.add_add]
      unfold Addr.add
      by_cases hz:i * 8 + j = 0
      · rw [if_pos hz];simp
      · rw [if_neg hz];simp [Nat.add_assoc]
     obtain ⟨l,hll,hq⟩:=list_of_forall (Q:=fun i (c:Cl) => ClAt w b (off + i * 8) c∧c.more.size ≤ Rows.uptoBulk x.1) len (fun i hi2 => by
      obtain ⟨cs',hc,htr⟩:=hi i (by omega)
      obtain ⟨_,hcl,hat⟩:=World.cells?_some hc
      obtain ⟨c,rfl,hcb⟩:=cell_of_trodN htr
      have hat':∀ j,j < 8→w.cell? ⟨b,off + i * 8 + j,none⟩ = (clList c)[j]?:=fun j hj => by rw [← hadd];exact hat j hj
      refine ⟨c,⟨hat' 0 (by omega),hat' 1 (by omega),hat' 2 (by omega),hat' 3 (by omega),hat' 4 (by omega),hat' 5 (by omega),hat' 6 (by omega),hat' 7 (by omega)⟩,?_⟩
      rw [hx]
      exact Nat.le_trans hcb (bulk_sliceN hi2))
     subst hll
     refine ⟨_,l,cap,rfl,by omega,fun _ => ⟨b,off,rfl,fun i c hc => (hq i c hc).1⟩,fun c hc => ?_,hl,by rw [hx];exact bulk_lenS _ _ _⟩
     obtain ⟨i,hi⟩:=List.mem_iff_getElem?.1 hc
     exact (hq i c hi).2
theorem row_of_trodN {n:Nat} {cs:List Value} {x:DataW H × List MemPlace} (h:DataW.trod enc Tryz.prog w base spare held n 52 cs = some x) :
 ∃ r:Rw,cs = [.slice r.A r.cs.length r.cap,.bool r.cont]∧ClsAt w r.A r.cs∧r.cs.length ≤ 9223372036854775807∧(∀ c ∈ r.cs,c.more.size ≤ Rows.uptoBulk x.1)∧r.cs.length ≤ r.cap∧r.cs.length ≤ Rows.uptoBulk x.1:=by
 obtain ⟨xs,m,_,hx,hl,hlen,hf⟩:=DataW.trod_struct Tryz.underlying52 h
 rw [co_row] at hl
 match cs,hl with
 | [v0,v1],_ =>
   match xs,hlen with
   | [y0,y1],_ =>
     have h0:=hf 0 _ rfl
     have h1:=hf 1 _ rfl
     simp [co_cells,co_bool] at h0 h1
     obtain ⟨A,l,cap,rfl,hz,hc,hb,hcap,hln⟩:=cells_of_trodN h0
     obtain ⟨b,e1,-,-⟩:=DataW.trod_bool Tryz.underlying4 h1
     simp at e1
     subst e1
     refine ⟨⟨A,l,cap,b⟩,rfl,hc,hz,fun c hcm => ?_,hcap,?_⟩
     · have:=hb c hcm
       subst hx
       simp only [List.map_cons,List.map_nil,Rows.uptoBulk,Rows.uptoBulkAll]
       omega
     · subst hx
       simp only [List.map_cons,List.map_nil,Rows.uptoBulk,Rows.uptoBulkAll]
       show l.length ≤ _
       omega
theorem open_rwsN {b0:Nat} {r:Reach} {v:Value} {d:DataW H} {p:List MemPlace} (hv:Value.okWide Tryz.prog w r b0 46 v) (h:DataW.Trod enc Tryz.prog w base spare held 46 v d p) :
 ∃ (A:Option Addr) (l:List Rw) (cap:Nat),v = .slice A l.length cap∧l.length ≤ 9223372036854775807∧RwsAt w A l∧l.length ≤ Rows.uptoBulk d∧∀ r ∈ l,(∀ c ∈ r.cs,c.more.size ≤ Rows.uptoBulk d)∧r.cs.length ≤ r.cap∧r.cs.length ≤ Rows.uptoBulk d:=by
 obtain ⟨A,len,cap,rfl,hl,hm,hbk,hc⟩:=open_elemsN Tryz.underlying46 (by rw [co_row];decide) hv h
 unfold maxLen at hm
 rw [co_row] at hc
 rcases Nat.eq_zero_or_pos len with h0 | h0
 · subst h0
   exact ⟨A,[],cap,rfl,Nat.zero_le _,fun h => absurd h (by simp),Nat.zero_le _,fun c hc => by cases hc⟩
 · obtain ⟨b,off,rfl,hc2⟩:=hc h0
   obtain ⟨l,hll,hq⟩:=list_of_forall (Q:=fun i (c:Rw) => RwAt w b (off + i * 2) c∧(∀ x ∈ c.cs,x.more.size ≤ Rows.uptoBulk d)∧c.cs.length ≤ c.cap∧c.cs.length ≤ Rows.uptoBulk d) len (fun i hi => by
    obtain ⟨cs,y,n,hcl,hat,htr,hby⟩:=hc2 i hi
    obtain ⟨c,rfl,hcc,hz,hcb,hcp,hcl2⟩:=row_of_trodN htr
    exact ⟨c,⟨⟨hat 0 (by omega),hat 1 (by omega)⟩,hcc,hz⟩,fun x hx => Nat.le_trans (hcb x hx) hby,hcp,Nat.le_trans hcl2 hby⟩)
   subst hll
   refine ⟨_,l,cap,rfl,by omega,fun _ => ⟨b,off,rfl,fun i c hc => (hq i c hc).1⟩,hbk,fun r hr => ?_⟩
   obtain ⟨i,hi⟩:=List.mem_iff_getElem?.1 hr
   exact (hq i r hi).2
end
end Go.Proofs.YtaefcahblmopfaaGreatDoor
