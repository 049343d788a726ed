/- Joined by a tool of this claim out of smaller texts. Conditions: as stated. -/
import Derived.Test.YtffdblmdelgkaaaGreatRt20
import Derived.LoopN
import Derived.Deep.OwnRows
set_option linter.unusedVariables false
set_option linter.unusedSimpArgs false
set_option maxRecDepth 100000
open Go.Lib renaming hid → Hd
namespace Go.Proofs.YtffdblmdelgkaaaGreat
open Go.RowKit
structure Dv where
 D:Nat
 vl:Value
 vt:Value
 S:List Rh
def dcX (q:Dv):List Nat:=q.D :: (q.vl.ownBlock.toList ++ q.vt.ownBlock.toList)
structure DcO (base:Nat) (w:World) (q:Dv) (d:Dc):Prop where
 blk:w.heap[q.D]? = some (.cells #[q.vl,.int .i64 d.base,.int .i64 d.cols,.int .i64 d.room,.int .u64 (d.gone % 18446744073709551616),q.vt] 45 (0,0))
 hb:base ≤ q.D
 own:w.ownsRow base 50 2 q.vl q.S.length (flat encRh q.S)
 told:w.ownsRow base 88 3 q.vt d.told.length (flat encTl d.told)
 rl:q.S.map roOf = d.L
 rows:∀ r ∈ q.S,RcAt w r∧r.cs.length = d.cols
 cols2:2 ≤ d.cols
 cols1000:d.cols ≤ 1000
 gone0:0 ≤ d.gone
section
variable {base:Nat} {w:World} {q:Dv} {d:Dc}
theorem DcO.len (h:DcO base w q d):q.S.length = d.L.length:=by rw [← h.rl,List.length_map]
theorem DcO.vform (h:DcO base w q d):∃ A c,q.vl = .slice A q.S.length c:=row_form h.own
theorem DcO.nocel (h:DcO base w q d):NoCel w (dcX q):=by
 intro b hb cs f he
 rcases List.mem_cons.1 hb with rfl | hb
 · exact block_ne h.blk he (by decide) rfl
 rcases List.mem_append.1 hb with hb | hb
 · obtain ⟨cur,hc⟩:=own_block h.own (by simpa [Option.mem_toList] using hb)
   exact block_ne hc he (by decide) rfl
 · obtain ⟨cur,hc⟩:=own_block h.told (by simpa [Option.mem_toList] using hb)
   exact block_ne hc he (by decide) rfl
theorem DcO.lt (h:DcO base w q d):∀ b ∈ dcX q,base ≤ b∧b < w.heap.size:=by
 intro b hb
 rcases List.mem_cons.1 hb with rfl | hb
 · exact ⟨h.hb,(Array.getElem?_eq_some_iff.1 h.blk).1⟩
 rcases List.mem_append.1 hb with hb | hb
 · exact h.own.lt b (by simpa [Option.mem_toList] using hb)
 · exact h.told.lt b (by simpa [Option.mem_toList] using hb)
theorem DcO.mod {X:List Nat} {w':World} (h:DcO base w q d) (hm:Mod X w w') (hX:NoCel w X) (hd:∀ b ∈ dcX q,b ∉ X):DcO base w' q d :=
 ⟨(hm.block q.D (Array.getElem?_eq_some_iff.1 h.blk).1 (hd q.D (by simp [dcX]))).trans h.blk,h.hb,owns_mod h.own hm (fun b hb => hd b (by simp [dcX,hb])),owns_mod h.told hm (fun b hb => hd b (by simp [dcX,hb])),h.rl,fun r hr => ⟨(h.rows r hr).1.mod hm hX,(h.rows r hr).2⟩,h.cols2,h.cols1000,h.gone0⟩
theorem DcO.below {w':World} (h:DcO base w q d) (hb:Below w.heap.size w w'):DcO base w' q d:=h.mod (Mod.of_below (X:=[]) hb) (NoCel.nil w) (fun _ _ h => by cases h)
def DcRes (base:Nat) (w:World) (q:Dv) (d':Dc) (w':World):Prop :=
 ∃ q',q'.D = q.D∧DcO base w' q' d'∧Mod (dcX q) w w'∧∀ b ∈ dcX q',b ∈ dcX q ∨ w.heap.size ≤ b
def DcPost (base:Nat) (w:World) (q:Dv) (d':Dc) (e:Ending) (w':World):Prop:=e = .returned (.tuple #[])∧DcRes base w q d' w'
theorem DcO.res (h:DcO base w q d):DcRes base w q d w:=⟨q,rfl,h,Mod.refl _ _,fun b hb => .inl hb⟩
theorem DcO.res_below {w':World} (h:DcO base w q d) (hb:Below w.heap.size w w'):DcRes base w q d w':=⟨q,rfl,h.below hb,Mod.of_below hb,fun b hb => .inl hb⟩
theorem DcRes.trans {w1 w2:World} {q1:Dv} {d2:Dc} (h1:q1.D = q.D∧Mod (dcX q) w w1∧∀ b ∈ dcX q1,b ∈ dcX q ∨ w.heap.size ≤ b) (h2:DcRes base w1 q1 d2 w2):DcRes base w q d2 w2:=by
 obtain ⟨e1,hm,hx⟩:=h1
 obtain ⟨q2,a1,a3,a4,a5⟩:=h2
 refine ⟨q2,a1.trans e1,a3,hm.trans a4 hx,fun b hb => ?_⟩
 rcases a5 b hb with h | h
 · exact hx b h
 · exact .inr (Nat.le_trans hm.size h)
theorem DcRes.pre {w1 w2:World} {d2:Dc} (hb:Below w.heap.size w w1) (h2:DcRes base w1 q d2 w2):DcRes base w q d2 w2:=DcRes.trans ⟨rfl,Mod.of_below hb,fun b hb => .inl hb⟩ h2
theorem DcRes.post {w1 w2:World} {d2:Dc} (h:DcRes base w q d2 w1) (hb:Below w1.heap.size w1 w2):DcRes base w q d2 w2:=by
 obtain ⟨q',a1,a3,a4,a5⟩:=h
 exact ⟨q',a1,a3.below hb,a4.then_below hb,a5⟩
theorem dc_then {f:FuncId} {args:Array Value} {w1:World} {d1 d2:Dc} (hs:DcRes base w q d1 w1) (hc:∀ q1,q1.D = q.D→DcO base w1 q1 d1→Calls Tryz.prog f args w1 (DcPost base w1 q1 d2)):Calls Tryz.prog f args w1 (DcPost base w q d2):=by
 obtain ⟨q1,e1,h1,hm,hx⟩:=hs
 exact (hc q1 e1 h1).mono fun e w2 ⟨he,h2⟩ => ⟨he,DcRes.trans ⟨e1,hm,hx⟩ h2⟩
theorem DcRes.hold {w1:World} {d1:Dc} (hs:DcRes base w q d1 w1) {b o:Nat} {v:Value} (hb:b ∉ dcX q) (hc:w.cell? ⟨b,o,none⟩ = some v):w1.cell? ⟨b,o,none⟩ = some v:=by
 obtain ⟨q1,-,-,hm,-⟩:=hs
 exact hm.cell hb hc
theorem DcO.cells (h:DcO base w q d):(w.cell? ⟨q.D,0,none⟩ = some q.vl∧w.frozen? ⟨q.D,0,none⟩ = false)∧(w.cell? ⟨q.D,1,none⟩ = some (.int .i64 d.base)∧w.frozen? ⟨q.D,1,none⟩ = false)∧(w.cell? ⟨q.D,2,none⟩ = some (.int .i64 d.cols)∧w.frozen? ⟨q.D,2,none⟩ = false)∧(w.cell? ⟨q.D,3,none⟩ = some (.int .i64 d.room)∧w.frozen? ⟨q.D,3,none⟩ = false)∧(w.cell? ⟨q.D,4,none⟩ = some (.int .u64 (d.gone % 18446744073709551616))∧w.frozen? ⟨q.D,4,none⟩ = false)∧(w.cell? ⟨q.D,5,none⟩ = some q.vt∧w.frozen? ⟨q.D,5,none⟩ = false) :=
 ⟨at_ h.blk 0 _ rfl,at_ h.blk 1 _ rfl,at_ h.blk 2 _ rfl,at_ h.blk 3 _ rfl,at_ h.blk 4 _ rfl,at_ h.blk 5 _ rfl⟩
theorem rdRows_any (h:DcO base w q d) (hL:d.L.length ≤ 1000000) (hbs:d.base ≤ d.L.length):Calls Tryz.prog 48 #[.pointer (some ⟨q.D,0,none⟩)] w fun e w' => e = .returned (.int .i64 (dcRows d))∧Below w.heap.size w w':=by
 obtain ⟨A,c,hv⟩:=h.vform
 have hl:=h.len
 obtain ⟨⟨x0,-⟩,⟨x1,-⟩,-⟩:=h.cells
 rw [hv,hl] at x0
 have HD:=Hd (show dcRows d = (d.L.length:Int) - d.base from rfl)
 generalize dcRows d = R at HD ⊢
 have hR:(d.L.length:Int) - (d.base:Int) = R:=HD.out.symm
 have hwR:IntKind.i64.wrap R = R:=IntWalk.i64_in _ (by omega)
 clear h hl hv hbs
 go_enter Tryz.func48,Tryz.ntmps48
 go_upto_region 1 with fail
 refine wp_region_u 9 (fun w' => Below w.heap.size w w'∧w'.cell? ⟨q.D,0,none⟩ = some (.slice A d.L.length c)∧w'.cell? ⟨q.D,1,none⟩ = some (.int .i64 d.base)) (by kernel_rfl) (by kernel_rfl) ?_ ?_
 · exact ⟨(Below.refl _ _).drew,x0,x1⟩
 simp only [List.take_succ_cons,List.take_zero,List.drop_succ_cons,List.drop_zero]
 repeat (
  (first
   | refine seqU_skip (by rfl) ?_
   | (refine seqU_val ?_ (by rfl) ?_ ?_;rotate_left;(focus (intro w' hS;obtain ⟨_,_,_⟩:=hS;go_simp;first | done | with_reducible rfl))))
  simp only [Act.put,List.setIfInBounds_toArray,List.set_cons_zero,List.set_cons_succ])
 refine seqU_nil (fun w' hS => ?_)
 have HB:=Hd hS.1
 clear hS x0 x1
 go_wp2
 go_ret
 exact ⟨rfl,HB.out⟩
theorem rdIn_any (h:DcO base w q d) (hL:d.L.length ≤ 1000000) (hbs:d.base ≤ d.L.length) (y:Int):Calls Tryz.prog 28 #[.pointer (some ⟨q.D,0,none⟩),.int .i64 y] w fun e w' => e = .returned (.bool (dcIn d y))∧Below w.heap.size w w':=by
 have HR:=Hd (rdRows_any h hL hbs)
 unfold dcIn
 clear h
 by_cases hy:0 ≤ y
 · go_enter Tryz.func28,Tryz.ntmps28
   go_wp2_with (go_at_call 48;refine HR.out.mono ?_;rintro e w1 ⟨rfl,hb⟩;have HB:=Hd hb;clear hb)
   go_ret
   refine ⟨?_,HB.out⟩
   simp [hy]
 · have HB:=Hd (Below.refl w.heap.size w)
   go_enter Tryz.func28,Tryz.ntmps28
   go_wp2
   go_ret
   refine ⟨?_,HB.out⟩
   simp [hy]
   try (intro h;omega)
theorem DcO.screen {w':World} {S':List Rh} {L':List Ro} (h:DcO base w q d) (ho:w'.ownsRow base 50 2 q.vl S'.length (flat encRh S')) (hm:Mod q.vl.ownBlock.toList w w') (hs:S'.map roOf = L') (hr:∀ r ∈ S',RcAt w' r∧r.cs.length = d.cols) :
 DcRes base w q { d with L:=L' } w':=by
 have hX:NoCel w q.vl.ownBlock.toList:=fun b hb cs f he => h.nocel b (by simp [dcX,(Option.mem_toList.1 hb)]) cs f he
 have hvs:∀ b,q.vl.ownBlock = some b→∃ cur:Array Value,w.heap[b]? = some (.cells cur 50 (0,0)):=fun b hb => own_block h.own hb
 refine ⟨{ q with S:=S' },rfl,⟨(hm.block q.D (Array.getElem?_eq_some_iff.1 h.blk).1 (fun hb => ?_)).trans h.blk,h.hb,ho,owns_mod h.told hm (fun b hb hbX => ?_),hs,hr,h.cols2,h.cols1000,h.gone0⟩,hm.mono (fun b hb => ?_),fun b hb => .inl hb⟩
 · obtain ⟨cur,hc⟩:=hvs _ (Option.mem_toList.1 hb)
   exact block_ne h.blk hc (by decide) rfl
 · obtain ⟨cur,hc⟩:=hvs _ (Option.mem_toList.1 hbX)
   obtain ⟨cur2,hc2⟩:=own_block h.told hb
   exact block_ne hc2 hc (by decide) rfl
 · simp [dcX,Option.mem_toList.1 hb]
theorem DcO.setCont (h:DcO base w q d) {k gs c:Nat} (hv:q.vl = .slice (some ⟨gs,0,none⟩) q.S.length c) (hk:k < q.S.length) (b:Bool):DcRes base w q { d with L:=d.L.modify k (fun r => { r with cont:=b }) } (w.setCell ⟨gs,k * 2 + 1,none⟩ (.bool b)):=by
 have hx:q.S[k]? = some q.S[k]:=List.getElem?_eq_getElem hk
 have hM:Mod q.vl.ownBlock.toList w (w.setCell ⟨gs,k * 2 + 1,none⟩ (.bool b)):=(Mod.refl _ _).setCell (a:=⟨gs,k * 2 + 1,none⟩) (.inl (by rw [hv];simp [Value.ownBlock])) _
 have hX:NoCel w q.vl.ownBlock.toList:=fun x hx cs f he => h.nocel x (by simp [dcX,(Option.mem_toList.1 hx)]) cs f he
 have hown:=h.own
 rw [hv] at hown
 have h1:=owns_set1 hown (k * 2 + 1) (.bool b)
 rw [flat_set1 encRh_len q.S k q.S[k] { q.S[k] with cont:=b } 1 (.bool b) hx (by decide) rfl] at h1
 refine h.screen (S':=q.S.set k { q.S[k] with cont:=b }) (by rw [List.length_set,hv];exact h1) hM ?_ (fun r hr => ?_)
 · rw [← h.rl]
   refine List.ext_getElem? fun i => ?_
   rw [List.getElem?_map,List.getElem?_set,List.getElem?_modify,List.getElem?_map]
   by_cases hi:k = i
   · subst hi
     rw [if_pos rfl,if_pos hk,hx];simp [roOf]
   · rw [if_neg hi]
     cases q.S[i]? with
     | none => rfl
     | some x => simp [hi]
 · rcases List.mem_or_eq_of_mem_set hr with hr | rfl
   · exact ⟨(h.rows r hr).1.mod hM hX,(h.rows r hr).2⟩
   · have:=h.rows q.S[k] (List.getElem_mem hk)
     exact ⟨(this.1.mod hM hX).cont b,this.2⟩
theorem DcO.setRow (h:DcO base w q d) {k gs c:Nat} {r:Rh} (hv:q.vl = .slice (some ⟨gs,0,none⟩) q.S.length c) (hr:q.S[k]? = some r) {A:Option Addr} {cap:Nat} (F:List Cl→List Cl) (hF:(F r.cs).length = r.cs.length) (hc:RcAt w ⟨A,F r.cs,cap,r.cont⟩) :
 DcRes base w q { d with L:=d.L.modify k (fun r => { r with cs:=F r.cs }) } (w.setCell ⟨gs,k * 2,none⟩ (.slice A r.cs.length cap)):=by
 have hk:=(List.getElem?_eq_some_iff.1 hr).1
 have hM:Mod q.vl.ownBlock.toList w (w.setCell ⟨gs,k * 2,none⟩ (.slice A r.cs.length cap)):=(Mod.refl _ _).setCell (a:=⟨gs,k * 2,none⟩) (.inl (by rw [hv];simp [Value.ownBlock])) _
 have hX:NoCel w q.vl.ownBlock.toList:=fun x hx cs f he => h.nocel x (by simp [dcX,(Option.mem_toList.1 hx)]) cs f he
 have hown:=h.own
 rw [hv] at hown
 have h1:=owns_set1 hown (k * 2) (.slice A r.cs.length cap)
 have e0:=flat_set1 encRh_len q.S k r ⟨A,F r.cs,cap,r.cont⟩ 0 (.slice A r.cs.length cap) hr (by decide) (by simp [encRh,hF])
 rw [Nat.add_zero] at e0
 rw [e0] at h1
 refine h.screen (S':=q.S.set k ⟨A,F r.cs,cap,r.cont⟩) (by rw [List.length_set,hv];exact h1) hM ?_ (fun x hx => ?_)
 · rw [← h.rl]
   refine List.ext_getElem? fun i => ?_
   rw [List.getElem?_map,List.getElem?_set,List.getElem?_modify,List.getElem?_map]
   by_cases hi:k = i
   · subst hi
     rw [if_pos rfl,if_pos hk,hr];simp [roOf]
   · rw [if_neg hi]
     cases q.S[i]? with
     | none => rfl
     | some x => simp [hi]
 · rcases List.mem_or_eq_of_mem_set hx with hx | rfl
   · exact ⟨(h.rows x hx).1.mod hM hX,(h.rows x hx).2⟩
   · exact ⟨hc.mod hM hX,hF.trans (h.rows r (List.mem_of_getElem? hr)).2⟩
end
section
variable {base:Nat} {w:World} {q:Dv} {d:Dc}
theorem rdOf_any (h:DcO base w q d) (y:Nat) {r:Rh} (hr:q.S[d.base + y]? = some r) (hL:d.L.length ≤ 1000000):Calls Tryz.prog 31 #[.pointer (some ⟨q.D,0,none⟩),.int .i64 y] w fun e w' => e = .returned (.slice r.A r.cs.length r.cap)∧Below w.heap.size w w':=by
 have hk:=(List.getElem?_eq_some_iff.1 hr).1
 have hl:=h.len
 obtain ⟨gs,c,hv⟩:=own_form h.own (by omega)
 obtain ⟨⟨x0,-⟩,⟨x1,-⟩,-⟩:=h.cells
 have hown:=h.own
 rw [hv] at x0 hown
 obtain ⟨⟨y0,-⟩,-⟩:=owns_row hown hr
 obtain ⟨k,hk0⟩:∃ k:Nat,k = d.base + y:=⟨_,rfl⟩
 rw [← hk0] at y0 hk
 have hkI:(d.base:Int) + (y:Int) = (k:Int):=by omega
 have hwk:IntKind.i64.wrap (k:Int) = (k:Int):=IntWalk.i64_in _ (by omega)
 have hkl:(k:Int) < (q.S.length:Int):=by omega
 clear h hl hv hown hr hk0
 go_enter Tryz.func31,Tryz.ntmps31
 go_upto_region 1 with fail
 refine wp_region_u 13 (fun w' => Below w.heap.size w w'∧w'.cell? ⟨q.D,0,none⟩ = some (.slice (some ⟨gs,0,none⟩) q.S.length c)∧w'.cell? ⟨q.D,1,none⟩ = some (.int .i64 d.base)∧w'.cell? ⟨gs,k * 2,none⟩ = some (.slice r.A r.cs.length r.cap)) (by kernel_rfl) (by kernel_rfl) ?_ ?_
 · exact ⟨(Below.refl _ _).drew,x0,x1,y0⟩
 simp only [List.take_succ_cons,List.take_zero,List.drop_succ_cons,List.drop_zero]
 repeat (
  (first
   | refine seqU_skip (by rfl) ?_
   | (refine seqU_val ?_ (by rfl) ?_ ?_;rotate_left;(focus (intro w' hS;obtain ⟨_,_,_,_⟩:=hS;go_simp;first | done | with_reducible rfl))))
  simp only [Act.put,List.setIfInBounds_toArray,List.set_cons_zero,List.set_cons_succ])
 refine seqU_nil (fun w' hS => ?_)
 have HB:=Hd hS.1
 clear hS x0 x1 y0
 go_wp2
 go_ret
 exact ⟨rfl,HB.out⟩
theorem rdCells_any (h:DcO base w q d) (y:Nat) {r:Rh} (hr:q.S[d.base + y]? = some r) (hL:d.L.length ≤ 1000000) (A:Option Addr) (cap:Nat) (F:List Cl→List Cl) (hF:(F r.cs).length = r.cs.length) (hc:RcAt w ⟨A,F r.cs,cap,r.cont⟩) :
 Calls Tryz.prog 29 #[.pointer (some ⟨q.D,0,none⟩),.int .i64 y,.slice A r.cs.length cap] w (DcPost base w q { d with L:=d.L.modify (d.base + y) (fun r => { r with cs:=F r.cs }) }):=by
 have hk:=(List.getElem?_eq_some_iff.1 hr).1
 have hl:=h.len
 obtain ⟨gs,c,hv⟩:=own_form h.own (by omega)
 obtain ⟨⟨x0,-⟩,⟨x1,-⟩,-⟩:=h.cells
 have hown:=h.own
 have H:=Hd h
 have HV:=Hd hv
 have HR:=Hd hr
 have HF:=Hd hF
 have HC:=Hd hc
 rw [hv] at x0 hown
 obtain ⟨⟨y0,y0f⟩,-⟩:=owns_row hown hr
 have HY:=Hd (And.intro y0 y0f)
 obtain ⟨k,hk0⟩:∃ k:Nat,k = d.base + y:=⟨_,rfl⟩
 rw [← hk0] at HR HY ⊢
 rw [← hk0] at hk
 have hkI:(d.base:Int) + (y:Int) = (k:Int):=by omega
 have hwk:IntKind.i64.wrap (k:Int) = (k:Int):=IntWalk.i64_in _ (by omega)
 have hkl:(k:Int) < (q.S.length:Int):=by omega
 clear h hl hv hown hr hk0 y0 y0f hF hc
 go_enter Tryz.func29,Tryz.ntmps29
 go_upto_region 0 with fail
 refine wp_region_u 11 (fun w' => Below w.heap.size w w'∧w'.cell? ⟨q.D,0,none⟩ = some (.slice (some ⟨gs,0,none⟩) q.S.length c)∧w'.cell? ⟨q.D,1,none⟩ = some (.int .i64 d.base)) (by kernel_rfl) (by kernel_rfl) ?_ ?_
 · exact ⟨(Below.refl _ _).drew,x0,x1⟩
 simp only [List.take_succ_cons,List.take_zero,List.drop_succ_cons,List.drop_zero]
 repeat (
  (first
   | refine seqU_skip (by rfl) ?_
   | (refine seqU_val ?_ (by rfl) ?_ ?_;rotate_left;(focus (intro w' hS;obtain ⟨_,_,_⟩:=hS;go_simp;first | done | with_reducible rfl))))
  simp only [Act.put,List.setIfInBounds_toArray,List.set_cons_zero,List.set_cons_succ])
 refine seqU_nil (fun w' hS => ?_)
 have HB:=Hd hS.1
 obtain ⟨y0,y0f⟩:=hold HB.out HY.out
 clear hS x0 x1
 go_wp2
 go_end0
 have:=((H.out.below HB.out).setRow HV.out HR.out F HF.out (HC.out.below HB.out)).pre HB.out
 exact ⟨rfl,this⟩
theorem rdPart_any (h:DcO base w q d) (hL:d.L.length ≤ 1000000) (hbs:d.base ≤ d.L.length) (y:Int):Calls Tryz.prog 80 #[.pointer (some ⟨q.D,0,none⟩),.int .i64 y] w (DcPost base w q (dcPart d y)):=by
 have HIN:=Hd (rdIn_any h hL hbs y)
 cases hin:dcIn d y with
 | false =>
   rw [hin] at HIN
   have H:=Hd h
   have HC:=Hd (show dcPart d y = d from by unfold dcPart;rw [hin];rfl)
   clear h
   go_enter Tryz.func80,Tryz.ntmps80
   go_wp2_with (go_at_call 28;refine HIN.out.mono ?_;rintro e w1 ⟨rfl,hb⟩;have HB:=Hd hb;clear hb)
   go_end0
   rw [HC.out]
   exact ⟨rfl,H.out.res_below HB.out⟩
 | true =>
   rw [hin] at HIN
   have hy:0 ≤ y∧y < dcRows d:=by unfold dcIn at hin;simpa using hin
   have HC:=Hd (show dcPart d y = { d with L:=d.L.modify (d.base + y.toNat) (fun r => { r with cont:=false }) } from by unfold dcPart;rw [hin];rfl)
   obtain ⟨k0,rfl⟩:∃ k:Nat,y = k:=⟨y.toNat,by omega⟩
   have hl:=h.len
   have hkk:d.base + k0 < q.S.length:=by unfold dcRows at hy;omega
   rw [Int.toNat_natCast] at HC
   generalize dcPart d (k0:Int) = R at HC ⊢
   obtain ⟨gs,c,hv⟩:=own_form h.own (by omega)
   obtain ⟨⟨x0,x0f⟩,⟨x1,x1f⟩,-⟩:=h.cells
   have hown:=h.own
   have H:=Hd h
   have HV:=Hd hv
   rw [hv] at x0 hown
   obtain ⟨r0,hr0⟩:∃ r,q.S[d.base + k0]? = some r:=⟨_,List.getElem?_eq_getElem hkk⟩
   obtain ⟨-,y1⟩:=owns_row hown hr0
   clear hr0
   have HY:=Hd y1
   obtain ⟨k,hk0⟩:∃ k:Nat,k = d.base + k0:=⟨_,rfl⟩
   have HX:=Hd (And.intro x0 x1)
   rw [← hk0] at HC HY hkk
   have hkI:(d.base:Int) + (k0:Int) = (k:Int):=by omega
   have hwk:IntKind.i64.wrap (k:Int) = (k:Int):=IntWalk.i64_in _ (by omega)
   have hkl:(k:Int) < (q.S.length:Int):=by omega
   clear h hl hv hown hk0 y1 x0 x1 x0f x1f hy hin
   go_enter Tryz.func80,Tryz.ntmps80
   go_upto_region 1 with (go_at_call 28;refine HIN.out.mono ?_;rintro e w1 ⟨rfl,hb⟩;have HB:=Hd hb;have x0:=holda hb HX.out.1;have x1:=holda hb HX.out.2;clear hb)
   refine wp_region_u 10 (fun w' => Below w1.heap.size w1 w'∧w'.cell? ⟨q.D,0,none⟩ = some (.slice (some ⟨gs,0,none⟩) q.S.length c)∧w'.cell? ⟨q.D,1,none⟩ = some (.int .i64 d.base)) (by kernel_rfl) (by kernel_rfl) ?_ ?_
   · exact ⟨(Below.refl _ _).drew,x0,x1⟩
   simp only [List.take_succ_cons,List.take_zero,List.drop_succ_cons,List.drop_zero]
   repeat (
    (first
     | refine seqU_skip (by rfl) ?_
     | (refine seqU_val ?_ (by rfl) ?_ ?_;rotate_left;(focus (intro w' hS;obtain ⟨_,_,_⟩:=hS;go_simp;first | done | with_reducible rfl))))
    simp only [Act.put,List.setIfInBounds_toArray,List.set_cons_zero,List.set_cons_succ])
   refine seqU_nil (fun w' hS => ?_)
   have HB2:=Hd (below_tail HB.out hS.1)
   obtain ⟨y0,y0f⟩:=hold HB2.out HY.out
   clear hS x0 x1
   go_wp2
   go_end0
   have:=((H.out.below HB2.out).setCont HV.out hkk false).pre HB2.out
   rw [HC.out]
   exact ⟨rfl,this⟩
set_option maxHeartbeats 1600000 in
theorem rdblank_any (h:DcO base w q d) (b:Col) :
 Calls Tryz.prog 62 #[.pointer (some ⟨q.D,0,none⟩),.agg #[.int .i64 b.k,.int .i64 b.n]] w (BlankPost d.cols b w):=by
 obtain ⟨cols,hcols⟩:∃ c,c = d.cols:=⟨_,rfl⟩
 have h2:=h.cols2
 have h3:=h.cols1000
 obtain ⟨-,-,⟨x2,-⟩,-⟩:=h.cells
 rw [← hcols] at h2 h3 x2 ⊢
 clear h hcols
 have HBL:=Hd (fun w => rBlanks_any cols b w (by omega) h3)
 have x:=hp_old (o:=.cells #[.slice none 0 0,.bool false] 50) (hp_new (W:=w) (b:=w.heap.size) (o:=.cells #[.int .i64 b.k,.int .i64 b.n] 32) rfl)
 have y:=hp_new (W:=w.alloc (.cells #[.int .i64 b.k,.int .i64 b.n] 32)) (b:=w.heap.size + 1) (o:=.cells #[.slice none 0 0,.bool false] 50) (by simp)
 have hb0:=below_allocs (below_allocs (Below.refl w.heap.size w) (.cells #[.int .i64 b.k,.int .i64 b.n] 32)) (.cells #[.slice none 0 0,.bool false] 50)
 have HB:=Hd hb0
 have X2:=Hd (holda hb0 x2)
 have X0:=Hd (at_ x 0 _ rfl).1
 have X1:=Hd (at_ x 1 _ rfl).1
 have Y:=Hd y
 clear x y hb0 x2
 go_enter Tryz.func62,Tryz.ntmps62
 go_upto_region 1 with fail
 generalize World.alloc _ _ = W at HB X2 X0 X1 Y ⊢
 have x2:=X2.out
 have x0:=X0.out
 have x1:=X1.out
 refine wp_region_u 5 (fun w' => Below W.heap.size W w'∧w'.cell? ⟨q.D,2,none⟩ = some (.int .i64 cols)∧w'.cell? ⟨w.heap.size,0,none⟩ = some (.int .i64 b.k)∧w'.cell? ⟨w.heap.size,1,none⟩ = some (.int .i64 b.n)) (by kernel_rfl) (by kernel_rfl) ?_ ?_
 · exact ⟨(Below.refl _ _).drew,x2,x0,x1⟩
 simp only [List.take_succ_cons,List.take_zero,List.drop_succ_cons,List.drop_zero]
 repeat (
  (first
   | refine seqU_skip (by rfl) ?_
   | (refine seqU_val ?_ (by rfl) ?_ ?_;rotate_left;(focus (intro w' hS;obtain ⟨_,_,_,_⟩:=hS;go_simp;first | done | with_reducible rfl))))
  simp only [Act.put,List.setIfInBounds_toArray,List.set_cons_zero,List.set_cons_succ])
 refine seqU_nil (fun w' hS => ?_)
 have HB1:=Hd (below_tail HB.out hS.1)
 have HY:=Hd ((hS.1.block _ (lt_of_heap Y.out)).trans Y.out)
 clear hS x2 x0 x1 X2 X0 X1 Y
 go_wp2_with (go_at_call 113;refine (HBL.out _).mono ?_;rintro e w2 ⟨g,cap,rfl,hc,hb⟩;rw [List.length_replicate];have HC:=Hd hc;have HB2:=Hd hb
              have HY2:=Hd ((hb.block _ (lt_of_heap HY.out)).trans HY.out);obtain ⟨y0,y0f⟩:=at_ HY2.out 0 _ rfl;obtain ⟨y1,y1f⟩:=at_ HY2.out 1 _ rfl;clear hc hb)
 have hset:=set_two (u':=.slice (some ⟨g,0,none⟩) cols cap) (v':=.bool false) ⟨y0,y0f⟩ ⟨y1,y1f⟩
 have HB3:=below_set (below_set (below_tail HB1.out HB2.out) (show w.heap.size ≤ w.heap.size + 1 by omega) (o:=0) (.slice (some ⟨g,0,none⟩) cols cap)) (show w.heap.size ≤ w.heap.size + 1 by omega) (o:=1) (.bool false)
 refine bodyPost_ret (ret_row rfl _ _ (w.heap.size + 1) _ _ rfl hset.1.1 hset.2.1) rfl ⟨g,cap,rfl,(RcAt.of_own HC.out (by simp;omega) (fine_rep _ _) false).mod (X:=[w.heap.size + 1]) (mod_set2 (Mod.refl _ _) (.inl (by simp))) ?_,HB3⟩
 intro x hx cs' f he
 rw [List.mem_singleton.1 hx] at he
 exact block_ne HY2.out he (by decide) rfl
end
def RsO (B:Nat) (w:World) (v:Value) (X:List Rh):Prop:=w.ownsRow B 50 2 v X.length (flat encRh X)
theorem RsO.mod {B:Nat} {w w':World} {v:Value} {X:List Rh} {Z:List Nat} (h:RsO B w v X) (hm:Mod Z w w') (hZ:∀ g,v.ownBlock = some g→g ∉ Z):RsO B w' v X:=owns_mod h hm hZ
theorem RsO.below {B:Nat} {w w':World} {v:Value} {X:List Rh} (h:RsO B w v X) (hb:Below w.heap.size w w'):RsO B w' v X:=h.mod (Mod.of_below (X:=[]) hb) (fun _ _ h => by cases h)
theorem rows_src {w:World} {base gs n c:Nat} {S:List Rh} (h:w.ownsRow base 50 2 (.slice (some ⟨gs,0,none⟩) n c) n (flat encRh S)) (i m off:Nat) (hoff:0 < ((S.drop i).take m).length→off = i * 2) (j:Nat) (u:Value)
 (hj:(flat encRh ((S.drop i).take m))[j]? = some u):w.cell? ((⟨gs,off,none⟩:Addr).add j) = some u:=by
 have hlt:=(List.getElem?_eq_some_iff.1 hj).1
 rw [flat_len encRh_len] at hlt
 have hpos:0 < ((S.drop i).take m).length:=by omega
 rw [hoff hpos,add_lit']
 refine (owns_hold h ?_).1
 rw [← flat_take encRh_len,← flat_drop encRh_len,List.getElem?_take_of_lt,List.getElem?_drop] at hj
 · exact hj
 · simp only [List.length_take] at hlt;omega
section
variable {ops:Array Oper} {rest:List Oper} {o:Oper} {a:Act} {w:World} {Q:Exit→Act→World→Prop}
theorem wpList_rows (hgd:o.guard = none) (s x:Operand) (ho:o.op = .call { callee:=.builtin .append,args:=#[s,x],argTypes:=#[42,42] })
 (B:Nat) (v:Value) (X:List Rh) (hs:a.eval s = v) (hown:RsO B w v X) (ad:Addr) (m c:Nat) (Y:List Rh) (hx:a.eval x = .slice (some ad) m c) (hm:Y.length = m)
 (hnews:∀ j u,(flat encRh Y)[j]? = some u→w.cell? (ad.add j) = some u) (hlen:X.length + Y.length ≤ 4000000) (N:Nat) (hN:X.length + Y.length = N) (hB:B ≤ w.heap.size)
 (h:∀ A' c' w',RsO B w' (.slice A' N c') (X ++ Y)→Mod v.ownBlock.toList w w'→(∀ g,(Value.slice A' N c').ownBlock = some g→v.ownBlock = some g ∨ w.heap.size ≤ g)→wpList Tryz.prog ops Q rest (a.put o.dst (.slice A' N c')) w'):wpList Tryz.prog ops Q (o :: rest) a w:=by
 subst hm
 obtain ⟨j0,hj,gz0,gz1,gz2⟩:=info_parts info_rowz
 refine wpList_append_g hgd s x 42 ho B 50 j0 _ 2 32 Tryz.underlying42 hj gz0 gz1 gz2 rfl (by decide) v X.length (flat encRh X) hs hown ad Y.length c (flat encRh Y) hx (flat_len encRh_len Y) hnews (flat_one encRh_one Y) (by simp only [maxLen];omega) (by omega) hB ?_
 intro v' w' ho' hg hv'
 rw [← flat_append] at ho'
 obtain ⟨A',c',rfl⟩:=row_form ho'
 rw [hN] at ho' hv' ⊢
 exact h A' c' w' (by unfold RsO;rw [List.length_append,hN];exact ho') (Mod.of_grown hg (fun g hg => by rw [hg];simp)) hv'
theorem wpList_told (hgd:o.guard = none) (s x:Operand) (ho:o.op = .call { callee:=.builtin .append,args:=#[s,x],argTypes:=#[40,40] })
 (B:Nat) (v:Value) (X:List Tl) (hs:a.eval s = v) (hown:w.ownsRow B 88 3 v X.length (flat encTl X)) (g c:Nat) (t:Tl) (hx:a.eval x = .slice (some ⟨g,0,none⟩) 1 c)
 (hnew:w.heap[g]? = some (.cells (encTl t).toArray 88 (0,0))) (hlen:X.length ≤ 4000000) (hB:B ≤ w.heap.size)
 (h:∀ A' c' w',w'.ownsRow B 88 3 (.slice A' (X.length + 1) c') (X.length + 1) (flat encTl (X ++ [t]))→Mod v.ownBlock.toList w w'→(∀ g,(Value.slice A' (X.length + 1) c').ownBlock = some g→v.ownBlock = some g ∨ w.heap.size ≤ g)→wpList Tryz.prog ops Q rest (a.put o.dst (.slice A' (X.length + 1) c')) w'):wpList Tryz.prog ops Q (o :: rest) a w:=by
 obtain ⟨j0,hj,gz0,gz1,gz2⟩:=info_parts info_shiftz
 refine wpList_append_g hgd s x 40 ho B 88 j0 _ 3 24 Tryz.underlying40 hj gz0 gz1 gz2 rfl (by decide) v X.length (flat encTl X) hs hown ⟨g,0,none⟩ 1 c (encTl t) hx rfl (fun j u hj => by rw [add_lit',Nat.zero_add];exact (whole_at hnew j u hj).1) (encTl_one _) (by simp only [maxLen];omega) (by omega) hB ?_
 intro v' w' ho' hg hv'
 rw [show flat encTl X ++ encTl t = flat encTl (X ++ [t]) by rw [flat_append];simp [flat]] at ho'
 obtain ⟨A',c',rfl⟩:=row_form ho'
 exact h A' c' w' ho' (Mod.of_grown hg (fun g hg => by rw [hg];simp)) hv'
end
section
variable {base:Nat} {w:World} {q:Dv} {d:Dc}
theorem DcO.relist {w1:World} {vl':Value} {S':List Rh} {L':List Ro} (h:DcO base w q d) (ho:w1.ownsRow base 50 2 vl' S'.length (flat encRh S')) (hm:Below w.heap.size w w1) (hv:∀ b,vl'.ownBlock = some b→w.heap.size ≤ b) (hs:S'.map roOf = L') (hr:∀ r ∈ S',RcAt w r∧r.cs.length = d.cols) :
 DcRes base w q { d with L:=L' } (w1.setCell ⟨q.D,0,none⟩ vl'):=by
 have hDl:=(Array.getElem?_eq_some_iff.1 h.blk).1
 have hm2:Mod [q.D] w (w1.setCell ⟨q.D,0,none⟩ vl'):=(Mod.of_below hm).setCell (a:=⟨q.D,0,none⟩) (.inl (by simp)) _
 have hX:NoCel w [q.D]:=fun b hb cs f he => h.nocel b (by rw [List.mem_singleton.1 hb];simp [dcX]) cs f he
 have hblk:=whole_set (cs:=[q.vl,.int .i64 d.base,.int .i64 d.cols,.int .i64 d.room,.int .u64 (d.gone % 18446744073709551616),q.vt]) ((hm.block q.D hDl).trans h.blk) 0 vl' (cs':=[vl',.int .i64 d.base,.int .i64 d.cols,.int .i64 d.room,.int .u64 (d.gone % 18446744073709551616),q.vt]) rfl
 refine ⟨{ q with vl:=vl',S:=S' },rfl,⟨hblk,h.hb,?_,owns_mod h.told hm2 (fun b hb hx => ?_),hs,fun r hr' => ⟨(hr r hr').1.mod hm2 hX,(hr r hr').2⟩,h.cols2,h.cols1000,h.gone0⟩,hm2.mono (fun b hb => by rw [List.mem_singleton.1 hb];simp [dcX]),fun b hb => ?_⟩
 · refine owns_mod ho ((Mod.refl [q.D] w1).setCell (a:=⟨q.D,0,none⟩) (.inl (by simp)) vl') (fun b hb hx => ?_)
   have:=hv b hb
   have:=List.mem_singleton.1 hx
   omega
 · obtain ⟨cur,hc⟩:=own_block h.told hb
   rw [List.mem_singleton.1 hx] at hc
   exact block_ne h.blk hc (by decide) rfl
 · rcases List.mem_cons.1 hb with rfl | hb
   · exact .inl (by simp [dcX])
   rcases List.mem_append.1 hb with hb | hb
   · exact .inr (hv b (Option.mem_toList.1 hb))
   · exact .inl (by simp [dcX,Option.mem_toList.1 hb])
theorem DcO.retold {w1:World} {vt':Value} {t':List Tl} (h:DcO base w q d) (ho:w1.ownsRow base 88 3 vt' t'.length (flat encTl t')) (hm:Mod q.vt.ownBlock.toList w w1) (hv:∀ b,vt'.ownBlock = some b→q.vt.ownBlock = some b ∨ w.heap.size ≤ b) :
 DcRes base w q { d with told:=t' } (w1.setCell ⟨q.D,5,none⟩ vt'):=by
 have hvt:∀ b,q.vt.ownBlock = some b→∃ cur:Array Value,w.heap[b]? = some (.cells cur 88 (0,0)):=fun b hb => own_block h.told hb
 have hPv:q.D ∉ q.vt.ownBlock.toList:=fun hb => by
  obtain ⟨cur,hc⟩:=hvt _ (Option.mem_toList.1 hb)
  exact block_ne h.blk hc (by decide) rfl
 have hPl:=(Array.getElem?_eq_some_iff.1 h.blk).1
 have hm2:Mod (q.D :: q.vt.ownBlock.toList) w (w1.setCell ⟨q.D,5,none⟩ vt'):=(hm.mono (fun b hb => by simp [Option.mem_toList.1 hb])).setCell (a:=⟨q.D,5,none⟩) (.inl (by simp)) _
 have hX:NoCel w (q.D :: q.vt.ownBlock.toList):=fun b hb cs f he => by
  refine h.nocel b ?_ cs f he
  rcases List.mem_cons.1 hb with rfl | hb
  · simp [dcX]
  · simp [dcX,Option.mem_toList.1 hb]
 have hblk:=whole_set (cs:=[q.vl,.int .i64 d.base,.int .i64 d.cols,.int .i64 d.room,.int .u64 (d.gone % 18446744073709551616),q.vt]) ((hm.block q.D hPl hPv).trans h.blk) 5 vt' (cs':=[q.vl,.int .i64 d.base,.int .i64 d.cols,.int .i64 d.room,.int .u64 (d.gone % 18446744073709551616),vt']) rfl
 refine ⟨{ q with vt:=vt' },rfl,⟨hblk,h.hb,owns_mod h.own hm2 (fun b hb hx => ?_),?_,h.rl,fun r hr => ⟨(h.rows r hr).1.mod hm2 hX,(h.rows r hr).2⟩,h.cols2,h.cols1000,h.gone0⟩,hm2.mono (fun b hb => ?_),fun b hb => ?_⟩
 · obtain ⟨cur,hc⟩:=own_block h.own hb
   rcases List.mem_cons.1 hx with rfl | hx
   · exact block_ne h.blk hc (by decide) rfl
   · obtain ⟨cur2,hc2⟩:=hvt _ (Option.mem_toList.1 hx)
     exact block_ne hc2 hc (by decide) rfl
 · refine owns_mod ho ((Mod.refl [q.D] w1).setCell (a:=⟨q.D,5,none⟩) (.inl (by simp)) vt') (fun b hb hx => ?_)
   have e:=List.mem_singleton.1 hx
   rcases hv b hb with h1 | h1
   · exact hPv (by rw [← e];simp [h1])
   · omega
 · rcases List.mem_cons.1 hb with rfl | hb
   · simp [dcX]
   · simp [dcX,Option.mem_toList.1 hb]
 · rcases List.mem_cons.1 hb with rfl | hb
   · exact .inl (by simp [dcX])
   rcases List.mem_append.1 hb with hb | hb
   · exact .inl (by simp [dcX,Option.mem_toList.1 hb])
   · rcases hv b (Option.mem_toList.1 hb) with h1 | h1
     · exact .inl (by simp [dcX,h1])
     · exact .inr h1
theorem DcO.renum (h:DcO base w q d) (i:Nat) (hi:i < 6) (v:Value) (d':Dc) (hL:d'.L = d.L) (ht:d'.told = d.told) (hc:d'.cols = d.cols) (hg:0 ≤ d'.gone) (hcs:([q.vl,.int .i64 d.base,.int .i64 d.cols,.int .i64 d.room,.int .u64 (d.gone % 18446744073709551616),q.vt]:List Value).set i v = [q.vl,.int .i64 d'.base,.int .i64 d'.cols,.int .i64 d'.room,.int .u64 (d'.gone % 18446744073709551616),q.vt]) :
 DcRes base w q d' (w.setCell ⟨q.D,i,none⟩ v):=by
 have hm2:Mod [q.D] w (w.setCell ⟨q.D,i,none⟩ v):=(Mod.refl _ _).setCell (a:=⟨q.D,i,none⟩) (.inl (by simp)) _
 have hX:NoCel w [q.D]:=fun b hb cs f he => h.nocel b (by rw [List.mem_singleton.1 hb];simp [dcX]) cs f he
 have hblk:=whole_set (cs:=[q.vl,.int .i64 d.base,.int .i64 d.cols,.int .i64 d.room,.int .u64 (d.gone % 18446744073709551616),q.vt]) h.blk i v hcs
 refine ⟨q,rfl,⟨hblk,h.hb,owns_mod h.own hm2 (fun b hb hx => ?_),?_,by rw [hL];exact h.rl,fun r hr => ⟨(h.rows r hr).1.mod hm2 hX,by rw [hc];exact (h.rows r hr).2⟩,by rw [hc];exact h.cols2,by rw [hc];exact h.cols1000,hg⟩,hm2.mono (fun b hb => by rw [List.mem_singleton.1 hb];simp [dcX]),fun b hb => .inl hb⟩
 · obtain ⟨cur,hc⟩:=own_block h.own hb
   rw [List.mem_singleton.1 hx] at hc
   exact block_ne h.blk hc (by decide) rfl
 · rw [ht]
   refine owns_mod h.told hm2 (fun b hb hx => ?_)
   obtain ⟨cur,hc⟩:=own_block h.told hb
   rw [List.mem_singleton.1 hx] at hc
   exact block_ne h.blk hc (by decide) rfl
end
section
variable {base:Nat} {w:World} {q:Dv} {d:Dc}
set_option maxHeartbeats 3200000 in
theorem rdinsert_some (h:DcO base w q d) (hsm:q.vl ≠ .slice none 0 0) (k:Nat) (hk:k ≤ d.L.length) (r:Rh) (hr:RcAt w r) (hrl:r.cs.length = d.cols) (hL:d.L.length ≤ 1000000) (ht:d.told.length ≤ 1000000) (hbw:base ≤ w.heap.size) :
 Calls Tryz.prog 128 #[.pointer (some ⟨q.D,0,none⟩),.int .i64 k,.agg #[.slice r.A r.cs.length r.cap,.bool r.cont]] w (DcPost base w q (dcInsert d k (roOf r))):=by
 have hl:=h.len
 obtain ⟨gs,c,hv⟩:∃ gs c,q.vl = .slice (some ⟨gs,0,none⟩) q.S.length c:=by
  rcases h.own.2 with ⟨e,-⟩ | ⟨g',c',cur,e,_⟩
  · exact absurd e hsm
  · exact ⟨g',c',e⟩
 clear hsm
 obtain ⟨⟨x0,x0f⟩,-,-,-,-,-⟩:=h.cells
 have H:=Hd h
 have HV:=Hd hv
 have HR:=Hd hr
 have HRL:=Hd hrl
 have hown:=h.own
 rw [hv] at x0 hown
 have HOWN:=Hd hown
 have HHL:=Hd hl
 obtain ⟨n,hn⟩:∃ n,n = q.S.length:=⟨_,rfl⟩
 rw [← hn] at x0
 have hcap:n ≤ c:=by rw [hn];rcases hown.2 with ⟨e,-⟩ | ⟨g',c',cur,e,_,_,hc,_⟩ <;> simp at e <;> omega
 have hkn:k ≤ n:=by omega
 have hkI:(k:Int) ≤ (n:Int):=by omega
 have hkc:k ≤ c:=by omega
 obtain ⟨W,hW⟩:∃ W,w.alloc (.cells #[.slice r.A r.cs.length r.cap,.bool r.cont] 50) = W:=⟨_,rfl⟩
 have hb:Below w.heap.size w W:=by rw [← hW];exact below_allocs (Below.refl _ _) _
 have HB:=Hd hb
 have HN0:=Hd (show W.heap[w.heap.size]? = some (.cells #[.slice r.A r.cs.length r.cap,.bool r.cont] 50 (0,0)) from by rw [← hW];exact hp_new rfl)
 have X0:=Hd (holda hb x0)
 have X00:=Hd x0
 have HX0:=Hd (And.intro x0 x0f)
 have HKN:=Hd (And.intro hkn hn)
 have HW:=Hd hW
 clear h hv hr hrl hl hn hb hown hk x0 x0f hW
 go_enter Tryz.func128,Tryz.ntmps128
 go_upto_region 1 with fail
 rw [HW.out]
 clear HW
 have x0:=X0.out
 go_upto_region 2 with fail
 refine wp_region_lit ?_
 refine wpList_valG (.slice none 0 0) (by rfl) (by rfl) ?_
 simp only [Act.put,List.setIfInBounds_toArray,List.set_cons_zero,List.set_cons_succ]
 refine wpList_valG (.pointer (some ⟨q.D,0,none⟩)) (by rfl) (by rfl) ?_
 simp only [Act.put,List.setIfInBounds_toArray,List.set_cons_zero,List.set_cons_succ]
 refine wpList_valG (.pointer (some ⟨q.D,0,none⟩)) (by rfl) (by go_simp) ?_
 simp only [Act.put,List.setIfInBounds_toArray,List.set_cons_zero,List.set_cons_succ]
 refine wpList_valG (.pointer (some ⟨q.D,0,none⟩)) (by rfl) (by go_simp) ?_
 simp only [Act.put,List.setIfInBounds_toArray,List.set_cons_zero,List.set_cons_succ]
 refine wpList_valG (.slice (some ⟨gs,0,none⟩) n c) (by rfl) (by go_simp) ?_
 simp only [Act.put,List.setIfInBounds_toArray,List.set_cons_zero,List.set_cons_succ]
 refine wpList_valG (.int .i64 (k:Int)) (by rfl) (by rfl) ?_
 simp only [Act.put,List.setIfInBounds_toArray,List.set_cons_zero,List.set_cons_succ]
 refine wpList_valG (.slice (some ⟨gs,0,none⟩) k c) (by rfl) (by go_simp) ?_
 simp only [Act.put,List.setIfInBounds_toArray,List.set_cons_zero,List.set_cons_succ]
 refine wpList_rows (o:=⟨some 14,_,_,_,_,_⟩) rfl (.tmp 7) (.tmp 13) rfl w.heap.size (.slice none 0 0) [] rfl (World.ownsRow_nil _ _ _ _) ⟨gs,0,none⟩ k c (q.S.take k) rfl (by simp;have:=HKN.out;omega) (fun j u hj => rows_src (owns_mod HOWN.out (Mod.of_below (X:=[]) HB.out) (fun _ _ h => by cases h)) 0 k 0 (fun _ => rfl) j u (by simpa using hj)) (by simp;have:=HHL.out;omega) k (by simp;have:=HKN.out;omega) HB.out.size ?_
 rintro A1 c1 w1 ho1 hm1 -
 rw [List.nil_append] at ho1
 simp only [Act.put,List.setIfInBounds_toArray,List.set_cons_zero,List.set_cons_succ]
 have HO1:=Hd ho1
 have hb1:Below W.heap.size W w1:=hm1.below (fun g hg => by cases hg) (Nat.le_refl _)
 have HB1:=Hd (below_tail HB.out hb1)
 have HN1:=Hd ((hb1.block _ (lt_of_heap HN0.out)).trans HN0.out)
 have HX1:=Hd (holda hb1 x0)
 have r0:=(at_ HN1.out 0 _ rfl).1
 have r1:=(at_ HN1.out 1 _ rfl).1
 clear ho1 hm1 hb1 x0
 go_upto_region 3 with fail
 refine wp_region_lit ?_
 refine wpList_valG (.slice A1 k c1) (by rfl) (by rfl) ?_
 simp only [Act.put,List.setIfInBounds_toArray,List.set_cons_zero,List.set_cons_succ]
 refine wpList_valG (.agg #[.slice r.A r.cs.length r.cap,.bool r.cont]) (by rfl) (by go_simp) ?_
 simp only [Act.put,List.setIfInBounds_toArray,List.set_cons_zero,List.set_cons_succ]
 refine wpList_actG (.slice (some ⟨w1.heap.size,0,none⟩) 1 1) (w1.alloc (.cells #[.slice r.A r.cs.length r.cap,.bool r.cont] 50)) (by rfl) (by go_simp) ?_
 simp only [Act.put,List.setIfInBounds_toArray,List.set_cons_zero,List.set_cons_succ]
 have hba:=below_allocs (Below.refl w1.heap.size w1) (.cells #[.slice r.A r.cs.length r.cap,.bool r.cont] 50)
 have HBA:=Hd (below_tail HB1.out hba)
 refine wpList_rows (o:=⟨some 18,_,_,_,_,_⟩) rfl (.tmp 15) (.tmp 17) rfl w.heap.size (.slice A1 k c1) (q.S.take k) rfl (HO1.out.below hba) ⟨w1.heap.size,0,none⟩ 1 1 [r] rfl rfl (fun j u hj => by rw [add_lit',Nat.zero_add];exact (at_ (hp_new rfl) j u (by simpa [flat,encRh] using hj)).1) (by simp;have:=HHL.out;omega) (k + 1) (by simp;have:=HKN.out;omega) HBA.out.size ?_
 intro A2 c2 w2 ho2 hm2 hv2
 simp only [Act.put,List.setIfInBounds_toArray,List.set_cons_zero,List.set_cons_succ]
 have hb2:Below w.heap.size w w2:=HBA.out.trans (hm2.below (fun g hg => (World.ownsRow.lt (show World.ownsRow _ _ _ _ _ _ _ from HO1.out) g (Option.mem_toList.1 hg)).1) HBA.out.size)
 have HB2:=Hd hb2
 have HO2:=Hd ho2
 have x0:=holda hb2 X00.out
 obtain ⟨off,hoff,hoff2⟩:∃ off,(if c = k then (some ⟨gs,0,none⟩:Option Addr) else some ⟨gs,k * 2,none⟩) = some ⟨gs,off,none⟩∧(k < c→off = k * 2):=by
  by_cases h:c = k
  · exact ⟨0,if_pos h,fun h2 => by omega⟩
  · exact ⟨k * 2,if_neg h,fun _ => rfl⟩
 have HOFF:=Hd hoff2
 clear ho2 hm2 hv2 hb2 r0 r1 hba hoff2
 go_upto_region 4 with fail
 refine wp_region_lit ?_
 refine wpList_valG (.pointer (some ⟨q.D,0,none⟩)) (by rfl) (by rfl) ?_
 simp only [Act.put,List.setIfInBounds_toArray,List.set_cons_zero,List.set_cons_succ]
 refine wpList_valG (.slice A2 (k + 1) c2) (by rfl) (by rfl) ?_
 simp only [Act.put,List.setIfInBounds_toArray,List.set_cons_zero,List.set_cons_succ]
 refine wpList_valG (.pointer (some ⟨q.D,0,none⟩)) (by rfl) (by rfl) ?_
 simp only [Act.put,List.setIfInBounds_toArray,List.set_cons_zero,List.set_cons_succ]
 refine wpList_valG (.pointer (some ⟨q.D,0,none⟩)) (by rfl) (by go_simp) ?_
 simp only [Act.put,List.setIfInBounds_toArray,List.set_cons_zero,List.set_cons_succ]
 refine wpList_valG (.pointer (some ⟨q.D,0,none⟩)) (by rfl) (by go_simp) ?_
 simp only [Act.put,List.setIfInBounds_toArray,List.set_cons_zero,List.set_cons_succ]
 refine wpList_valG (.slice (some ⟨gs,0,none⟩) n c) (by rfl) (by go_simp) ?_
 simp only [Act.put,List.setIfInBounds_toArray,List.set_cons_zero,List.set_cons_succ]
 refine wpList_valG (.int .i64 (k:Int)) (by rfl) (by rfl) ?_
 simp only [Act.put,List.setIfInBounds_toArray,List.set_cons_zero,List.set_cons_succ]
 refine wpList_valG (.slice (some ⟨gs,off,none⟩) (n - k) (c - k)) (by rfl) (by go_simp) ?_
 simp only [Act.put,List.setIfInBounds_toArray,List.set_cons_zero,List.set_cons_succ]
 refine wpList_rows (o:=⟨some 27,_,_,_,_,_⟩) rfl (.tmp 20) (.tmp 26) rfl w.heap.size (.slice A2 (k + 1) c2) (q.S.take k ++ [r]) rfl HO2.out ⟨gs,off,none⟩ (n - k) (c - k) ((q.S.drop k).take (n - k)) rfl (by simp;have:=HKN.out;omega) (fun j u hj => rows_src (owns_mod HOWN.out (Mod.of_below (X:=[]) HB2.out) (fun _ _ h => by cases h)) k (n - k) off (fun h => HOFF.out (by simp at h;omega)) j u hj) (by simp;have:=HHL.out;omega) (n + 1) (by simp;have:=HKN.out;omega) HB2.out.size ?_
 intro A3 c3 w3 ho3 hm3 hv3
 simp only [Act.put,List.setIfInBounds_toArray,List.set_cons_zero,List.set_cons_succ]
 have hb3:Below w.heap.size w w3:=HB2.out.trans (hm3.below (fun g hg => (World.ownsRow.lt (show World.ownsRow _ _ _ _ _ _ _ from HO2.out) g (Option.mem_toList.1 hg)).1) HB2.out.size)
 have HB3:=Hd hb3
 have HO3:=Hd ho3
 have HXD:=Hd (hold hb3 HX0.out)
 obtain ⟨x0,x0f⟩:=HXD.out
 have hres:=H.out.relist (w1:=w3) (vl':=.slice A3 (n + 1) c3) (S':=q.S.take k ++ [r] ++ (q.S.drop k).take (n - k)) (L':=d.L.take k ++ (roOf r :: d.L.drop k)) (by
  have e:(q.S.take k ++ [r] ++ (q.S.drop k).take (n - k)).length = n + 1:=by simp;have:=HKN.out;omega
  have:=owns_weaken (show World.ownsRow _ _ _ _ _ _ _ from HO3.out) hbw
  exact this) hb3 (fun b hb => (World.ownsRow.lt (show World.ownsRow _ _ _ _ _ _ _ from HO3.out) b hb).1) (by
  rw [show (q.S.drop k).take (n - k) = q.S.drop k from List.take_of_length_le (by simp;have:=HKN.out;omega),← H.out.rl,List.map_append,List.map_append,List.map_take,List.map_drop]
  simp) (fun x hx => by
  rcases List.mem_append.1 hx with hx | hx
  · rcases List.mem_append.1 hx with hx | hx
    · exact H.out.rows x (List.mem_of_mem_take hx)
    · rw [List.mem_singleton.1 hx];exact ⟨HR.out,HRL.out⟩
  · exact H.out.rows x (List.mem_of_mem_drop (List.mem_of_mem_take hx)))
 have HRES:=Hd hres
 clear ho3 hm3 hv3 hb3 hoff hres
 go_upto_region 5 with fail
 generalize World.setCell _ _ _ = W5 at HRES ⊢
 obtain ⟨q1,e1,h1,hm1,hx1⟩:=HRES.out
 have HE1:=Hd e1
 have HM1:=Hd (And.intro hm1 hx1)
 have H1:=Hd h1
 obtain ⟨A5,c5,hv5⟩:=row_form h1.told
 have y5:=h1.cells.2.2.2.2.2
 rw [hv5,e1] at y5
 have Y5:=Hd y5
 have HV5:=Hd hv5
 obtain ⟨y5,-⟩:=y5
 obtain ⟨tl,htl⟩:∃ tl,tl = d.told.length:=⟨_,rfl⟩
 have HTL:=Hd htl
 rw [← htl] at y5
 clear x0 x0f HXD h1 hm1 hx1 e1 hv5 htl HRES
 refine wp_region_lit ?_
 refine wpList_valG (.pointer (some ⟨q.D,0,none⟩)) (by rfl) (by rfl) ?_
 simp only [Act.put,List.setIfInBounds_toArray,List.set_cons_zero,List.set_cons_succ]
 refine wpList_valG (.pointer (some ⟨q.D,0,none⟩)) (by rfl) (by rfl) ?_
 simp only [Act.put,List.setIfInBounds_toArray,List.set_cons_zero,List.set_cons_succ]
 refine wpList_valG (.pointer (some ⟨q.D,0,none⟩)) (by rfl) (by go_simp) ?_
 simp only [Act.put,List.setIfInBounds_toArray,List.set_cons_zero,List.set_cons_succ]
 refine wpList_valG (.pointer (some ⟨q.D,5,none⟩)) (by rfl) (by go_simp) ?_
 simp only [Act.put,List.setIfInBounds_toArray,List.set_cons_zero,List.set_cons_succ]
 refine wpList_valG (.slice A5 tl c5) (by rfl) (by go_simp) ?_
 simp only [Act.put,List.setIfInBounds_toArray,List.set_cons_zero,List.set_cons_succ]
 refine wpList_valG (.int .i64 (k:Int)) (by rfl) (by rfl) ?_
 simp only [Act.put,List.setIfInBounds_toArray,List.set_cons_zero,List.set_cons_succ]
 refine wpList_valG (.agg #[.int .i64 0,.int .i64 (k:Int),.int .i64 1]) (by rfl) (by go_simp) ?_
 simp only [Act.put,List.setIfInBounds_toArray,List.set_cons_zero,List.set_cons_succ]
 refine wpList_actG (.slice (some ⟨W5.heap.size,0,none⟩) 1 1) (W5.alloc (.cells #[.int .i64 0,.int .i64 (k:Int),.int .i64 1] 88)) (by rfl) (by go_simp) ?_
 simp only [Act.put,List.setIfInBounds_toArray,List.set_cons_zero,List.set_cons_succ]
 have hba:=below_allocs (Below.refl W5.heap.size W5) (.cells #[.int .i64 0,.int .i64 (k:Int),.int .i64 1] 88)
 have hbz:base ≤ (W5.alloc (.cells #[.int .i64 0,.int .i64 (k:Int),.int .i64 1] 88)).heap.size:=by have:=HM1.out.1.size;simp;omega
 have HBA:=Hd hba
 refine wpList_told (o:=⟨some 38,_,_,_,_,_⟩) rfl (.tmp 34) (.tmp 37) rfl base (.slice A5 tl c5) d.told rfl (by have:=(H1.out.below hba).told;rw [HV5.out,← HTL.out] at this;rw [← HTL.out];exact this) W5.heap.size 1 ⟨0,k,1⟩ rfl (hp_new rfl) (by omega) hbz ?_
 intro A6 c6 w6 ho6 hm6 hv6
 rw [← HTL.out] at ho6 hv6 ⊢
 simp only [Act.put,List.setIfInBounds_toArray,List.set_cons_zero,List.set_cons_succ]
 have hm7:Mod q1.vt.ownBlock.toList W5 w6:=(Mod.of_below HBA.out).trans (by rw [HV5.out,← HTL.out];exact hm6) (fun b hb => .inl hb)
 have HM7:=Hd hm7
 have hDne:q.D ∉ q1.vt.ownBlock.toList:=fun hb => by
  obtain ⟨cur,hc⟩:=own_block H1.out.told (Option.mem_toList.1 hb)
  rw [← HE1.out] at hc
  exact block_ne H1.out.blk hc (by decide) rfl
 obtain ⟨z5,z5f⟩:=hm7.hold hDne Y5.out
 have HFIN:=Hd (H1.out.retold (t':=d.told ++ [⟨0,k,1⟩]) (vt':=.slice A6 (tl + 1) c6) (by rw [List.length_append,← HTL.out];exact ho6) hm7 (fun b hb => by
  rcases hv6 b hb with h | h
  · exact .inl (by rw [HV5.out,← HTL.out];exact h)
  · exact .inr (by have:=HBA.out.size;omega)))
 rw [HE1.out] at HFIN
 clear y5 hba hbz ho6 hm6 hv6 hm7 hDne
 go_wp2
 go_end0
 exact ⟨rfl,DcRes.trans ⟨HE1.out,HM1.out.1,HM1.out.2⟩ HFIN.out⟩
set_option maxHeartbeats 3200000 in
theorem rdinsert_nil (h:DcO base w q d) (hv:q.vl = .slice none 0 0) (r:Rh) (hr:RcAt w r) (hrl:r.cs.length = d.cols) (ht:d.told.length ≤ 1000000) (hbw:base ≤ w.heap.size) :
 Calls Tryz.prog 128 #[.pointer (some ⟨q.D,0,none⟩),.int .i64 (0:Nat),.agg #[.slice r.A r.cs.length r.cap,.bool r.cont]] w (DcPost base w q (dcInsert d 0 (roOf r))):=by
 have hSn:q.S = []:=by
  rcases h.own.2 with ⟨-,e⟩ | ⟨g',c',cur,e,_⟩
  · exact List.length_eq_zero_iff.1 (by omega)
  · rw [hv] at e;cases e
 have hLn:d.L = []:=by rw [← h.rl,hSn];rfl
 obtain ⟨⟨x0,x0f⟩,-,-,-,-,-⟩:=h.cells
 have H:=Hd h
 have HLN:=Hd hLn
 have HR:=Hd hr
 have HRL:=Hd hrl
 rw [hv] at x0
 obtain ⟨W,hW⟩:∃ W,w.alloc (.cells #[.slice r.A r.cs.length r.cap,.bool r.cont] 50) = W:=⟨_,rfl⟩
 have hb:Below w.heap.size w W:=by rw [← hW];exact below_allocs (Below.refl _ _) _
 have HB:=Hd hb
 have HN0:=Hd (show W.heap[w.heap.size]? = some (.cells #[.slice r.A r.cs.length r.cap,.bool r.cont] 50 (0,0)) from by rw [← hW];exact hp_new rfl)
 have X0:=Hd (holda hb x0)
 have HX0:=Hd (And.intro x0 x0f)
 have HW:=Hd hW
 clear h hv hr hrl hb x0 x0f hW hSn hLn
 go_enter Tryz.func128,Tryz.ntmps128
 go_upto_region 1 with fail
 rw [HW.out]
 clear HW
 have x0:=X0.out
 have r0:=(at_ HN0.out 0 _ rfl).1
 have r1:=(at_ HN0.out 1 _ rfl).1
 go_upto_region 3 with fail
 refine wp_region_lit ?_
 refine wpList_valG (.slice none 0 0) (by rfl) (by rfl) ?_
 simp only [Act.put,List.setIfInBounds_toArray,List.set_cons_zero,List.set_cons_succ]
 refine wpList_valG (.agg #[.slice r.A r.cs.length r.cap,.bool r.cont]) (by rfl) (by go_simp) ?_
 simp only [Act.put,List.setIfInBounds_toArray,List.set_cons_zero,List.set_cons_succ]
 refine wpList_actG (.slice (some ⟨W.heap.size,0,none⟩) 1 1) (W.alloc (.cells #[.slice r.A r.cs.length r.cap,.bool r.cont] 50)) (by rfl) (by go_simp) ?_
 simp only [Act.put,List.setIfInBounds_toArray,List.set_cons_zero,List.set_cons_succ]
 have hba:=below_allocs (Below.refl W.heap.size W) (.cells #[.slice r.A r.cs.length r.cap,.bool r.cont] 50)
 have HBA:=Hd (below_tail HB.out hba)
 refine wpList_rows (o:=⟨some 18,_,_,_,_,_⟩) rfl (.tmp 15) (.tmp 17) rfl w.heap.size (.slice none 0 0) [] rfl (World.ownsRow_nil _ _ _ _) ⟨W.heap.size,0,none⟩ 1 1 [r] rfl rfl (fun j u hj => by rw [add_lit',Nat.zero_add];exact (at_ (hp_new rfl) j u (by simpa [flat,encRh] using hj)).1) (by simp) 1 (by simp) HBA.out.size ?_
 rw [List.nil_append]
 intro A3 c3 w3 ho3 hm3 hv3
 simp only [Act.put,List.setIfInBounds_toArray,List.set_cons_zero,List.set_cons_succ]
 have hb3:Below w.heap.size w w3:=HBA.out.trans (hm3.below (fun g hg => by cases hg) HBA.out.size)
 have HB3:=Hd hb3
 have HO3:=Hd ho3
 have HXD:=Hd (hold hb3 HX0.out)
 have hc13:1 ≤ c3:=by
  rcases (show World.ownsRow _ _ _ _ _ _ _ from ho3).2 with ⟨e,-⟩ | ⟨g',c',cur,e,_,_,hc,_⟩
  · simp at e
  · simp at e hc;omega
 obtain ⟨g3,c3',hg3⟩:=own_form (show World.ownsRow _ _ _ _ _ _ _ from ho3) (by simp)
 simp only [Value.slice.injEq] at hg3
 obtain ⟨rfl,-,rfl⟩:=hg3
 clear x0
 obtain ⟨x0,x0f⟩:=HXD.out
 have hres:=H.out.relist (w1:=w3) (vl':=.slice (some ⟨g3,0,none⟩) 1 c3) (S':=[r]) (L':=d.L.take 0 ++ (roOf r :: d.L.drop 0)) (by
  have:=owns_weaken (show World.ownsRow _ _ _ _ _ _ _ from HO3.out) hbw
  exact this) hb3 (fun b hb => (World.ownsRow.lt (show World.ownsRow _ _ _ _ _ _ _ from HO3.out) b hb).1) (by rw [HLN.out];rfl) (fun x hx => by rw [List.mem_singleton.1 hx];exact ⟨HR.out,HRL.out⟩)
 have HRES:=Hd hres
 clear ho3 hm3 hv3 hb3 hres hba r0 r1
 go_upto_region 5 with fail
 generalize World.setCell _ _ _ = W5 at HRES ⊢
 obtain ⟨q1,e1,h1,hm1,hx1⟩:=HRES.out
 have HE1:=Hd e1
 have HM1:=Hd (And.intro hm1 hx1)
 have H1:=Hd h1
 obtain ⟨A5,c5,hv5⟩:=row_form h1.told
 have y5:=h1.cells.2.2.2.2.2
 rw [hv5,e1] at y5
 have Y5:=Hd y5
 have HV5:=Hd hv5
 obtain ⟨y5,-⟩:=y5
 obtain ⟨tl,htl⟩:∃ tl,tl = d.told.length:=⟨_,rfl⟩
 have HTL:=Hd htl
 rw [← htl] at y5
 clear x0 x0f HXD h1 hm1 hx1 e1 hv5 htl HRES
 refine wp_region_lit ?_
 refine wpList_valG (.pointer (some ⟨q.D,0,none⟩)) (by rfl) (by rfl) ?_
 simp only [Act.put,List.setIfInBounds_toArray,List.set_cons_zero,List.set_cons_succ]
 refine wpList_valG (.pointer (some ⟨q.D,0,none⟩)) (by rfl) (by rfl) ?_
 simp only [Act.put,List.setIfInBounds_toArray,List.set_cons_zero,List.set_cons_succ]
 refine wpList_valG (.pointer (some ⟨q.D,0,none⟩)) (by rfl) (by go_simp) ?_
 simp only [Act.put,List.setIfInBounds_toArray,List.set_cons_zero,List.set_cons_succ]
 refine wpList_valG (.pointer (some ⟨q.D,5,none⟩)) (by rfl) (by go_simp) ?_
 simp only [Act.put,List.setIfInBounds_toArray,List.set_cons_zero,List.set_cons_succ]
 refine wpList_valG (.slice A5 tl c5) (by rfl) (by go_simp) ?_
 simp only [Act.put,List.setIfInBounds_toArray,List.set_cons_zero,List.set_cons_succ]
 refine wpList_valG (.int .i64 (0:Int)) (by rfl) (by rfl) ?_
 simp only [Act.put,List.setIfInBounds_toArray,List.set_cons_zero,List.set_cons_succ]
 refine wpList_valG (.agg #[.int .i64 0,.int .i64 (0:Int),.int .i64 1]) (by rfl) (by go_simp) ?_
 simp only [Act.put,List.setIfInBounds_toArray,List.set_cons_zero,List.set_cons_succ]
 refine wpList_actG (.slice (some ⟨W5.heap.size,0,none⟩) 1 1) (W5.alloc (.cells #[.int .i64 0,.int .i64 (0:Int),.int .i64 1] 88)) (by rfl) (by go_simp) ?_
 simp only [Act.put,List.setIfInBounds_toArray,List.set_cons_zero,List.set_cons_succ]
 have hba:=below_allocs (Below.refl W5.heap.size W5) (.cells #[.int .i64 0,.int .i64 (0:Int),.int .i64 1] 88)
 have hbz:base ≤ (W5.alloc (.cells #[.int .i64 0,.int .i64 (0:Int),.int .i64 1] 88)).heap.size:=by have:=HM1.out.1.size;simp;omega
 have HBA:=Hd hba
 refine wpList_told (o:=⟨some 38,_,_,_,_,_⟩) rfl (.tmp 34) (.tmp 37) rfl base (.slice A5 tl c5) d.told rfl (by have:=(H1.out.below hba).told;rw [HV5.out,← HTL.out] at this;rw [← HTL.out];exact this) W5.heap.size 1 ⟨0,(0:Nat),1⟩ rfl (hp_new rfl) (by omega) hbz ?_
 intro A6 c6 w6 ho6 hm6 hv6
 rw [← HTL.out] at ho6 hv6 ⊢
 simp only [Act.put,List.setIfInBounds_toArray,List.set_cons_zero,List.set_cons_succ]
 have hm7:Mod q1.vt.ownBlock.toList W5 w6:=(Mod.of_below HBA.out).trans (by rw [HV5.out,← HTL.out];exact hm6) (fun b hb => .inl hb)
 have HM7:=Hd hm7
 have hDne:q.D ∉ q1.vt.ownBlock.toList:=fun hb => by
  obtain ⟨cur,hc⟩:=own_block H1.out.told (Option.mem_toList.1 hb)
  rw [← HE1.out] at hc
  exact block_ne H1.out.blk hc (by decide) rfl
 obtain ⟨z5,z5f⟩:=hm7.hold hDne Y5.out
 have HFIN:=Hd (H1.out.retold (t':=d.told ++ [⟨0,(0:Nat),1⟩]) (vt':=.slice A6 (tl + 1) c6) (by rw [List.length_append,← HTL.out];exact ho6) hm7 (fun b hb => by
  rcases hv6 b hb with h | h
  · exact .inl (by rw [HV5.out,← HTL.out];exact h)
  · exact .inr (by have:=HBA.out.size;omega)))
 rw [HE1.out] at HFIN
 clear y5 hba hbz ho6 hm6 hv6 hm7 hDne
 go_wp2
 go_end0
 exact ⟨rfl,DcRes.trans ⟨HE1.out,HM1.out.1,HM1.out.2⟩ HFIN.out⟩
theorem rdinsert_any (h:DcO base w q d) (k:Nat) (hk:k ≤ d.L.length) (r:Rh) (hr:RcAt w r) (hrl:r.cs.length = d.cols) (hL:d.L.length ≤ 1000000) (ht:d.told.length ≤ 1000000) (hbw:base ≤ w.heap.size) :
 Calls Tryz.prog 128 #[.pointer (some ⟨q.D,0,none⟩),.int .i64 k,.agg #[.slice r.A r.cs.length r.cap,.bool r.cont]] w (DcPost base w q (dcInsert d k (roOf r))):=by
 by_cases hv:q.vl = .slice none 0 0
 · have hSn:q.S = []:=by
    rcases h.own.2 with ⟨-,e⟩ | ⟨g',c',cur,e,_⟩
    · exact List.length_eq_zero_iff.1 (by omega)
    · rw [hv] at e;cases e
   have hLn:d.L = []:=by rw [← h.rl,hSn];rfl
   obtain rfl:k = 0:=by rw [hLn] at hk;simpa using hk
   exact rdinsert_nil h hv r hr hrl ht hbw
 · exact rdinsert_some h hv k hk r hr hrl hL ht hbw
end
section
variable {base:Nat} {w:World} {q:Dv} {d:Dc}
set_option maxHeartbeats 3200000 in
theorem rdremove_any (h:DcO base w q d) (k:Nat) (hk:k < d.L.length) (hL:d.L.length ≤ 1000000) (ht:d.told.length ≤ 1000000) (hbw:base ≤ w.heap.size) :
 Calls Tryz.prog 129 #[.pointer (some ⟨q.D,0,none⟩),.int .i64 k] w (DcPost base w q (dcRemove d k)):=by
 have hl:=h.len
 obtain ⟨gs,c,hv⟩:=own_form h.own (by omega)
 obtain ⟨⟨x0,x0f⟩,-,-,-,-,-⟩:=h.cells
 have H:=Hd h
 have HV:=Hd hv
 have hown:=h.own
 rw [hv] at x0 hown
 have HOWN:=Hd hown
 have HHL:=Hd hl
 obtain ⟨n,hn⟩:∃ n,n = q.S.length:=⟨_,rfl⟩
 rw [← hn] at x0
 have hcap:n ≤ c:=by rw [hn];rcases hown.2 with ⟨e,-⟩ | ⟨g',c',cur,e,_,_,hc,_⟩ <;> simp at e <;> omega
 have hkn:k < n:=by omega
 have hkI:(k:Int) ≤ (n:Int):=by omega
 have hkc:k ≤ c:=by omega
 obtain ⟨k1,hk1⟩:∃ k1:Nat,k1 = k + 1:=⟨_,rfl⟩
 have hk1I:(k:Int) + 1 = (k1:Int):=by omega
 have hwk1:IntKind.i64.wrap (k1:Int) = (k1:Int):=IntWalk.i64_in _ (by omega)
 have hk1n:k1 ≤ n:=by omega
 have hk1nI:(k1:Int) ≤ (n:Int):=by omega
 have hk1c:k1 ≤ c:=by omega
 have HK1:=Hd hk1
 have X00:=Hd x0
 have HX0:=Hd (And.intro x0 x0f)
 have HKN:=Hd (And.intro hkn hn)
 clear h hv hl hn hown hk x0f hk1
 go_enter Tryz.func129,Tryz.ntmps129
 go_upto_region 1 with fail
 refine wp_region_lit ?_
 refine wpList_valG (.slice none 0 0) (by rfl) (by rfl) ?_
 simp only [Act.put,List.setIfInBounds_toArray,List.set_cons_zero,List.set_cons_succ]
 refine wpList_valG (.pointer (some ⟨q.D,0,none⟩)) (by rfl) (by rfl) ?_
 simp only [Act.put,List.setIfInBounds_toArray,List.set_cons_zero,List.set_cons_succ]
 refine wpList_valG (.pointer (some ⟨q.D,0,none⟩)) (by rfl) (by go_simp) ?_
 simp only [Act.put,List.setIfInBounds_toArray,List.set_cons_zero,List.set_cons_succ]
 refine wpList_valG (.pointer (some ⟨q.D,0,none⟩)) (by rfl) (by go_simp) ?_
 simp only [Act.put,List.setIfInBounds_toArray,List.set_cons_zero,List.set_cons_succ]
 refine wpList_valG (.slice (some ⟨gs,0,none⟩) n c) (by rfl) (by go_simp) ?_
 simp only [Act.put,List.setIfInBounds_toArray,List.set_cons_zero,List.set_cons_succ]
 refine wpList_valG (.int .i64 (k:Int)) (by rfl) (by rfl) ?_
 simp only [Act.put,List.setIfInBounds_toArray,List.set_cons_zero,List.set_cons_succ]
 refine wpList_valG (.slice (some ⟨gs,0,none⟩) k c) (by rfl) (by go_simp) ?_
 simp only [Act.put,List.setIfInBounds_toArray,List.set_cons_zero,List.set_cons_succ]
 refine wpList_rows (o:=⟨some 12,_,_,_,_,_⟩) rfl (.tmp 5) (.tmp 11) rfl w.heap.size (.slice none 0 0) [] rfl (World.ownsRow_nil _ _ _ _) ⟨gs,0,none⟩ k c (q.S.take k) rfl (by simp;have:=HKN.out;omega) (fun j u hj => rows_src HOWN.out 0 k 0 (fun _ => rfl) j u (by simpa using hj)) (by simp;have:=HHL.out;omega) k (by simp;have:=HKN.out;omega) (Nat.le_refl _) ?_
 rintro A1 c1 w1 ho1 hm1 -
 rw [List.nil_append] at ho1
 simp only [Act.put,List.setIfInBounds_toArray,List.set_cons_zero,List.set_cons_succ]
 have HO1:=Hd ho1
 have hb1:Below w.heap.size w w1:=hm1.below (fun g hg => by cases hg) (Nat.le_refl _)
 have HB1:=Hd hb1
 have x1:=holda hb1 x0
 clear ho1 hm1 hb1 x0
 obtain ⟨off,hoff,hoff2⟩:∃ off,(if c = k1 then (some ⟨gs,0,none⟩:Option Addr) else some ⟨gs,k1 * 2,none⟩) = some ⟨gs,off,none⟩∧(k1 < c→off = k1 * 2):=by
  by_cases h:c = k1
  · exact ⟨0,if_pos h,fun h2 => by omega⟩
  · exact ⟨k1 * 2,if_neg h,fun _ => rfl⟩
 have HOFF:=Hd hoff2
 clear hoff2
 go_upto_region 2 with fail
 refine wp_region_lit ?_
 refine wpList_valG (.pointer (some ⟨q.D,0,none⟩)) (by rfl) (by rfl) ?_
 simp only [Act.put,List.setIfInBounds_toArray,List.set_cons_zero,List.set_cons_succ]
 refine wpList_valG (.slice A1 k c1) (by rfl) (by rfl) ?_
 simp only [Act.put,List.setIfInBounds_toArray,List.set_cons_zero,List.set_cons_succ]
 refine wpList_valG (.pointer (some ⟨q.D,0,none⟩)) (by rfl) (by rfl) ?_
 simp only [Act.put,List.setIfInBounds_toArray,List.set_cons_zero,List.set_cons_succ]
 refine wpList_valG (.pointer (some ⟨q.D,0,none⟩)) (by rfl) (by go_simp) ?_
 simp only [Act.put,List.setIfInBounds_toArray,List.set_cons_zero,List.set_cons_succ]
 refine wpList_valG (.pointer (some ⟨q.D,0,none⟩)) (by rfl) (by go_simp) ?_
 simp only [Act.put,List.setIfInBounds_toArray,List.set_cons_zero,List.set_cons_succ]
 refine wpList_valG (.slice (some ⟨gs,0,none⟩) n c) (by rfl) (by go_simp) ?_
 simp only [Act.put,List.setIfInBounds_toArray,List.set_cons_zero,List.set_cons_succ]
 refine wpList_valG (.int .i64 (k:Int)) (by rfl) (by rfl) ?_
 simp only [Act.put,List.setIfInBounds_toArray,List.set_cons_zero,List.set_cons_succ]
 refine wpList_valG (.int .i64 (k1:Int)) (by rfl) (by go_simp) ?_
 simp only [Act.put,List.setIfInBounds_toArray,List.set_cons_zero,List.set_cons_succ]
 refine wpList_valG (.slice (some ⟨gs,off,none⟩) (n - k1) (c - k1)) (by rfl) (by go_simp) ?_
 simp only [Act.put,List.setIfInBounds_toArray,List.set_cons_zero,List.set_cons_succ]
 refine wpList_rows (o:=⟨some 22,_,_,_,_,_⟩) rfl (.tmp 14) (.tmp 21) rfl w.heap.size (.slice A1 k c1) (q.S.take k) rfl HO1.out ⟨gs,off,none⟩ (n - k1) (c - k1) ((q.S.drop k1).take (n - k1)) rfl (by simp;have:=HKN.out;omega) (fun j u hj => rows_src (owns_mod HOWN.out (Mod.of_below (X:=[]) HB1.out) (fun _ _ h => by cases h)) k1 (n - k1) off (fun h => HOFF.out (by simp at h;omega)) j u hj) (by simp;have:=HHL.out;omega) (n - 1) (by simp;have:=HKN.out;have:=HK1.out;omega) HB1.out.size ?_
 intro A3 c3 w3 ho3 hm3 hv3
 simp only [Act.put,List.setIfInBounds_toArray,List.set_cons_zero,List.set_cons_succ]
 have hb3:Below w.heap.size w w3:=HB1.out.trans (hm3.below (fun g hg => (World.ownsRow.lt (show World.ownsRow _ _ _ _ _ _ _ from HO1.out) g (Option.mem_toList.1 hg)).1) HB1.out.size)
 have HB3:=Hd hb3
 have HO3:=Hd ho3
 have HXD:=Hd (hold hb3 HX0.out)
 obtain ⟨x0,x0f⟩:=HXD.out
 have hres:=H.out.relist (w1:=w3) (vl':=.slice A3 (n - 1) c3) (S':=q.S.take k ++ (q.S.drop k1).take (n - k1)) (L':=d.L.take k ++ d.L.drop (k + 1)) (by
  have:=owns_weaken (show World.ownsRow _ _ _ _ _ _ _ from HO3.out) hbw
  exact this) hb3 (fun b hb => (World.ownsRow.lt (show World.ownsRow _ _ _ _ _ _ _ from HO3.out) b hb).1) (by
  rw [show (q.S.drop k1).take (n - k1) = q.S.drop k1 from List.take_of_length_le (by simp;have:=HKN.out;omega),← H.out.rl,List.map_append,List.map_take,List.map_drop,HK1.out]) (fun x hx => by
  rcases List.mem_append.1 hx with hx | hx
  · exact H.out.rows x (List.mem_of_mem_take hx)
  · exact H.out.rows x (List.mem_of_mem_drop (List.mem_of_mem_take hx)))
 have HRES:=Hd hres
 clear ho3 hm3 hv3 hb3 hoff hres x1
 go_upto_region 3 with fail
 clear x0 x0f HXD
 generalize World.setCell _ _ _ = W5 at HRES ⊢
 obtain ⟨q1,e1,h1,hm1,hx1⟩:=HRES.out
 have HE1:=Hd e1
 have HM1:=Hd (And.intro hm1 hx1)
 have H1:=Hd h1
 obtain ⟨A5,c5,hv5⟩:=row_form h1.told
 have y5:=h1.cells.2.2.2.2.2
 rw [hv5,e1] at y5
 have Y5:=Hd y5
 have HV5:=Hd hv5
 obtain ⟨y5,-⟩:=y5
 obtain ⟨tl,htl⟩:∃ tl,tl = d.told.length:=⟨_,rfl⟩
 have HTL:=Hd htl
 rw [← htl] at y5
 clear h1 hm1 hx1 e1 hv5 htl HRES
 refine wp_region_lit ?_
 refine wpList_valG (.pointer (some ⟨q.D,0,none⟩)) (by rfl) (by rfl) ?_
 simp only [Act.put,List.setIfInBounds_toArray,List.set_cons_zero,List.set_cons_succ]
 refine wpList_valG (.pointer (some ⟨q.D,0,none⟩)) (by rfl) (by rfl) ?_
 simp only [Act.put,List.setIfInBounds_toArray,List.set_cons_zero,List.set_cons_succ]
 refine wpList_valG (.pointer (some ⟨q.D,0,none⟩)) (by rfl) (by go_simp) ?_
 simp only [Act.put,List.setIfInBounds_toArray,List.set_cons_zero,List.set_cons_succ]
 refine wpList_valG (.pointer (some ⟨q.D,5,none⟩)) (by rfl) (by go_simp) ?_
 simp only [Act.put,List.setIfInBounds_toArray,List.set_cons_zero,List.set_cons_succ]
 refine wpList_valG (.slice A5 tl c5) (by rfl) (by go_simp) ?_
 simp only [Act.put,List.setIfInBounds_toArray,List.set_cons_zero,List.set_cons_succ]
 refine wpList_valG (.int .i64 (k:Int)) (by rfl) (by rfl) ?_
 simp only [Act.put,List.setIfInBounds_toArray,List.set_cons_zero,List.set_cons_succ]
 refine wpList_valG (.agg #[.int .i64 1,.int .i64 (k:Int),.int .i64 1]) (by rfl) (by go_simp) ?_
 simp only [Act.put,List.setIfInBounds_toArray,List.set_cons_zero,List.set_cons_succ]
 refine wpList_actG (.slice (some ⟨W5.heap.size,0,none⟩) 1 1) (W5.alloc (.cells #[.int .i64 1,.int .i64 (k:Int),.int .i64 1] 88)) (by rfl) (by go_simp) ?_
 simp only [Act.put,List.setIfInBounds_toArray,List.set_cons_zero,List.set_cons_succ]
 have hba:=below_allocs (Below.refl W5.heap.size W5) (.cells #[.int .i64 1,.int .i64 (k:Int),.int .i64 1] 88)
 have hbz:base ≤ (W5.alloc (.cells #[.int .i64 1,.int .i64 (k:Int),.int .i64 1] 88)).heap.size:=by have:=HM1.out.1.size;simp;omega
 have HBA:=Hd hba
 refine wpList_told (o:=⟨some 33,_,_,_,_,_⟩) rfl (.tmp 29) (.tmp 32) rfl base (.slice A5 tl c5) d.told rfl (by have:=(H1.out.below hba).told;rw [HV5.out,← HTL.out] at this;rw [← HTL.out];exact this) W5.heap.size 1 ⟨1,k,1⟩ rfl (hp_new rfl) (by omega) hbz ?_
 intro A6 c6 w6 ho6 hm6 hv6
 rw [← HTL.out] at ho6 hv6 ⊢
 simp only [Act.put,List.setIfInBounds_toArray,List.set_cons_zero,List.set_cons_succ]
 have hm7:Mod q1.vt.ownBlock.toList W5 w6:=(Mod.of_below HBA.out).trans (by rw [HV5.out,← HTL.out];exact hm6) (fun b hb => .inl hb)
 have HM7:=Hd hm7
 have hDne:q.D ∉ q1.vt.ownBlock.toList:=fun hb => by
  obtain ⟨cur,hc⟩:=own_block H1.out.told (Option.mem_toList.1 hb)
  rw [← HE1.out] at hc
  exact block_ne H1.out.blk hc (by decide) rfl
 obtain ⟨z5,z5f⟩:=hm7.hold hDne Y5.out
 have HFIN:=Hd (H1.out.retold (t':=d.told ++ [⟨1,k,1⟩]) (vt':=.slice A6 (tl + 1) c6) (by rw [List.length_append,← HTL.out];exact ho6) hm7 (fun b hb => by
  rcases hv6 b hb with h | h
  · exact .inl (by rw [HV5.out,← HTL.out];exact h)
  · exact .inr (by have:=HBA.out.size;omega)))
 rw [HE1.out] at HFIN
 clear y5 hba hbz ho6 hm6 hv6 hm7 hDne
 go_wp2
 go_end0
 exact ⟨rfl,DcRes.trans ⟨HE1.out,HM1.out.1,HM1.out.2⟩ HFIN.out⟩
set_option maxHeartbeats 3200000 in
theorem rdevict_any (h:DcO base w q d) (k:Nat) (hk:k ≤ d.base) (hbL:d.base < d.L.length) (hL:d.L.length ≤ 1000000) (ht:d.told.length ≤ 1000000) (hbw:base ≤ w.heap.size) :
 Calls Tryz.prog 91 #[.pointer (some ⟨q.D,0,none⟩),.int .i64 k] w (DcPost base w q (dcEvict d k)):=by
 have hl:=h.len
 obtain ⟨gs,c,hv⟩:=own_form h.own (by omega)
 obtain ⟨⟨x0,x0f⟩,-,-,-,-,-⟩:=h.cells
 have H:=Hd h
 have HV:=Hd hv
 have hown:=h.own
 rw [hv] at x0 hown
 have HOWN:=Hd hown
 have HHL:=Hd hl
 obtain ⟨n,hn⟩:∃ n,n = q.S.length:=⟨_,rfl⟩
 rw [← hn] at x0
 have hcap:n ≤ c:=by rw [hn];rcases hown.2 with ⟨e,-⟩ | ⟨g',c',cur,e,_,_,hc,_⟩ <;> simp at e <;> omega
 have hkn:k < n:=by omega
 have hkI:(k:Int) ≤ (n:Int):=by omega
 have hkN:k ≤ n:=by omega
 have hkc:k ≤ c:=by omega
 have HX0:=Hd (And.intro x0 x0f)
 have HKN:=Hd (And.intro hkn hn)
 have HBK:=Hd (And.intro hk hbL)
 obtain ⟨off,hoff,hoff2⟩:∃ off,(if c = k then (some ⟨gs,0,none⟩:Option Addr) else some ⟨gs,k * 2,none⟩) = some ⟨gs,off,none⟩∧(k < c→off = k * 2):=by
  by_cases h:c = k
  · exact ⟨0,if_pos h,fun h2 => by omega⟩
  · exact ⟨k * 2,if_neg h,fun _ => rfl⟩
 have HOFF:=Hd hoff2
 clear h hv hl hn hown hk x0f hoff2 hbL
 go_enter Tryz.func91,Tryz.ntmps91
 go_upto_region 0 with fail
 refine wp_region_lit ?_
 refine wpList_valG (.pointer (some ⟨q.D,0,none⟩)) (by rfl) (by rfl) ?_
 simp only [Act.put,List.setIfInBounds_toArray,List.set_cons_zero,List.set_cons_succ]
 have hba0:=below_allocs (Below.refl w.heap.size w) (.cells #[] 50)
 refine wpList_actG (.slice (some ⟨w.heap.size,0,none⟩) 0 0) (w.alloc (.cells #[] 50)) (by rfl) (by go_simp) ?_
 simp only [Act.put,List.setIfInBounds_toArray,List.set_cons_zero,List.set_cons_succ]
 have x0:=holda hba0 x0
 have HBA0:=Hd hba0
 have HE0:Hid (RsO w.heap.size (w.alloc (.cells #[] 50)) (.slice (some ⟨w.heap.size,0,none⟩) 0 0) []):=Hd ⟨rfl,.inr ⟨w.heap.size,0,#[],rfl,Nat.le_refl _,hp_new rfl,Nat.le_refl _,Nat.zero_le _,rfl,rfl⟩⟩
 refine wpList_valG (.pointer (some ⟨q.D,0,none⟩)) (by rfl) (by rfl) ?_
 simp only [Act.put,List.setIfInBounds_toArray,List.set_cons_zero,List.set_cons_succ]
 refine wpList_valG (.pointer (some ⟨q.D,0,none⟩)) (by rfl) (by go_simp) ?_
 simp only [Act.put,List.setIfInBounds_toArray,List.set_cons_zero,List.set_cons_succ]
 refine wpList_valG (.pointer (some ⟨q.D,0,none⟩)) (by rfl) (by go_simp) ?_
 simp only [Act.put,List.setIfInBounds_toArray,List.set_cons_zero,List.set_cons_succ]
 refine wpList_valG (.slice (some ⟨gs,0,none⟩) n c) (by rfl) (by go_simp) ?_
 simp only [Act.put,List.setIfInBounds_toArray,List.set_cons_zero,List.set_cons_succ]
 refine wpList_valG (.int .i64 (k:Int)) (by rfl) (by rfl) ?_
 simp only [Act.put,List.setIfInBounds_toArray,List.set_cons_zero,List.set_cons_succ]
 refine wpList_valG (.slice (some ⟨gs,off,none⟩) (n - k) (c - k)) (by rfl) (by go_simp) ?_
 simp only [Act.put,List.setIfInBounds_toArray,List.set_cons_zero,List.set_cons_succ]
 refine wpList_rows (o:=⟨some 12,_,_,_,_,_⟩) rfl (.tmp 5) (.tmp 11) rfl w.heap.size (.slice (some ⟨w.heap.size,0,none⟩) 0 0) [] rfl HE0.out ⟨gs,off,none⟩ (n - k) (c - k) ((q.S.drop k).take (n - k)) rfl (by simp;have:=HKN.out;omega) (fun j u hj => rows_src (owns_mod HOWN.out (Mod.of_below (X:=[]) HBA0.out) (fun _ _ h => by cases h)) k (n - k) off (fun h => HOFF.out (by simp at h;omega)) j u hj) (by simp;have:=HHL.out;omega) (n - k) (by simp;have:=HKN.out;omega) HBA0.out.size ?_
 rw [List.nil_append]
 intro A3 c3 w3 ho3 hm3 hv3
 simp only [Act.put,List.setIfInBounds_toArray,List.set_cons_zero,List.set_cons_succ]
 have hb3:Below w.heap.size w w3:=HBA0.out.trans (hm3.below (fun g hg => (World.ownsRow.lt (show World.ownsRow _ _ _ _ _ _ _ from HE0.out) g (Option.mem_toList.1 hg)).1) HBA0.out.size)
 have HB3:=Hd hb3
 have HO3:=Hd ho3
 have HXD:=Hd (hold hb3 HX0.out)
 obtain ⟨x0,x0f⟩:=HXD.out
 have hres:=H.out.relist (w1:=w3) (vl':=.slice A3 (n - k) c3) (S':=(q.S.drop k).take (n - k)) (L':=d.L.drop k) (by
  have e:((q.S.drop k).take (n - k)).length = n - k:=by simp;have:=HKN.out;omega
  have:=owns_weaken (show World.ownsRow _ _ _ _ _ _ _ from HO3.out) hbw
  exact this) hb3 (fun b hb => (World.ownsRow.lt (show World.ownsRow _ _ _ _ _ _ _ from HO3.out) b hb).1) (by
  rw [show (q.S.drop k).take (n - k) = q.S.drop k from List.take_of_length_le (by simp;have:=HKN.out;omega),← H.out.rl,List.map_drop]) (fun x hx => H.out.rows x (List.mem_of_mem_drop (List.mem_of_mem_take hx)))
 have HRES:=Hd hres
 clear ho3 hm3 hv3 hb3 hoff hres hba0
 go_upto_region 1 with fail
 clear x0 x0f HXD
 generalize World.setCell _ _ _ = W3 at HRES ⊢
 obtain ⟨q1,e1,h1,hm1,hx1⟩:=HRES.out
 have HR3:Hid (DcRes base w q { d with L:=d.L.drop k,base:=d.base - k } (W3.setCell ⟨q1.D,1,none⟩ (.int .i64 (d.base - k:Nat)))):=Hd (DcRes.trans ⟨e1,hm1,hx1⟩ (h1.renum 1 (by decide) (.int .i64 (d.base - k:Nat)) { d with L:=d.L.drop k,base:=d.base - k } rfl rfl rfl h1.gone0 rfl))
 obtain ⟨y1,y1f⟩:=h1.cells.2.1
 rw [e1] at y1 y1f HR3
 clear h1 hm1 hx1 e1 HRES
 obtain ⟨b',hb'⟩:∃ b':Nat,b' = d.base - k:=⟨_,rfl⟩
 have hbI:(d.base:Int) - (k:Int) = (b':Int):=by have:=HBK.out;omega
 have hwb:IntKind.i64.wrap (b':Int) = (b':Int):=IntWalk.i64_in _ (by have:=HBK.out;omega)
 rw [← hb'] at HR3
 have HBB:=Hd hb'
 clear hb'
 go_upto_region 2 with fail
 clear y1 y1f
 generalize World.setCell _ _ _ = W4 at HR3 ⊢
 obtain ⟨q1,e1,h1,hm1,hx1⟩:=HR3.out
 have HR4:Hid (DcRes base w q { d with L:=d.L.drop k,base:=b',gone:=d.gone + k } (W4.setCell ⟨q1.D,4,none⟩ (.int .u64 ((d.gone + k) % 18446744073709551616)))):=Hd (DcRes.trans ⟨e1,hm1,hx1⟩ (h1.renum 4 (by decide) (.int .u64 ((d.gone + k) % 18446744073709551616)) { d with L:=d.L.drop k,base:=b',gone:=d.gone + k } rfl rfl rfl (by have:=h1.gone0;show 0 ≤ d.gone + k;have:0 ≤ d.gone:=this;omega) rfl))
 obtain ⟨y1,y1f⟩:=h1.cells.2.2.2.2.1
 rw [e1] at y1 y1f HR4
 clear h1 hm1 hx1 e1 HR3 hbI hwb
 obtain ⟨G,hG⟩:∃ G,G = d.gone % 18446744073709551616:=⟨_,rfl⟩
 obtain ⟨G2,hG2⟩:∃ G2,G2 = (d.gone + k) % 18446744073709551616:=⟨_,rfl⟩
 have hwk:IntKind.u64.wrap (k:Int) = (k:Int):=by rw [IntKind.wrap_u64];have:=HBK.out;omega
 have hwG:IntKind.u64.wrap (G + k) = G2:=by rw [IntKind.wrap_u64,hG,hG2];omega
 rw [← hG2] at HR4
 simp only [] at y1
 rw [← hG] at y1
 have HRES:Hid (DcRes base w q { d with L:=d.L.drop k,base:=b',gone:=d.gone + k } (W4.setCell ⟨q.D,4,none⟩ (.int .u64 G2))):=HR4
 clear hG hG2 HR4
 go_upto_region 3 with fail
 clear y1 y1f hwk hwG
 generalize World.setCell _ _ _ = W5 at HRES ⊢
 obtain ⟨q1,e1,h1,hm1,hx1⟩:=HRES.out
 have HE1:=Hd e1
 have HM1:=Hd (And.intro hm1 hx1)
 have H1:=Hd h1
 obtain ⟨A5,c5,hv5⟩:=row_form h1.told
 have y5:=h1.cells.2.2.2.2.2
 rw [hv5,e1] at y5
 have Y5:=Hd y5
 have HV5:=Hd hv5
 obtain ⟨y5,-⟩:=y5
 obtain ⟨tl,htl⟩:∃ tl,tl = d.told.length:=⟨_,rfl⟩
 have HTL:=Hd htl
 rw [← htl] at y5
 clear h1 hm1 hx1 e1 hv5 htl HRES
 refine wp_region_lit ?_
 refine wpList_valG (.pointer (some ⟨q.D,0,none⟩)) (by rfl) (by rfl) ?_
 simp only [Act.put,List.setIfInBounds_toArray,List.set_cons_zero,List.set_cons_succ]
 refine wpList_valG (.pointer (some ⟨q.D,0,none⟩)) (by rfl) (by rfl) ?_
 simp only [Act.put,List.setIfInBounds_toArray,List.set_cons_zero,List.set_cons_succ]
 refine wpList_valG (.pointer (some ⟨q.D,0,none⟩)) (by rfl) (by go_simp) ?_
 simp only [Act.put,List.setIfInBounds_toArray,List.set_cons_zero,List.set_cons_succ]
 refine wpList_valG (.pointer (some ⟨q.D,5,none⟩)) (by rfl) (by go_simp) ?_
 simp only [Act.put,List.setIfInBounds_toArray,List.set_cons_zero,List.set_cons_succ]
 refine wpList_valG (.slice A5 tl c5) (by rfl) (by go_simp) ?_
 simp only [Act.put,List.setIfInBounds_toArray,List.set_cons_zero,List.set_cons_succ]
 refine wpList_valG (.int .i64 (k:Int)) (by rfl) (by rfl) ?_
 simp only [Act.put,List.setIfInBounds_toArray,List.set_cons_zero,List.set_cons_succ]
 refine wpList_valG (.agg #[.int .i64 2,.int .i64 0,.int .i64 (k:Int)]) (by rfl) (by go_simp) ?_
 simp only [Act.put,List.setIfInBounds_toArray,List.set_cons_zero,List.set_cons_succ]
 refine wpList_actG (.slice (some ⟨W5.heap.size,0,none⟩) 1 1) (W5.alloc (.cells #[.int .i64 2,.int .i64 0,.int .i64 (k:Int)] 88)) (by rfl) (by go_simp) ?_
 simp only [Act.put,List.setIfInBounds_toArray,List.set_cons_zero,List.set_cons_succ]
 have hba:=below_allocs (Below.refl W5.heap.size W5) (.cells #[.int .i64 2,.int .i64 0,.int .i64 (k:Int)] 88)
 have hbz:base ≤ (W5.alloc (.cells #[.int .i64 2,.int .i64 0,.int .i64 (k:Int)] 88)).heap.size:=by have:=HM1.out.1.size;simp;omega
 have HBA:=Hd hba
 refine wpList_told (o:=⟨some 42,_,_,_,_,_⟩) rfl (.tmp 38) (.tmp 41) rfl base (.slice A5 tl c5) d.told rfl (by have:=(H1.out.below hba).told;rw [HV5.out,← HTL.out] at this;rw [← HTL.out];exact this) W5.heap.size 1 ⟨2,0,k⟩ rfl (hp_new rfl) (by omega) hbz ?_
 intro A6 c6 w6 ho6 hm6 hv6
 rw [← HTL.out] at ho6 hv6 ⊢
 simp only [Act.put,List.setIfInBounds_toArray,List.set_cons_zero,List.set_cons_succ]
 have hm7:Mod q1.vt.ownBlock.toList W5 w6:=(Mod.of_below HBA.out).trans (by rw [HV5.out,← HTL.out];exact hm6) (fun b hb => .inl hb)
 have HM7:=Hd hm7
 have hDne:q.D ∉ q1.vt.ownBlock.toList:=fun hb => by
  obtain ⟨cur,hc⟩:=own_block H1.out.told (Option.mem_toList.1 hb)
  rw [← HE1.out] at hc
  exact block_ne H1.out.blk hc (by decide) rfl
 obtain ⟨z5,z5f⟩:=hm7.hold hDne Y5.out
 have HFIN:=Hd (H1.out.retold (t':=d.told ++ [⟨2,0,k⟩]) (vt':=.slice A6 (tl + 1) c6) (by rw [List.length_append,← HTL.out];exact ho6) hm7 (fun b hb => by
  rcases hv6 b hb with h | h
  · exact .inl (by rw [HV5.out,← HTL.out];exact h)
  · exact .inr (by have:=HBA.out.size;omega)))
 rw [HE1.out] at HFIN
 clear y5 hba hbz ho6 hm6 hv6 hm7 hDne
 go_wp2
 go_end0
 have:=DcRes.trans ⟨HE1.out,HM1.out.1,HM1.out.2⟩ HFIN.out
 rw [HBB.out] at this
 exact ⟨rfl,this⟩
end
end Go.Proofs.YtffdblmdelgkaaaGreat
