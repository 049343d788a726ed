/- Joined by a tool of this claim out of smaller texts. Conditions: as stated. -/
import Derived.Test.YtaefcahblmopfaaGreatDoorDp28
set_option linter.unusedVariables false
set_option linter.unusedSimpArgs false
set_option maxRecDepth 100000
open Go.Lib renaming hid → Hd
namespace Go.Proofs.YtaefcahblmopfaaGreatDoor
open Go.RowKit
def Wh (p:List Cl):Prop:=∀ q,mendL (p ++ q) = p ++ mendL q
theorem Wh.nil:Wh []:=fun _ => rfl
theorem Wh.app {p q:List Cl} (h1:Wh p) (h2:Wh q):Wh (p ++ q):=fun r => by rw [List.append_assoc,h1,h2,List.append_assoc]
theorem Wh.one {c:Cl} (h:c.half = 0):Wh [c]:=fun q => mendL_zero h q
theorem Wh.two {c d:Cl} (h:pairB c d = true):Wh [c,d]:=fun q => by
 have h1:c.half = 1:=by
  unfold pairB at h
  simp only [Bool.and_eq_true,decide_eq_true_eq] at h
  exact h.1.1
 show mendL (c :: d :: q) = c :: d :: mendL q
 rw [mendL_cons,if_neg (by omega),if_pos h]
theorem Wh.rep {c:Cl} (h:c.half = 0):∀ k,Wh (List.replicate k c)
 | 0 => Wh.nil
 | k + 1 => by
   rw [List.replicate_succ]
   exact (Wh.one h).app (Wh.rep h k)
theorem Wh.zeros (k:Nat):Wh (zesC k):=Wh.rep rfl k
theorem Wh.mend {p:List Cl} (h:Wh p):mendL p = p:=by
 have:=h []
 rwa [List.append_nil,show mendL [] = [] from rfl,List.append_nil] at this
theorem pair_mk (r:Int) (m:ByteArray) (a:Atr):pairB (mkCl r m 1 a) (mkCl r m 2 a) = true:=by
 unfold pairB mkCl
 simp
theorem pair_half {c d:Cl} (h:pairB c d = true):c.half = 1∧d.half = 2∧c = { d with half:=1 }:=by
 unfold pairB at h
 simp only [Bool.and_eq_true,decide_eq_true_eq] at h
 exact ⟨h.1.1,h.1.2,h.2⟩
theorem mk_self (c:Cl):mkCl c.r c.more c.half (atrOf c) = c:=rfl
theorem zeros_succ (k:Nat):zesC (k + 1) = zeC :: zesC k:=List.replicate_succ
section
variable {p:List Cl}
theorem putL_one (hp:Wh p) (k:Nat) (r:Int) (a:Atr) (hw:widOf r = 1):putL (p ++ zesC (k + 1)) p.length r a = p ++ mkCl r ByteArray.empty 0 a :: zesC k:=by
 have e:mendL (p ++ zesC (k + 1)) = p ++ zesC (k + 1):=(hp.app (Wh.zeros _)).mend
 unfold putL
 rw [e]
 simp only []
 rw [if_pos ⟨hw,by omega,by simp [zesC];omega⟩,Int.toNat_natCast,List.set_append_right _ _ (Nat.le_refl _),Nat.sub_self,zeros_succ,List.set_cons_zero]
 rw [hp,mendL_zero rfl,(Wh.zeros k).mend]
theorem putL_two (hp:Wh p) (k:Nat) (r:Int) (a:Atr) (hw:widOf r = 2):putL (p ++ zesC (k + 2)) p.length r a = p ++ mkCl r ByteArray.empty 1 a :: mkCl r ByteArray.empty 2 a :: zesC k:=by
 have e:mendL (p ++ zesC (k + 2)) = p ++ zesC (k + 2):=(hp.app (Wh.zeros _)).mend
 unfold putL
 rw [e]
 simp only []
 rw [if_neg (by omega),if_pos ⟨hw,by omega,by simp [zesC];omega⟩,Int.toNat_natCast,List.set_append_right _ _ (Nat.le_refl _),Nat.sub_self,zeros_succ,List.set_cons_zero,List.set_append_right _ _ (by omega),show p.length + 1 - p.length = 0 + 1 by omega,List.set_cons_succ,zeros_succ,List.set_cons_zero]
 have:=(hp.app ((Wh.two (pair_mk r ByteArray.empty a)).app (Wh.zeros k))).mend
 simpa using this
theorem markL_one (hp:Wh p) (k:Nat) {r q:Int} {m:ByteArray} (a:Atr) (hr:r ≠ 0) (hw:widOf q = 0) (hm:(m ++ putB q).size ≤ 32) :
 markL (p ++ mkCl r m 0 a :: zesC k) p.length q = p ++ mkCl r (m ++ putB q) 0 a :: zesC k:=by
 have e:mendL (p ++ mkCl r m 0 a :: zesC k) = p ++ mkCl r m 0 a :: zesC k:=(hp.app ((Wh.one (c:=mkCl r m 0 a) rfl).app (Wh.zeros k))).mend
 have e2:mendL (p ++ mkCl r (m ++ putB q) 0 a :: zesC k) = p ++ mkCl r (m ++ putB q) 0 a :: zesC k:=(hp.app ((Wh.one (c:=mkCl r (m ++ putB q) 0 a) rfl).app (Wh.zeros k))).mend
 unfold markL
 rw [e]
 simp only [Int.toNat_natCast]
 rw [List.getElem?_append_right (Nat.le_refl _),Nat.sub_self,List.getElem?_cons_zero]
 simp only []
 rw [if_neg (by
  rintro (h | h | h | h)
  · omega
  · exact hr h
  · exact h hw
  · have:(m ++ putB q).size ≤ 32:=hm
    exact absurd h (by show ¬ 32 < (m ++ putB q).size;omega))]
 have hmo:=modify_append p (mkCl r m 0 a :: zesC k) 0 (withMore (m ++ putB q))
 rw [Nat.add_zero] at hmo
 rw [if_neg (by show ¬ (0:Int) = 1;decide),if_neg (by show ¬ (0:Int) = 2;decide)]
 show mendL ((p ++ mkCl r m 0 a :: zesC k).modify p.length (withMore (m ++ putB q))) = _
 rw [hmo]
 exact e2
theorem markL_two (hp:Wh p) (k:Nat) {r q:Int} {m:ByteArray} (a:Atr) (hr:r ≠ 0) (hw:widOf q = 0) (hm:(m ++ putB q).size ≤ 32) :
 markL (p ++ mkCl r m 1 a :: mkCl r m 2 a :: zesC k) ((p.length + 1:Nat):Int) q = p ++ mkCl r (m ++ putB q) 1 a :: mkCl r (m ++ putB q) 2 a :: zesC k:=by
 have e:mendL (p ++ mkCl r m 1 a :: mkCl r m 2 a :: zesC k) = p ++ mkCl r m 1 a :: mkCl r m 2 a :: zesC k:=(hp.app ((Wh.two (pair_mk r m a)).app (Wh.zeros k))).mend
 have e2:mendL (p ++ mkCl r (m ++ putB q) 1 a :: mkCl r (m ++ putB q) 2 a :: zesC k) = p ++ mkCl r (m ++ putB q) 1 a :: mkCl r (m ++ putB q) 2 a :: zesC k:=(hp.app ((Wh.two (pair_mk r (m ++ putB q) a)).app (Wh.zeros k))).mend
 unfold markL
 rw [e]
 simp only [Int.toNat_natCast]
 rw [List.getElem?_append_right (by omega),show p.length + 1 - p.length = 0 + 1 by omega,List.getElem?_cons_succ,List.getElem?_cons_zero]
 simp only []
 rw [if_neg (by
  rintro (h | h | h | h)
  · omega
  · exact hr h
  · exact h hw
  · have:(m ++ putB q).size ≤ 32:=hm
    exact absurd h (by show ¬ 32 < (m ++ putB q).size;omega))]
 have hm0:=modify_append p (mkCl r m 1 a :: mkCl r m 2 a :: zesC k) 0 (withMore (m ++ putB q))
 rw [Nat.add_zero] at hm0
 have hm1:=modify_append p (mkCl r (m ++ putB q) 1 a :: mkCl r m 2 a :: zesC k) 1 (withMore (m ++ putB q))
 rw [if_neg (by show ¬ (2:Int) = 1;decide),if_pos (show (mkCl r m 2 a).half = 2 from rfl)]
 show mendL (((p ++ mkCl r m 1 a :: mkCl r m 2 a :: zesC k).modify (p.length + 1 - 1) (withMore (m ++ putB q))).modify (p.length + 1) (withMore (m ++ putB q))) = _
 rw [Nat.add_sub_cancel,hm0]
 show mendL ((p ++ mkCl r (m ++ putB q) 1 a :: mkCl r m 2 a :: zesC k).modify (p.length + 1) (withMore (m ++ putB q))) = _
 rw [hm1]
 exact e2
end
theorem numsOf_str {xs:List Int} (hx:∀ x ∈ xs,0 ≤ x∧x < 256):numsOf (strOfNums xs) = xs:=by
 unfold numsOf strOfNums
 simp only [List.map_map]
 conv => rhs;rw [← List.map_id xs]
 refine List.map_congr_left (fun x h => ?_)
 have:=hx x h
 show ((UInt8.ofNat x.toNat).toNat:Int) = x
 rw [UInt8.toNat_ofNat']
 omega
theorem putB_nums {r:Int} (h:isScal r = true):numsOf (putB r) = bytesR r:=by
 rw [bytesR_put r h,numsOf_str (bytesR_range r h)]
theorem putB_one {r:Int} (h:isScal r = true) (L:List Int):strOfNums ((r :: L).flatMap bytesR) = putB r ++ strOfNums (L.flatMap bytesR):=by
 rw [List.flatMap_cons,← strOfNums_append,bytesR_put r h]
theorem bytes_assoc (a b c:ByteArray):a ++ b ++ c = a ++ (b ++ c):=by
 apply ByteArray.ext
 simp
section
variable {st:List Bool} {cols:Nat} {y:Nat}
theorem set_selfL {scr:List (List Cl)} {l:List Cl} (h:scr[y]? = some l):scr.set y l = scr:=by
 apply List.ext_getElem?
 intro i
 rw [List.getElem?_set]
 split
 · next hi =>
   subst hi
   rw [if_pos (List.getElem?_eq_some_iff.1 h).1,h]
 · rfl
theorem get_set {scr:List (List Cl)} {l:List Cl} (hy:y < scr.length):(scr.set y l)[y]? = some l:=by
 rw [List.getElem?_set,if_pos rfl,if_pos hy]
theorem feed_marks1 {p:List Cl} (hp:Wh p) (k:Nat) {r:Int} {a:Atr} (ha:RightA a) (hr:r ≠ 0):∀ (L:List Int) (m:ByteArray) (scr:List (List Cl)) (la:Int),scr[y]? = some (p ++ mkCl r m 0 a :: zesC k)→p.length + 1 ≤ cols→(∀ q ∈ L,isScal q = true∧widOf q = 0)→(m ++ strOfNums (L.flatMap bytesR)).size ≤ 32 →
 Feeds (dS st cols scr a y (p.length + 1) la) (L.flatMap bytesR) (dS st cols (scr.set y (p ++ mkCl r (m ++ strOfNums (L.flatMap bytesR)) 0 a :: zesC k)) a y (p.length + 1) la)
 | [],m,scr,la,h,hx,_,_ => by
   rw [show m ++ strOfNums (([]:List Int).flatMap bytesR) = m from by apply ByteArray.ext;simp [strOfNums],set_selfL h]
   exact Feeds.refl _
 | q :: L,m,scr,la,h,hx,hL,hz => by
   obtain ⟨q1,q2⟩:=hL q (List.mem_cons_self ..)
   have hy:=(List.getElem?_eq_some_iff.1 h).1
   rw [putB_one q1,← bytes_assoc] at hz ⊢
   have hz2:(m ++ putB q).size ≤ 32:=by rw [ByteArray.size_append] at hz;omega
   have h1:=feed_mark (st:=st) (cols:=cols) (a:=a) (la:=la) h q2 hx ha
   rw [show ((p.length + 1:Nat):Int) - 1 = (p.length:Int) by omega,markL_one hp k a hr q2 hz2] at h1
   have h2:=feed_marks1 hp k ha hr L (m ++ putB q) (scr.set y (p ++ mkCl r (m ++ putB q) 0 a :: zesC k)) la (get_set hy) hx (fun x hx => hL x (List.mem_cons_of_mem _ hx)) hz
   rw [List.set_set] at h2
   exact h1.trans h2
theorem feed_marks2 {p:List Cl} (hp:Wh p) (k:Nat) {r:Int} {a:Atr} (ha:RightA a) (hr:r ≠ 0):∀ (L:List Int) (m:ByteArray) (scr:List (List Cl)) (la:Int),scr[y]? = some (p ++ mkCl r m 1 a :: mkCl r m 2 a :: zesC k)→p.length + 2 ≤ cols→(∀ q ∈ L,isScal q = true∧widOf q = 0)→(m ++ strOfNums (L.flatMap bytesR)).size ≤ 32 →
 Feeds (dS st cols scr a y (p.length + 2) la) (L.flatMap bytesR) (dS st cols (scr.set y (p ++ mkCl r (m ++ strOfNums (L.flatMap bytesR)) 1 a :: mkCl r (m ++ strOfNums (L.flatMap bytesR)) 2 a :: zesC k)) a y (p.length + 2) la)
 | [],m,scr,la,h,hx,_,_ => by
   rw [show m ++ strOfNums (([]:List Int).flatMap bytesR) = m from by apply ByteArray.ext;simp [strOfNums],set_selfL h]
   exact Feeds.refl _
 | q :: L,m,scr,la,h,hx,hL,hz => by
   obtain ⟨q1,q2⟩:=hL q (List.mem_cons_self ..)
   have hy:=(List.getElem?_eq_some_iff.1 h).1
   rw [putB_one q1,← bytes_assoc] at hz ⊢
   have hz2:(m ++ putB q).size ≤ 32:=by rw [ByteArray.size_append] at hz;omega
   have h1:=feed_mark (st:=st) (cols:=cols) (a:=a) (la:=la) h q2 hx ha
   rw [show ((p.length + 2:Nat):Int) - 1 = ((p.length + 1:Nat):Int) by omega,markL_two hp k a hr q2 hz2] at h1
   have h2:=feed_marks2 hp k ha hr L (m ++ putB q) (scr.set y (p ++ mkCl r (m ++ putB q) 1 a :: mkCl r (m ++ putB q) 2 a :: zesC k)) la (get_set hy) hx (fun x hx => hL x (List.mem_cons_of_mem _ hx)) hz
   rw [List.set_set] at h2
   exact h1.trans h2
theorem DrawOk.right {c:Cl} (h:DrawOk c):RightA (atrOf c):=h.2.1
theorem DrawOk.blank {c:Cl} (h:DrawOk c) (hr:c.r = 0):c = blankC (backOf (atrOf c)):=by
 obtain ⟨h1,-,h3⟩:=h
 obtain ⟨f1,f2,f3⟩:=h3 hr
 rcases h1 with ⟨-,e1,e2⟩ | ⟨h1,-⟩
 · obtain ⟨r,more,half,fk,fn,bk,bn,fl⟩:=c
   simp only at hr e1 e2 f1 f2 f3
   subst hr e1 e2 f1 f2 f3
   rfl
 · exact absurd hr h1
theorem DrawOk.marks {c:Cl} (h:DrawOk c) (hr:c.r ≠ 0):(∃ L:List Int,(∀ r ∈ L,isScal r = true∧widOf r = 0)∧c.more = strOfNums (L.flatMap bytesR)∧c.more.size ≤ 32)∧(c.half = 0∧widOf c.r = 1 ∨ c.half = 1∧widOf c.r = 2 ∨ c.half = 2∧widOf c.r = 2):=by
 rcases h.1 with ⟨h1,-⟩ | ⟨-,h2,h3⟩
 · exact absurd h1 hr
 · exact ⟨h2,h3⟩
theorem cellI_eq {c:Cl} {L:List Int} (h:∀ r ∈ L,isScal r = true∧widOf r = 0) (hm:c.more = strOfNums (L.flatMap bytesR)) (hs:isScal c.r = true):cellI c = bytesR c.r ++ L.flatMap bytesR:=by
 unfold cellI
 rw [putB_nums hs,hm,numsOf_str (fun x hx => by
  obtain ⟨r,h1,h2⟩:=List.mem_flatMap.1 hx
  exact bytesR_range r (h r h1).1 x h2)]
theorem emptyB (m:ByteArray):ByteArray.empty ++ m = m:=by apply ByteArray.ext;simp
theorem feed_cell1 {p:List Cl} (hp:Wh p) (k:Nat) {c:Cl} (hc:DrawOk c) (hr:c.r ≠ 0) (h0:c.half = 0) {on:Atr} (hon:RightA on) {scr:List (List Cl)} (la:Int) (h:scr[y]? = some (p ++ zesC (k + 1))) (hx:p.length + (k + 1) = cols) :
 Feeds (dS st cols scr on y p.length la) (turnI on (atrOf c) ++ cellI c) (dS st cols (scr.set y (p ++ c :: zesC k)) (atrOf c) y (p.length + 1) c.r):=by
 have hy:=(List.getElem?_eq_some_iff.1 h).1
 obtain ⟨⟨L,hL,hm,hz⟩,hw⟩:=hc.marks hr
 have hw1:widOf c.r = 1:=by omega
 rw [cellI_eq hL hm (wid_scal (by omega)).1]
 have h1:=feed_turn (st:=st) (cols:=cols) (la:=la) (x:=p.length) hy (by omega) hon hc.right
 have h2:=feed_put (st:=st) (cols:=cols) (la:=la) (a:=atrOf c) (x:=p.length) h 1 hw1 (by decide) (by omega) hc.right
 rw [putL_one hp k c.r (atrOf c) hw1] at h2
 have h3:=feed_marks1 (st:=st) (cols:=cols) hp k hc.right hr L ByteArray.empty _ c.r (get_set hy) (by omega) hL (by rw [emptyB,← hm];exact hz)
 rw [emptyB,← hm,List.set_set,← h0,mk_self] at h3
 rw [h0] at h3
 exact h1.trans (h2.trans h3)
theorem feed_cell2 {p:List Cl} (hp:Wh p) (k:Nat) {c d:Cl} (hc:DrawOk c) (hr:c.r ≠ 0) (hcd:pairB c d = true) {on:Atr} (hon:RightA on) {scr:List (List Cl)} (la:Int) (h:scr[y]? = some (p ++ zesC (k + 2))) (hx:p.length + (k + 2) = cols) :
 Feeds (dS st cols scr on y p.length la) (turnI on (atrOf c) ++ cellI c) (dS st cols (scr.set y (p ++ c :: d :: zesC k)) (atrOf c) y (p.length + 2) c.r):=by
 have hy:=(List.getElem?_eq_some_iff.1 h).1
 obtain ⟨p1,p2,p3⟩:=pair_half hcd
 obtain ⟨⟨L,hL,hm,hz⟩,hw⟩:=hc.marks hr
 have hw1:widOf c.r = 2:=by omega
 rw [cellI_eq hL hm (wid_scal (by omega)).1]
 have h1:=feed_turn (st:=st) (cols:=cols) (la:=la) (x:=p.length) hy (by omega) hon hc.right
 have h2:=feed_put (st:=st) (cols:=cols) (la:=la) (a:=atrOf c) (x:=p.length) h 2 hw1 (by decide) (by omega) hc.right
 rw [putL_two hp k c.r (atrOf c) hw1] at h2
 have h3:=feed_marks2 (st:=st) (cols:=cols) hp k hc.right hr L ByteArray.empty _ c.r (get_set hy) (by omega) hL (by rw [emptyB,← hm];exact hz)
 rw [emptyB,← hm,List.set_set] at h3
 have e1:mkCl c.r c.more 1 (atrOf c) = c:=by rw [← p1];exact mk_self c
 have e2:mkCl c.r c.more 2 (atrOf c) = d:=by
  rw [p3]
  obtain ⟨r,more,half,fk,fn,bk,bn,fl⟩:=d
  simp only at p2
  subst p2
  rfl
 rw [e1,e2] at h3
 exact h1.trans (h2.trans h3)
def Gly:List Cl→Prop
 | [] => True
 | [c] => c.half = 0
 | c :: d :: l => (c.half = 0∧Gly (d :: l)) ∨ (pairB c d = true∧Gly l)
theorem Gly.wh:∀ {l:List Cl},Gly l→Wh l
 | [],_ => Wh.nil
 | [_],h => Wh.one h
 | c :: d :: l,h => by
   have h:(c.half = 0∧Gly (d :: l)) ∨ (pairB c d = true∧Gly l):=h
   rcases h with ⟨h1,h2⟩ | ⟨h1,h2⟩
   · exact (Wh.one h1).app h2.wh
   · exact (Wh.two h1).app h2.wh
theorem feed_cells:∀ (seg:List Cl),Gly seg→(∀ c ∈ seg,DrawOk c∧c.r ≠ 0)→∀ (p:List Cl) (k:Nat) (on:Atr) (la:Int) (scr:List (List Cl)),Wh p→RightA on→scr[y]? = some (p ++ zesC (seg.length + k))→p.length + (seg.length + k) = cols →
 ∃ la',Feeds (dS st cols scr on y p.length la) (cellsI on seg).1 (dS st cols (scr.set y (p ++ (seg ++ zesC k))) (cellsI on seg).2 y (p.length + seg.length) la')∧RightA (cellsI on seg).2
 | [],_,_,p,k,on,la,scr,_,hon,h,_ => by
   refine ⟨la,?_,hon⟩
   rw [show ([]:List Cl).length + k = k by simp] at h
   rw [show ([]:List Cl) ++ zesC k = zesC k from rfl,set_selfL h]
   exact Feeds.refl _
 | [c],hg,hok,p,k,on,la,scr,hp,hon,h,hx => by
   have h0:c.half = 0:=hg
   obtain ⟨c1,c2⟩:=hok c (List.mem_singleton.2 rfl)
   have e:cellsI on [c] = (turnI on (atrOf c) ++ cellI c,atrOf c):=by
    show (if c.half = 2 then _ else _) = _
    rw [if_neg (by omega)]
    simp [cellsI]
   rw [e]
   rw [show [c].length + k = k + 1 by simp;omega] at h hx
   exact ⟨c.r,feed_cell1 hp k c1 c2 h0 hon la h hx,c1.right⟩
 | c :: d :: l,hg,hok,p,k,on,la,scr,hp,hon,h,hx => by
   have hg:(c.half = 0∧Gly (d :: l)) ∨ (pairB c d = true∧Gly l):=hg
   have hy:=(List.getElem?_eq_some_iff.1 h).1
   obtain ⟨c1,c2⟩:=hok c (List.mem_cons_self ..)
   rcases hg with ⟨h0,h1⟩ | ⟨h0,h1⟩
   · have e:cellsI on (c :: d :: l) = (turnI on (atrOf c) ++ (cellI c ++ (cellsI (atrOf c) (d :: l)).1),(cellsI (atrOf c) (d :: l)).2):=by
      show (if c.half = 2 then _ else _) = _
      rw [if_neg (by omega)]
     rw [e]
     have z1:(c :: d :: l).length + k = ((d :: l).length + k) + 1:=by simp;omega
     rw [z1] at h hx
     have f1:=feed_cell1 (st:=st) (y:=y) hp _ c1 c2 h0 hon la h hx
     obtain ⟨la',f2,f3⟩:=feed_cells (d :: l) h1 (fun x hx => hok x (List.mem_cons_of_mem _ hx)) (p ++ [c]) k (atrOf c) c.r (scr.set y (p ++ c :: zesC ((d :: l).length + k))) (hp.app (Wh.one h0)) c1.right (by rw [get_set hy];simp) (by simp at hx ⊢;omega)
     refine ⟨la',?_,f3⟩
     rw [List.set_set] at f2
     have z2:p.length + (c :: d :: l).length = (p ++ [c]).length + (d :: l).length:=by simp;omega
     have z3:p ++ (c :: d :: l ++ zesC k) = p ++ [c] ++ (d :: l ++ zesC k):=by simp
     rw [z2,z3,← List.append_assoc]
     rw [show p.length + 1 = (p ++ [c]).length by simp] at f1
     exact f1.trans f2
   · obtain ⟨p1,p2,p3⟩:=pair_half h0
     have e:cellsI on (c :: d :: l) = (turnI on (atrOf c) ++ (cellI c ++ (cellsI (atrOf c) l).1),(cellsI (atrOf c) l).2):=by
      show (if c.half = 2 then _ else (turnI on (atrOf c) ++ (cellI c ++ (cellsI (atrOf c) (d :: l)).1),(cellsI (atrOf c) (d :: l)).2)) = _
      rw [if_neg (by omega),show cellsI (atrOf c) (d :: l) = cellsI (atrOf c) l from by show (if d.half = 2 then _ else _) = _;rw [if_pos p2]]
     rw [e]
     have z1:(c :: d :: l).length + k = (l.length + k) + 2:=by simp;omega
     rw [z1] at h hx
     have f1:=feed_cell2 (st:=st) (y:=y) hp _ c1 c2 h0 hon la h hx
     obtain ⟨la',f2,f3⟩:=feed_cells l h1 (fun x hx => hok x (List.mem_cons_of_mem _ (List.mem_cons_of_mem _ hx))) (p ++ [c,d]) k (atrOf c) c.r (scr.set y (p ++ c :: d :: zesC (l.length + k))) (hp.app (Wh.two h0)) c1.right (by rw [get_set hy];simp) (by simp at hx ⊢;omega)
     refine ⟨la',?_,f3⟩
     rw [List.set_set] at f2
     have z2:p.length + (c :: d :: l).length = (p ++ [c,d]).length + l.length:=by simp;omega
     have z3:p ++ (c :: d :: l ++ zesC k) = p ++ [c,d] ++ (l ++ zesC k):=by simp
     rw [z2,z3,← List.append_assoc]
     rw [show p.length + 2 = (p ++ [c,d]).length by simp] at f1
     exact f1.trans f2
end
theorem half_empty {c:Cl} (h:emptyC c = c):c.half = 0:=by rw [← h];rfl
theorem gly_of:∀ (seg rest:List Cl),mendL (seg ++ rest) = seg ++ rest→(∀ c ∈ seg,DrawOk c∧c.r ≠ 0)→(∀ d r',rest = d :: r'→d.r = 0)→Gly seg
 | [],_,_,_,_ => trivial
 | [c],rest,hm,hok,hr => by
   show c.half = 0
   obtain ⟨c1,c2⟩:=hok c (List.mem_singleton.2 rfl)
   obtain ⟨-,hw⟩:=c1.marks c2
   by_cases h0:c.half = 0
   · exact h0
   match rest,hm,hr with
   | [],hm,_ =>
     have hm:mendL [c] = [c]:=hm
     rw [mendL_one,if_neg (by omega)] at hm
     exact half_empty (List.cons.inj hm).1
   | d :: r',hm,hr =>
     have hm:mendL (c :: d :: r') = c :: d :: r':=hm
     have hd:=hr d r' rfl
     rw [mendL_cons,if_neg h0] at hm
     by_cases hp:pairB c d = true
     · have:=(pair_half hp).2.2
       exact absurd (by rw [this];exact hd) c2
     · rw [if_neg hp] at hm
       exact half_empty (List.cons.inj hm).1
 | c :: d :: l,rest,hm,hok,hr => by
   have hm:mendL (c :: d :: (l ++ rest)) = c :: d :: (l ++ rest):=hm
   show (c.half = 0∧Gly (d :: l)) ∨ (pairB c d = true∧Gly l)
   by_cases h0:c.half = 0
   · rw [mendL_zero h0] at hm
     exact .inl ⟨h0,gly_of (d :: l) rest (List.cons.inj hm).2 (fun x hx => hok x (List.mem_cons_of_mem _ hx)) hr⟩
   · rw [mendL_cons,if_neg h0] at hm
     by_cases hp:pairB c d = true
     · rw [if_pos hp] at hm
       exact .inr ⟨hp,gly_of l rest (List.cons.inj (List.cons.inj hm).2).2 (fun x hx => hok x (List.mem_cons_of_mem _ (List.mem_cons_of_mem _ hx))) hr⟩
     · rw [if_neg hp] at hm
       exact absurd (half_empty (List.cons.inj hm).1) h0
theorem run_split (c:Cl) (l:List Cl):∃ s r,l = s ++ r∧runN (c :: l) = s.length + 1∧(c :: l).take (runN (c :: l)) = c :: s∧(c :: l).drop (runN (c :: l)) = r∧(∀ x ∈ s,sameR c x = true)∧(∀ d r',r = d :: r'→sameR c d = false):=by
 refine ⟨l.takeWhile (sameR c),l.dropWhile (sameR c),(List.takeWhile_append_dropWhile).symm,rfl,?_,?_,fun x hx => ?_,fun d r' h => ?_⟩
 · show (c :: l).take ((l.takeWhile (sameR c)).length + 1) = _
   rw [List.take_succ_cons]
   congr 1
   conv => lhs;rw [← List.takeWhile_append_dropWhile (p:=sameR c) (l:=l)]
   rw [List.takeWhile_append_dropWhile]
   have:=List.take_left (l₁:=l.takeWhile (sameR c)) (l₂:=l.dropWhile (sameR c))
   rwa [List.takeWhile_append_dropWhile] at this
 · show (c :: l).drop ((l.takeWhile (sameR c)).length + 1) = _
   rw [List.drop_succ_cons]
   have:=List.drop_left (l₁:=l.takeWhile (sameR c)) (l₂:=l.dropWhile (sameR c))
   rwa [List.takeWhile_append_dropWhile] at this
 · have:∀ l:List Cl,∀ x ∈ l.takeWhile (sameR c),sameR c x = true:=fun l => by
    induction l with
    | nil => intro x hx;cases hx
    | cons a l ih =>
      intro x hx
      rw [List.takeWhile_cons] at hx
      split at hx
      · rcases List.mem_cons.1 hx with rfl | hx
        · assumption
        · exact ih x hx
      · cases hx
   exact this l x hx
 · have:∀ l:List Cl,∀ d r',l.dropWhile (sameR c) = d :: r'→sameR c d = false:=fun l => by
    induction l with
    | nil => intro d r' h;cases h
    | cons a l ih =>
      intro d r' h
      rw [List.dropWhile_cons] at h
      split at h
      · exact ih d r' h
      · obtain ⟨rfl,rfl⟩:=List.cons.inj h
        simpa using ‹¬ sameR c a = true›
   exact this l d r' h
theorem zeros_add (n k:Nat):zesC (n + k) = zesC n ++ zesC k:=by unfold zesC;rw [List.replicate_append_replicate]
theorem zeros_len (n:Nat):(zesC n).length = n:=List.length_replicate ..
theorem wipe_at {p:List Cl} (n m:Nat) (b:Col):wipeL b (p.length:Int) ((p.length:Int) + n) (p ++ zesC (n + m)) = p ++ (List.replicate n (blankC b) ++ zesC m):=by
 unfold wipeL
 apply List.ext_getElem?
 intro i
 rw [List.getElem?_mapIdx]
 by_cases h1:i < p.length
 · rw [List.getElem?_append_left h1,List.getElem?_append_left h1,List.getElem?_eq_getElem h1]
   simp only [Option.map_some]
   rw [if_neg (by omega)]
 · rw [List.getElem?_append_right (by omega),List.getElem?_append_right (by omega),zeros_add]
   by_cases h2:i - p.length < n
   · rw [List.getElem?_append_left (by rw [zeros_len];exact h2),List.getElem?_append_left (by rw [List.length_replicate];exact h2)]
     unfold zesC
     rw [List.getElem?_replicate,if_pos h2,List.getElem?_replicate,if_pos h2]
     simp only [Option.map_some]
     rw [if_pos (by omega)]
   · rw [List.getElem?_append_right (by rw [zeros_len];omega),List.getElem?_append_right (by rw [List.length_replicate];omega),zeros_len,List.length_replicate]
     cases h3:(zesC m)[i - p.length - n]? with
     | none => rfl
     | some x =>
       simp only [Option.map_some]
       rw [if_neg (by omega)]
theorem erase_at {p:List Cl} (hp:Wh p) (n m:Nat) (b:Col):eraseL (p ++ zesC (n + m)) (p.length:Int) ((p.length:Int) + n) b = p ++ (List.replicate n (blankC b) ++ zesC m):=by
 unfold eraseL
 rw [(hp.app (Wh.zeros _)).mend,wipe_at,(hp.app ((Wh.rep rfl n).app (Wh.zeros m))).mend]
section
variable {st:List Bool} {cols:Nat} {y:Nat}
theorem feed_row:∀ (fuel:Nat) (l:List Cl),l.length ≤ fuel→mendL l = l→(∀ c ∈ l,DrawOk c)→∀ (p:List Cl) (on:Atr) (y0 x0:Nat) (la:Int) (scr:List (List Cl)),Wh p→RightA on→y0 < scr.length→x0 ≤ cols→scr[y]? = some (p ++ zesC l.length)→p.length + l.length = cols→scr.length ≤ 1000→cols ≤ 1000 →
 ∃ y1 x1 la1,Feeds (dS st cols scr on y0 x0 la) (rowI fuel y p.length on l).1 (dS st cols (scr.set y (p ++ l)) (rowI fuel y p.length on l).2 y1 x1 la1)∧y1 < scr.length∧x1 ≤ cols∧RightA (rowI fuel y p.length on l).2
 | fuel,[],_,_,_,p,on,y0,x0,la,scr,_,hon,hy0,hx0,h,_,_,_ => by
   have e:rowI fuel y p.length on [] = ([],on):=by cases fuel <;> rfl
   rw [e]
   refine ⟨y0,x0,la,?_,hy0,hx0,hon⟩
   have e2:scr.set y (p ++ []) = scr:=set_selfL h
   rw [e2]
   exact Feeds.refl _
 | 0,c :: l,hf,_,_,_,_,_,_,_,_,_,_,_,_,_,_,_,_ => by simp at hf
 | fuel + 1,c :: l,hf,hm,hok,p,on,y0,x0,la,scr,hp,hon,hy0,hx0,h,hx,hr1,hc1 => by
   obtain ⟨s,r,hl,hn,ht,hd,hs,hrr⟩:=run_split c l
   have hy:=(List.getElem?_eq_some_iff.1 h).1
   have hokc:=hok c (List.mem_cons_self ..)
   have hlen:(c :: l).length = (s.length + 1) + r.length:=by rw [hl];simp;omega
   have e:rowI (fuel + 1) y p.length on (c :: l) = ((segI y p.length on (c :: l)).1 ++ (rowI fuel y (p.length + (s.length + 1)) (segI y p.length on (c :: l)).2 r).1,(rowI fuel y (p.length + (s.length + 1)) (segI y p.length on (c :: l)).2 r).2):=by
    show (if (c :: l).length = 0 then _ else _) = _
    rw [if_neg (by simp),hn,show (c :: l).drop (s.length + 1) = r by rw [← hn];exact hd]
   rw [e]
   have hcs:(c :: s) ++ r = c :: l:=by rw [hl];rfl
   have hokr:∀ x ∈ r,DrawOk x:=fun x hx => hok x (by rw [← hcs];exact List.mem_append_right _ hx)
   have hoks:∀ x ∈ c :: s,DrawOk x:=fun x hx => hok x (by rw [← hcs];exact List.mem_append_left _ hx)
   rw [hlen] at h hx
   by_cases hr0:c.r = 0
   · have hrep:c :: s = List.replicate (s.length + 1) c:=by
      rw [List.replicate_succ]
      congr 1
      refine List.eq_replicate_iff.2 ⟨rfl,fun x hx => ?_⟩
      have h1:=hs x hx
      unfold sameR at h1
      rw [show decide (c.r = 0) = true from decide_eq_true hr0] at h1
      have h2:=hoks x (List.mem_cons_of_mem _ hx)
      have hx0:x.r = 0:=by
       by_cases hh:x.r = 0
       · exact hh
       · rw [show decide (x.r = 0) = false from decide_eq_false hh] at h1;cases h1
      rw [show decide (x.r = 0) = true from decide_eq_true hx0] at h1
      have h3:atrOf c = atrOf x:=eqA_iff.1 (by simpa using h1)
      rw [h2.blank hx0,hokc.blank hr0,h3]
     have hw:Wh (c :: s):=by
      rw [hrep]
      exact Wh.rep (by rw [hokc.blank hr0];rfl) _
     have hmr:mendL r = r:=by
      have h1:=hw r
      rw [hcs,hm,← hcs] at h1
      exact (List.append_cancel_left h1).symm
     have key:∀ (on1:Atr) (y0 x0:Nat) (la:Int),RightA on1→y0 < scr.length→x0 ≤ cols→(scr.set y (p ++ (c :: s ++ zesC r.length)))[y]? = some ((p ++ (c :: s)) ++ zesC r.length) →
      ∃ y1 x1 la1,Feeds (dS st cols (scr.set y (p ++ (c :: s ++ zesC r.length))) on1 y0 x0 la) (rowI fuel y (p.length + (s.length + 1)) on1 r).1 (dS st cols (scr.set y (p ++ c :: l)) (rowI fuel y (p.length + (s.length + 1)) on1 r).2 y1 x1 la1)∧y1 < scr.length∧x1 ≤ cols∧RightA (rowI fuel y (p.length + (s.length + 1)) on1 r).2:=fun on1 y0 x0 la hon1 hy1 hx1 hg => by
      have z:p.length + (s.length + 1) = (p ++ (c :: s)).length:=by simp
      have hh:=feed_row fuel r (by rw [hlen] at hf;omega) hmr hokr (p ++ (c :: s)) on1 y0 x0 la (scr.set y (p ++ (c :: s ++ zesC r.length))) (hp.app hw) hon1 (by simpa using hy1) hx1 hg (by rw [← z];omega) (by simpa using hr1) hc1
      rw [← z,List.set_set,List.append_assoc p (c :: s) r,hcs,List.length_set] at hh
      exact hh
     by_cases hz:eqA (atrOf c) zeroA = true
     · have e1:segI y p.length on (c :: l) = ([],on):=by
        show (if c.r = 0 then (if eqA (atrOf c) zeroA then _ else _) else _) = _
        rw [if_pos hr0,if_pos hz]
       rw [e1]
       have hcz:c = zeC:=by rw [hokc.blank hr0,eqA_iff.1 hz];rfl
       have hrow:p ++ (c :: s ++ zesC r.length) = p ++ zesC (s.length + 1 + r.length):=by
        rw [hrep,hcz,zeros_add]
        rfl
       have hk:=key on y0 x0 la hon hy0 hx0 (by rw [get_set hy,List.append_assoc])
       rw [hrow,set_selfL h] at hk
       exact hk
     · have e1:segI y p.length on (c :: l) = (movI y p.length ++ (turnI on (atrOf c) ++ eraI (s.length + 1)),atrOf c):=by
        show (if c.r = 0 then (if eqA (atrOf c) zeroA then _ else _) else _) = _
        rw [if_pos hr0,if_neg hz,hn]
       rw [e1]
       have f1:=feed_move (st:=st) (cols:=cols) (la:=la) (y':=y) (x':=p.length) hr1 hc1 hy0 hx0 hon hy (by omega)
       have f2:=feed_turn (st:=st) (cols:=cols) (la:=la) (x:=p.length) hy (by omega) hon hokc.right
       have f3:=feed_erase (st:=st) (cols:=cols) (la:=la) (x:=p.length) (n:=s.length + 1) h hc1 (by omega) hokc.right (by omega) (by omega)
       rw [erase_at hp,← hokc.blank hr0,← hrep] at f3
       obtain ⟨y1,x1,la1,k1,k2⟩:=key (atrOf c) y p.length la hokc.right hy (by omega) (by rw [get_set hy,List.append_assoc])
       exact ⟨y1,x1,la1,(f1.trans (f2.trans f3)).trans k1,k2⟩
   · have hokw:∀ x ∈ c :: s,DrawOk x∧x.r ≠ 0:=fun x hx => by
      refine ⟨hoks x hx,?_⟩
      rcases List.mem_cons.1 hx with rfl | hx
      · exact hr0
      · have h1:=hs x hx
        unfold sameR at h1
        rw [show decide (c.r = 0) = false from decide_eq_false hr0] at h1
        intro hh
        rw [show decide (x.r = 0) = true from decide_eq_true hh] at h1
        cases h1
     have hg:Gly (c :: s):=gly_of (c :: s) r (by rw [hcs];exact hm) hokw (fun d r' hd => by
      have h1:=hrr d r' hd
      unfold sameR at h1
      rw [show decide (c.r = 0) = false from decide_eq_false hr0] at h1
      by_cases hh:d.r = 0
      · exact hh
      · rw [show decide (d.r = 0) = false from decide_eq_false hh] at h1
        cases h1)
     have hmr:mendL r = r:=by
      have h1:=hg.wh r
      rw [hcs,hm,← hcs] at h1
      exact (List.append_cancel_left h1).symm
     have e1:segI y p.length on (c :: l) = (movI y p.length ++ (cellsI on (c :: s)).1,(cellsI on (c :: s)).2):=by
      show (if c.r = 0 then _ else (movI y p.length ++ (cellsI on ((c :: l).take (runN (c :: l)))).1,(cellsI on ((c :: l).take (runN (c :: l)))).2)) = _
      rw [if_neg hr0,ht]
     rw [e1]
     have f1:=feed_move (st:=st) (cols:=cols) (la:=la) (y':=y) (x':=p.length) hr1 hc1 hy0 hx0 hon hy (by omega)
     obtain ⟨la2,f2,f3⟩:=feed_cells (st:=st) (y:=y) (c :: s) hg hokw p r.length on la scr hp hon h hx
     have z:p.length + (s.length + 1) = (p ++ (c :: s)).length:=by simp
     obtain ⟨y1,x1,la1,k1,k2,k3,k4⟩:=feed_row fuel r (by rw [hlen] at hf;omega) hmr hokr (p ++ (c :: s)) (cellsI on (c :: s)).2 y (p.length + (c :: s).length) la2 (scr.set y (p ++ (c :: s ++ zesC r.length))) (hp.app hg.wh) f3 (by simpa using hy) (by simp only [List.length_cons];omega) (by rw [get_set hy,List.append_assoc]) (by rw [← z];omega) (by simpa using hr1) hc1
     rw [← z,List.set_set,List.append_assoc p (c :: s) r,hcs] at k1
     rw [← z] at k4
     rw [List.length_set] at k2
     exact ⟨y1,x1,la1,(f1.trans f2).trans k1,k2,k3,k4⟩
def RowsD (cols:Nat) (ls:List (List Cl)):Prop:=∀ l ∈ ls,l.length = cols∧mendL l = l∧∀ c ∈ l,DrawOk c
theorem feed_rows:∀ (ls:List (List Cl)),RowsD cols ls→∀ (D:List (List Cl)) (on:Atr) (y0 x0:Nat) (la:Int),RightA on→y0 < D.length + ls.length→x0 ≤ cols→D.length + ls.length ≤ 1000→cols ≤ 1000 →
 ∃ y1 x1 la1,Feeds (dS st cols (D ++ List.replicate ls.length (zesC cols)) on y0 x0 la) (rowsI D.length on ls).1 (dS st cols (D ++ ls) (rowsI D.length on ls).2 y1 x1 la1)∧y1 < D.length + ls.length∧x1 ≤ cols∧RightA (rowsI D.length on ls).2
 | [],_,D,on,y0,x0,la,hon,hy,hx,_,_ => ⟨y0,x0,la,Feeds.refl _,hy,hx,hon⟩
 | l :: ls,hok,D,on,y0,x0,la,hon,hy,hx,hz,hc => by
   obtain ⟨l1,l2,l3⟩:=hok l (List.mem_cons_self ..)
   have hrow:(D ++ List.replicate (l :: ls).length (zesC cols))[D.length]? = some ([] ++ zesC l.length):=by
    rw [List.getElem?_append_right (Nat.le_refl _),Nat.sub_self,List.length_cons,List.replicate_succ,l1]
    rfl
   obtain ⟨y1,x1,la1,f1,f2,f3,f4⟩:=feed_row (st:=st) (cols:=cols) (y:=D.length) l.length l (Nat.le_refl _) l2 l3 [] on y0 x0 la _ Wh.nil hon (by simpa using hy) hx hrow (by simpa using l1) (by simpa using hz) hc
   have e2:(D ++ List.replicate (l :: ls).length (zesC cols)).set D.length ([] ++ l) = (D ++ [l]) ++ List.replicate ls.length (zesC cols):=by
    rw [List.set_append_right _ _ (Nat.le_refl _),Nat.sub_self,List.length_cons,List.replicate_succ,List.set_cons_zero]
    simp
   rw [e2] at f1
   obtain ⟨y2,x2,la2,g1,g2,g3,g4⟩:=feed_rows ls (fun x hx => hok x (List.mem_cons_of_mem _ hx)) (D ++ [l]) (rowI l.length D.length 0 on l).2 y1 x1 la1 f4 (by simp only [List.length_append,List.length_replicate,List.length_cons,List.length_nil] at f2 ⊢;omega) f3 (by simp only [List.length_append,List.length_cons,List.length_nil] at hz ⊢;omega) hc
   have e3:(D ++ [l]).length = D.length + 1:=by simp
   rw [e3] at g1 g2 g4
   have e4:D ++ [l] ++ ls = D ++ l :: ls:=by simp
   rw [e4] at g1
   exact ⟨y2,x2,la2,f1.trans g1,by simp only [List.length_cons];omega,g3,g4⟩
theorem feed_draw (ls:List (List Cl)) (h0:0 < ls.length) (h2:2 ≤ cols) (hz:ls.length ≤ 1000) (hc:cols ≤ 1000) (hok:RowsD cols ls) (ay ax:Nat) (hy:ay < ls.length) (hx:ax < cols) :
 ∃ la,Feeds (newS ls.length cols 5 st) (drawI ls ay ax) (dS st cols ls zeroA ay ax la):=by
 rw [newS_dS]
 obtain ⟨y1,x1,la1,f1,f2,f3,f4⟩:=feed_rows (st:=st) ls hok [] zeroA 0 0 0 RightA.zero (by simpa using h0) (Nat.zero_le _) (by simpa using hz) hc
 have f1:Feeds (dS st cols (List.replicate ls.length (zesC cols)) zeroA 0 0 0) (rowsI 0 zeroA ls).1 (dS st cols ls (rowsI 0 zeroA ls).2 y1 x1 la1):=f1
 have f2:y1 < ls.length:=by simpa using f2
 have g1:=feed_turn (st:=st) (cols:=cols) (la:=la1) (scr:=ls) f2 f3 f4 RightA.zero
 have g2:=feed_move (st:=st) (cols:=cols) (la:=la1) (scr:=ls) hz hc f2 f3 RightA.zero hy hx
 exact ⟨la1,f1.trans (g1.trans g2)⟩
end
end Go.Proofs.YtaefcahblmopfaaGreatDoor
