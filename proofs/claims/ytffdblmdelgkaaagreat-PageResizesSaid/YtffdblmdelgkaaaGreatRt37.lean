/- Joined by a tool of this claim out of smaller texts. Conditions: as stated. -/
import Derived.Test.YtffdblmdelgkaaaGreatRt32
set_option linter.unusedVariables false
set_option linter.unusedSimpArgs false
set_option maxRecDepth 100000
open Go.Lib renaming hid → Hd
namespace Go.Proofs.YtffdblmdelgkaaaGreat
open Go.RowKit
structure Both (base:Nat) (w:World) (qp:Pv) (qd:Dv) (g:Pg):Prop where
 p:PgO base w qp g
 d:DcO base w qd (dcOf g)
 ap:∀ b ∈ pgX qp,b ∉ dcX qd
def BoRes (base:Nat) (w:World) (qp:Pv) (qd:Dv) (g':Pg) (w':World):Prop :=
 ∃ qp' qd',qp'.P = qp.P∧qd'.D = qd.D∧Both base w' qp' qd' g'∧Mod (pgX qp ++ dcX qd) w w'∧∀ b ∈ pgX qp' ++ dcX qd',b ∈ pgX qp ++ dcX qd ∨ w.heap.size ≤ b
section
variable {base:Nat} {w w1 w2:World} {qp:Pv} {qd:Dv} {g g1:Pg}
theorem Both.below (h:Both base w qp qd g) (hb:Below w.heap.size w w1):Both base w1 qp qd g:=⟨h.p.below hb,h.d.below hb,h.ap⟩
theorem Both.res (h:Both base w qp qd g):BoRes base w qp qd g w:=⟨qp,qd,rfl,rfl,h,Mod.refl _ _,fun b hb => .inl hb⟩
theorem Both.mid (h:Both base w qp qd g) (hp:PgRes base w qp g1 w1):DcO base w1 qd (dcOf g):=by
 obtain ⟨q',-,-,-,hm,-⟩:=hp
 exact h.d.mod hm h.p.nocel (fun b hb hx => h.ap b hx hb)
theorem Both.step (h:Both base w qp qd g) (hp:PgRes base w qp g1 w1) (hd:DcRes base w1 qd (dcOf g1) w2):BoRes base w qp qd g1 w2:=by
 have hmid:=h.mid hp
 obtain ⟨qp',e1,e2,hp1,hm1,hx1⟩:=hp
 obtain ⟨qd',e3,hd1,hm2,hx2⟩:=hd
 have hap:∀ b ∈ pgX qp',b ∉ dcX qd:=fun b hb hx => by
  rcases hx1 b hb with h1 | h1
  · exact h.ap b h1 hx
  · have:=(h.d.lt b hx).2;omega
 refine ⟨qp',qd',e1,e3,⟨hp1.mod hm2 hmid.nocel hap,hd1,fun b hb hx => ?_⟩,?_,fun b hb => ?_⟩
 · rcases hx2 b hx with h1 | h1
   · exact hap b hb h1
   · have:=(hp1.lt b hb).2;omega
 · exact (hm1.mono (fun b hb => by simp [hb])).trans (hm2.mono (fun b hb => by simp [hb])) (fun b hb => .inl hb)
 · rcases List.mem_append.1 hb with hb | hb
   · rcases hx1 b hb with h1 | h1
     · exact .inl (by simp [h1])
     · exact .inr h1
   · rcases hx2 b hb with h1 | h1
     · exact .inl (by simp [h1])
     · exact .inr (Nat.le_trans hm1.size h1)
theorem BoRes.pre (hb:Below w.heap.size w w1) (h:BoRes base w1 qp qd g1 w2):BoRes base w qp qd g1 w2:=by
 obtain ⟨qp',qd',e1,e2,hB,hm,hx⟩:=h
 exact ⟨qp',qd',e1,e2,hB,(Mod.of_below hb).trans hm (fun b hb => .inl hb),fun b h => (hx b h).imp id (fun h => Nat.le_trans hb.size h)⟩
theorem BoRes.post (h:BoRes base w qp qd g1 w1) (hb:Below w1.heap.size w1 w2):BoRes base w qp qd g1 w2:=by
 obtain ⟨qp1,qd1,e1,e2,hB,hm,hx⟩:=h
 exact ⟨qp1,qd1,e1,e2,hB.below hb,hm.then_below hb,hx⟩
end
def encPop (o:Pop):List Value:=[.int .i64 o.kind,.int .i64 o.x,.int .i64 o.n,.int .i32 o.r,.int .i64 o.at_.fk,.int .i64 o.at_.fn,.int .i64 o.at_.bk,.int .i64 o.at_.bn,.int .i64 o.at_.fl,.int .i64 o.y,.int .i64 o.top,.int .i64 o.bottom]
def In64 (x:Int):Prop:=-9223372036854775808 ≤ x∧x ≤ 9223372036854775807
structure PopOk (o:Pop):Prop where
 hn:In64 o.n
 hy:In64 o.y
def DoesPost (base:Nat) (w:World) (qp:Pv) (qd:Dv) (g':Pg) (e:Ending) (w':World):Prop:=e = .returned (.tuple #[])∧BoRes base w qp qd g' w'
theorem PgRes.modr {base:Nat} {w w1:World} {q:Pv} {g1:Pg} (h:PgRes base w q g1 w1):Mod (pgX q) w w1:=by
 obtain ⟨q',-,-,-,hm,-⟩:=h
 exact hm
theorem row_calls {base:Nat} {w2:World} {qd:Dv} {d:Dc} {k:Nat} {r:Rh} (h:DcO base w2 qd d) (hin:dcIn d k = true) (hr:qd.S[d.base + k]? = some r) (hL:d.L.length ≤ 1000000) :
 (∀ w',Below w2.heap.size w2 w'→Calls Tryz.prog 31 #[.pointer (some ⟨qd.D,0,none⟩),.int .i64 k] w' fun e w'' => e = .returned (.slice r.A r.cs.length r.cap)∧Below w'.heap.size w' w'') ∧
 (∀ w',Below w2.heap.size w2 w'→RcAt w' r)∧r.cs.length = d.cols ∧
 (∀ (F:List Cl→List Cl),(∀ l,(F l).length = l.length)→∀ (w':World) (g cap:Nat),Below w2.heap.size w2 w'→RcAt w' ⟨some ⟨g,0,none⟩,F r.cs,cap,r.cont⟩→Calls Tryz.prog 29 #[.pointer (some ⟨qd.D,0,none⟩),.int .i64 k,.slice (some ⟨g,0,none⟩) r.cs.length cap] w' (DcPost base w2 qd (dcRow d k F))):=by
 have hrw:=h.rows r (List.mem_of_getElem? hr)
 refine ⟨fun w' hb => rdOf_any (h.below hb) k hr hL,fun w' hb => hrw.1.below hb,hrw.2,fun F hF w' g cap hb hc => ?_⟩
 have hdr:dcRow d k F = { d with L:=d.L.modify (d.base + k) (fun r => { r with cs:=F r.cs }) }:=by unfold dcRow;rw [hin,if_pos rfl,Int.toNat_natCast]
 rw [hdr]
 exact (rdCells_any (h.below hb) k hr hL (some ⟨g,0,none⟩) cap F (hF _) hc).mono (fun e w3 hh => ⟨hh.1,hh.2.pre hb⟩)
def OpC (w:World) (b c:Nat) (o:Pop):Prop :=
 w.cell? ⟨b,0,none⟩ = some (.int .i64 o.kind)∧w.cell? ⟨b,1,none⟩ = some (.int .i64 o.x)∧w.cell? ⟨b,2,none⟩ = some (.int .i64 o.n)∧w.cell? ⟨b,3,none⟩ = some (.int .i32 o.r)∧w.cell? ⟨b,4,none⟩ = some (.int .i64 o.at_.fk)∧w.cell? ⟨b,5,none⟩ = some (.int .i64 o.at_.fn)∧w.cell? ⟨b,6,none⟩ = some (.int .i64 o.at_.bk)∧w.cell? ⟨b,7,none⟩ = some (.int .i64 o.at_.bn)∧w.cell? ⟨b,8,none⟩ = some (.int .i64 o.at_.fl)∧w.cell? ⟨b,9,none⟩ = some (.int .i64 o.y)∧w.cell? ⟨b,10,none⟩ = some (.int .i64 o.top)∧w.cell? ⟨b,11,none⟩ = some (.int .i64 o.bottom)∧w.cell? ⟨c,0,none⟩ = some (.int .i64 o.at_.bk)∧w.cell? ⟨c,1,none⟩ = some (.int .i64 o.at_.bn)
theorem OpC.mod {w w1:World} {b c:Nat} {o:Pop} {X:List Nat} (h:OpC w b c o) (hm:Mod X w w1) (hb:b ∉ X) (hc:c ∉ X):OpC w1 b c o:=by
 obtain ⟨c0,c1,c2,c3,c4,c5,c6,c7,c8,c9,c10,c11,k0,k1⟩:=h
 exact ⟨hm.cell hb c0,hm.cell hb c1,hm.cell hb c2,hm.cell hb c3,hm.cell hb c4,hm.cell hb c5,hm.cell hb c6,hm.cell hb c7,hm.cell hb c8,hm.cell hb c9,hm.cell hb c10,hm.cell hb c11,hm.cell hc k0,hm.cell hc k1⟩
theorem OpC.below {w w1:World} {b c:Nat} {o:Pop} (h:OpC w b c o) (hb:Below w.heap.size w w1):OpC w1 b c o:=h.mod (Mod.of_below (X:=[]) hb) (fun h => by cases h) (fun h => by cases h)
theorem OpC.new {w:World} (o:Pop):OpC ((w.alloc (.cells (encPop o).toArray 38)).alloc (.cells #[.int .i64 o.at_.bk,.int .i64 o.at_.bn] 32)) w.heap.size (w.heap.size + 1) o:=by
 have x:=hp_old (o:=.cells #[.int .i64 o.at_.bk,.int .i64 o.at_.bn] 32) (hp_new (W:=w) (b:=w.heap.size) (o:=.cells (encPop o).toArray 38) rfl)
 have y:=hp_new (W:=w.alloc (.cells (encPop o).toArray 38)) (b:=w.heap.size + 1) (o:=.cells #[.int .i64 o.at_.bk,.int .i64 o.at_.bn] 32) (by simp)
 exact ⟨(at_ x 0 _ rfl).1,(at_ x 1 _ rfl).1,(at_ x 2 _ rfl).1,(at_ x 3 _ rfl).1,(at_ x 4 _ rfl).1,(at_ x 5 _ rfl).1,(at_ x 6 _ rfl).1,(at_ x 7 _ rfl).1,(at_ x 8 _ rfl).1,(at_ x 9 _ rfl).1,(at_ x 10 _ rfl).1,(at_ x 11 _ rfl).1,(at_ y 0 _ rfl).1,(at_ y 1 _ rfl).1⟩
theorem clsAt_of_gr {w:World} {A:Option Addr} {l:List Cl} (h:GrAt encCl 8 w A l):ClsAt w A l:=fun h0 => by
 obtain ⟨b,off,hA,hc⟩:=h h0
 refine ⟨b,off,hA,fun i c hi => ?_⟩
 have:=hc i c hi
 exact ⟨this 0 _ rfl,this 1 _ rfl,this 2 _ rfl,this 3 _ rfl,this 4 _ rfl,this 5 _ rfl,this 6 _ rfl,this 7 _ rfl⟩
theorem gr_of_own {α:Type} {enc:α→List Value} {K:Nat} (hl:∀ x,(enc x).length = K) {w:World} {base:Nat} {e:TypeId} {A:Option Addr} {n c:Nat} {X:List α} (h:w.ownsRow base e K (.slice A n c) X.length (flat enc X)):GrAt enc K w A X:=fun h0 => by
 obtain ⟨g,c',hv⟩:=own_form h h0
 simp only [Value.slice.injEq] at hv
 obtain ⟨rfl,rfl,rfl⟩:=hv
 refine ⟨g,0,rfl,fun i x hi j v hj => ?_⟩
 rw [Nat.zero_add]
 exact (owns_hold h (i:=i * K + j) (by rw [flat_at2 hl X i x j hi (by have:=(List.getElem?_eq_some_iff.1 hj).1;rw [hl] at this;exact this)];exact hj)).1
set_option maxHeartbeats 3200000 in
theorem Shifts_eq (A B:Option Addr) (T:List Tl) (ca cb:Nat) (w:World) (hA:GrAt encTl 3 w A T) (hB:GrAt encTl 3 w B T) (hz:T.length ≤ 1000000) :
 Calls Tryz.prog 10 #[.slice A T.length ca,.slice B T.length cb] w (fun e w' => e = .returned (.bool true)∧Below w.heap.size w w'):=by
 have HA:=Hd hA
 have HB:=Hd hB
 clear hA hB
 go_enter Tryz.func10,Tryz.ntmps10
 go_wp2_with fail
 go_loopw [5] (fun i wr => ∃ k:Nat,k ≤ T.length∧i = .int .i64 k∧Below w.heap.size w wr) (fun i _ => T.length - (intOf i).toNat)
 case atStart => exact ⟨0,Nat.zero_le _,rfl,Below.refl _ _⟩
 case round =>
  obtain ⟨k,hk,rfl,hBe⟩:=hrel
  by_cases hlt:k < T.length
  rotate_left
  · go_wp2
    go_ret
    exact ⟨rfl,hBe⟩
  · obtain ⟨b,off,x,rfl,hx,cx⟩:=(HA.out.below hBe).at_ hlt
    obtain ⟨b',off',y,rfl,hy,cy⟩:=(HB.out.below hBe).at_ hlt
    obtain rfl:x = y:=by rw [hx] at hy;exact Option.some.inj hy
    have x0:wr.cell? ⟨b,off + k * 3,none⟩ = some (.int .i64 x.k):=cx 0 _ rfl
    have x1:wr.cell? ⟨b,off + k * 3 + 1,none⟩ = some (.int .i64 x.a):=cx 1 _ rfl
    have x2:wr.cell? ⟨b,off + k * 3 + 2,none⟩ = some (.int .i64 x.n):=cx 2 _ rfl
    have y0:wr.cell? ⟨b',off' + k * 3,none⟩ = some (.int .i64 x.k):=cy 0 _ rfl
    have y1:wr.cell? ⟨b',off' + k * 3 + 1,none⟩ = some (.int .i64 x.a):=cy 1 _ rfl
    have y2:wr.cell? ⟨b',off' + k * 3 + 2,none⟩ = some (.int .i64 x.n):=cy 2 _ rfl
    clear hx hy cx cy
    go_upto_region 6 with fail
    refine wp_region_u 8 (fun w' => Below wr.heap.size wr w'∧w'.cell? ⟨b,off + k * 3,none⟩ = some (.int .i64 x.k)∧w'.cell? ⟨b,off + k * 3 + 1,none⟩ = some (.int .i64 x.a)∧w'.cell? ⟨b,off + k * 3 + 2,none⟩ = some (.int .i64 x.n)∧w'.cell? ⟨b',off' + k * 3,none⟩ = some (.int .i64 x.k)∧w'.cell? ⟨b',off' + k * 3 + 1,none⟩ = some (.int .i64 x.a)∧w'.cell? ⟨b',off' + k * 3 + 2,none⟩ = some (.int .i64 x.n)) (by kernel_rfl) (by kernel_rfl) ?_ ?_
    · exact ⟨(Below.refl _ _).drew,x0,x1,x2,y0,y1,y2⟩
    simp only [List.take_succ_cons,List.take_zero,List.drop_succ_cons,List.drop_zero]
    repeat (
     (first
      | refine seqU_skip (by rfl) ?_
      | (refine seqU_val ?_ (by rfl) ?_ ?_;rotate_left;(focus (intro w' hS;obtain ⟨_,_,_,_,_,_,_⟩:=hS;go_simp;first | done | with_reducible rfl))))
     simp only [Act.put,List.setIfInBounds_toArray,List.set_cons_zero,List.set_cons_succ])
    refine seqU_nil (fun w' hS => ?_)
    have HBB:=Hd (below_tail hBe hS.1)
    clear hS x0 x1 x2 y0 y1 y2
    go_wp2
    go_roundw
    case rel => exact ⟨k + 1,by omega,by go_num,HBB.out⟩
    case measure => simp [intOf];omega
set_option maxHeartbeats 3200000 in
theorem SameRows_eq (A B:Option Addr) (L M:List Rh) (ca cb:Nat) (w:World) (hA:GrAt encRh 2 w A L) (hB:GrAt encRh 2 w B M) (hrL:∀ r ∈ L,RcAt w r) (hrM:∀ r ∈ M,RcAt w r) (he:L.map roOf = M.map roOf) (hz:L.length ≤ 1000000) :
 Calls Tryz.prog 14 #[.slice A L.length ca,.slice B M.length cb] w (fun e w' => e = .returned (.bool true)∧Below w.heap.size w w'):=by
 have hlen:L.length = M.length:=by have:=congrArg List.length he;simpa using this
 have HA:=Hd hA
 have HB:=Hd hB
 have HL:=Hd hrL
 have HM:=Hd hrM
 have HE:=Hd he
 have HLEN:=Hd hlen
 obtain ⟨n,hn⟩:∃ n,n = L.length:=⟨_,rfl⟩
 rw [← hlen,← hn]
 have HN:=Hd hn
 have hz':n ≤ 1000000:=by omega
 clear hA hB hrL hrM he hlen hn hz
 go_enter Tryz.func14,Tryz.ntmps14
 go_wp2_with fail
 go_loopw [5] (fun i wr => ∃ k:Nat,k ≤ n∧i = .int .i64 k∧Below w.heap.size w wr) (fun i _ => n - (intOf i).toNat)
 case atStart => exact ⟨0,Nat.zero_le _,rfl,Below.refl _ _⟩
 case round =>
  obtain ⟨k,hk,rfl,hBe⟩:=hrel
  by_cases hlt:k < n
  rotate_left
  · go_wp2
    go_ret
    exact ⟨rfl,hBe⟩
  · obtain ⟨b,off,x,rfl,hx,cx⟩:=(HA.out.below hBe).at_ (show k < L.length by have:=HN.out;omega)
    obtain ⟨b',off',y,rfl,hy,cy⟩:=(HB.out.below hBe).at_ (show k < M.length by have:=HN.out;have:=HLEN.out;omega)
    have hxy:roOf x = roOf y:=by
     have h1:(L.map roOf)[k]? = some (roOf x):=by rw [List.getElem?_map,hx];rfl
     have h2:(M.map roOf)[k]? = some (roOf y):=by rw [List.getElem?_map,hy];rfl
     rw [HE.out,h2] at h1
     exact (Option.some.inj h1).symm
    have hcs:x.cs = y.cs:=congrArg Ro.cs hxy
    have hct:x.cont = y.cont:=congrArg Ro.cont hxy
    have hrx:=(HL.out x (List.mem_of_getElem? hx)).below hBe
    have hry:=(HM.out y (List.mem_of_getElem? hy)).below hBe
    have HSM:Hid (∀ w',Below wr.heap.size wr w'→Calls Tryz.prog 51 #[.slice x.A x.cs.length x.cap,.slice y.A x.cs.length y.cap] w' (fun e w'' => e = .returned (.bool true)∧Below w'.heap.size w' w'')):=Hd (fun w' hb => by
     have h1:=hrx.below hb
     have h2:=hry.below hb
     have:=SameCells_any x.A y.A x.cs y.cs x.cap y.cap w' (clsAt_of_gr h1.2.2.1) (clsAt_of_gr h2.2.2.1) (by have:=h1.1;omega) (by have:=h2.1;omega)
     rw [← hcs] at this
     simpa using this)
    have x0:wr.cell? ⟨b,off + k * 2,none⟩ = some (.slice x.A x.cs.length x.cap):=cx 0 _ rfl
    have x1:wr.cell? ⟨b,off + k * 2 + 1,none⟩ = some (.bool x.cont):=cx 1 _ rfl
    have y0:wr.cell? ⟨b',off' + k * 2,none⟩ = some (.slice y.A x.cs.length y.cap):=by rw [hcs];exact cy 0 _ rfl
    have y1:wr.cell? ⟨b',off' + k * 2 + 1,none⟩ = some (.bool x.cont):=by rw [hct];exact cy 1 _ rfl
    clear hx hy cx cy hxy hcs hct hrx hry
    go_upto_region 6 with fail
    refine wp_region_u 24 (fun w' => Below wr.heap.size wr w'∧w'.cell? ⟨b,off + k * 2,none⟩ = some (.slice x.A x.cs.length x.cap)∧w'.cell? ⟨b,off + k * 2 + 1,none⟩ = some (.bool x.cont)∧w'.cell? ⟨b',off' + k * 2,none⟩ = some (.slice y.A x.cs.length y.cap)∧w'.cell? ⟨b',off' + k * 2 + 1,none⟩ = some (.bool x.cont)) (by kernel_rfl) (by kernel_rfl) ?_ ?_
    · exact ⟨(Below.refl _ _).drew,x0,x1,y0,y1⟩
    simp only [List.take_succ_cons,List.take_zero,List.drop_succ_cons,List.drop_zero]
    repeat (
     (first
      | refine seqU_skip (by rfl) ?_
      | (refine seqU_call 51 #[.slice x.A x.cs.length x.cap,.slice y.A x.cs.length y.cap] (.bool true) (by rfl) ?_ (fun w' hS => (HSM.out w' hS.1).mono (fun e w'' h => ⟨h.1,below_tail hS.1 h.2,holda h.2 hS.2.1,holda h.2 hS.2.2.1,holda h.2 hS.2.2.2.1,holda h.2 hS.2.2.2.2⟩)) ?_;(focus (intro w2;go_simp;done)))
      | (refine seqU_val ?_ (by rfl) ?_ ?_;rotate_left;(focus (intro w' hS;obtain ⟨_,_,_,_,_⟩:=hS;go_simp;first | done | with_reducible rfl))))
     simp only [Act.put,List.setIfInBounds_toArray,List.set_cons_zero,List.set_cons_succ])
    refine seqU_nil (fun w' hS => ?_)
    have HBB:=Hd (below_tail hBe hS.1)
    clear hS x0 x1 y0 y1
    go_wp2
    go_roundw
    case rel => exact ⟨k + 1,by omega,by go_num,HBB.out⟩
    case measure => simp [intOf];omega
set_option maxHeartbeats 3200000 in
theorem alike_any {base:Nat} {w:World} {qp:Pv} {qd:Dv} {g:Pg} (hp:PgO base w qp g) (t:List Tl) (hd:DcO base w qd { dcOf g with told:=t }) (hL:(g.hist ++ g.scr).length ≤ 900000) :
 Calls Tryz.prog 12 #[.pointer (some ⟨qp.P,0,none⟩),.pointer (some ⟨qd.D,0,none⟩)] w (fun e w' => e = .returned (.bool true)∧Below w.heap.size w w'):=by
 obtain ⟨A,c,hv⟩:=hd.vform
 have hbs:({ dcOf g with told:=t }:Dc).base ≤ ({ dcOf g with told:=t }:Dc).L.length:=by show g.hist.length ≤ (g.hist ++ g.scr).length;simp
 have hdr:dcRows { dcOf g with told:=t } = (g.scr.length:Int):=by show (((g.hist ++ g.scr).length:Nat):Int) - (g.hist.length:Int) = _;simp;omega
 have H1:Hid (∀ w',Below w.heap.size w w'→Calls Tryz.prog 18 #[.pointer (some ⟨qp.P,0,none⟩)] w' (fun e w'' => e = .returned (.int .i64 g.scr.length)∧Below w'.heap.size w' w'')):=Hd (fun w' hb => (pRows_any (hp.below hb)).mono (fun e w2 hh => ⟨hh.1,by rw [← hh.2];exact Below.refl _ _⟩))
 have H2:Hid (∀ w',Below w.heap.size w w'→Calls Tryz.prog 48 #[.pointer (some ⟨qd.D,0,none⟩)] w' (fun e w'' => e = .returned (.int .i64 g.scr.length)∧Below w'.heap.size w' w'')):=Hd (fun w' hb => by rw [← hdr];exact rdRows_any (hd.below hb) (by show (g.hist ++ g.scr).length ≤ _;omega) hbs)
 have H3:Hid (∀ w',Below w.heap.size w w'→Calls Tryz.prog 19 #[.pointer (some ⟨qp.P,0,none⟩)] w' (fun e w'' => e = .returned (.int .i64 g.cols)∧Below w'.heap.size w' w'')):=Hd (fun w' hb => (pCols_any (hp.below hb)).mono (fun e w2 hh => ⟨hh.1,by rw [← hh.2];exact Below.refl _ _⟩))
 have H4:Hid (∀ w',Below w.heap.size w w'→Calls Tryz.prog 17 #[.pointer (some ⟨qp.P,0,none⟩)] w' (fun e w'' => e = .returned (.int .i64 g.hist.length)∧Below w'.heap.size w' w'')):=Hd (fun w' hb => (pBase_any (hp.below hb)).mono (fun e w2 hh => ⟨hh.1,by rw [← hh.2];exact Below.refl _ _⟩))
 have H5:Hid (∀ w',Below w.heap.size w w'→Calls Tryz.prog 26 #[.pointer (some ⟨qp.P,0,none⟩)] w' (fun e w'' => e = .returned (.int .u64 (g.gone % 18446744073709551616))∧Below w'.heap.size w' w'')):=Hd (fun w' hb => (pGone_any (hp.below hb)).mono (fun e w2 hh => ⟨hh.1,by rw [← hh.2];exact Below.refl _ _⟩))
 have H6:Hid (∀ w',Below w.heap.size w w'→Calls Tryz.prog 16 #[.pointer (some ⟨qp.P,0,none⟩)] w' (AllPost (g.hist ++ g.scr) w')):=Hd (fun w' hb => pAll_any (hp.below hb))
 have H:=Hd hd
 have HV:=Hd hv
 obtain ⟨⟨x0,-⟩,⟨x1,-⟩,⟨x2,-⟩,-,⟨x4,-⟩,-⟩:=hd.cells
 rw [hv] at x0
 have x1:w.cell? ⟨qd.D,1,none⟩ = some (.int .i64 g.hist.length):=x1
 have x2:w.cell? ⟨qd.D,2,none⟩ = some (.int .i64 g.cols):=x2
 have x4:w.cell? ⟨qd.D,4,none⟩ = some (.int .u64 (g.gone % 18446744073709551616)):=x4
 obtain ⟨n,hn⟩:∃ n,n = qd.S.length:=⟨_,rfl⟩
 rw [← hn] at x0
 have HN:=Hd hn
 obtain ⟨G,hG⟩:∃ G,G = g.gone % 18446744073709551616:=⟨_,rfl⟩
 rw [← hG] at x4 H5
 clear hp hd hv hn hG hbs hdr
 go_enter Tryz.func12,Tryz.ntmps12
 go_upto_region 1 with fail
 refine wp_region_n 39 (fun w' => Below w.heap.size w w'∧w'.cell? ⟨qd.D,0,none⟩ = some (.slice A n c)∧w'.cell? ⟨qd.D,1,none⟩ = some (.int .i64 g.hist.length)∧w'.cell? ⟨qd.D,2,none⟩ = some (.int .i64 g.cols)∧w'.cell? ⟨qd.D,4,none⟩ = some (.int .u64 G)) (by kernel_rfl) (by kernel_rfl) (fun w1 w2 hS hb => ⟨below_tail hS.1 hb,holda hb hS.2.1,holda hb hS.2.2.1,holda hb hS.2.2.2.1,holda hb hS.2.2.2.2⟩) ⟨(Below.refl _ _).drew,x0,x1,x2,x4⟩ ?_
 refine AtN.take 0 (o:=⟨_,_,_,_,_,_⟩) (v:=?_) (by kernel_rfl) rfl (by simp) (by kernel_rfl) (by kernel_rfl) ?_ ?_;rotate_left
 · first | exact StabN.skip (by rfl) | (refine StabN.val (by rfl) ?_;intro w' hS;obtain ⟨_,_,_,_,_⟩:=hS;go_simp;first | done | with_reducible rfl)
 simp only [Act.put,List.setIfInBounds_toArray,List.set_cons_zero,List.set_cons_succ]
 refine AtN.take 1 (o:=⟨_,_,_,_,_,_⟩) (v:=.int .i64 g.scr.length) (by kernel_rfl) rfl (by simp) (by kernel_rfl) (by kernel_rfl) (StabN.call1 18 #[.pointer (some ⟨qp.P,0,none⟩)] (.int .i64 g.scr.length) (by rfl) (by intro w';go_simp;done) (fun w' hS => H1.out _ hS.1)) ?_
 simp only [Act.put,List.setIfInBounds_toArray,List.set_cons_zero,List.set_cons_succ]
 refine AtN.take 2 (o:=⟨_,_,_,_,_,_⟩) (v:=?_) (by kernel_rfl) rfl (by simp) (by kernel_rfl) (by kernel_rfl) ?_ ?_;rotate_left
 · first | exact StabN.skip (by rfl) | (refine StabN.val (by rfl) ?_;intro w' hS;obtain ⟨_,_,_,_,_⟩:=hS;go_simp;first | done | with_reducible rfl)
 simp only [Act.put,List.setIfInBounds_toArray,List.set_cons_zero,List.set_cons_succ]
 refine AtN.take 3 (o:=⟨_,_,_,_,_,_⟩) (v:=.int .i64 g.scr.length) (by kernel_rfl) rfl (by simp) (by kernel_rfl) (by kernel_rfl) (StabN.call1 48 #[.pointer (some ⟨qd.D,0,none⟩)] (.int .i64 g.scr.length) (by rfl) (by intro w';go_simp;done) (fun w' hS => H2.out _ hS.1)) ?_
 simp only [Act.put,List.setIfInBounds_toArray,List.set_cons_zero,List.set_cons_succ]
 refine AtN.go 4 ?_
 iterate 3 (refine AtC.take (o:=⟨_,_,_,_,_,_⟩) (v:=?_) (by kernel_rfl) rfl (by simp) (by kernel_rfl) (by kernel_rfl) ?_ ?_;rotate_left;(focus (first | exact StabN.skip (by rfl) | (refine StabN.val (by rfl) ?_;intro w' hS;obtain ⟨_,_,_,_,_⟩:=hS;go_simp;first | done | with_reducible rfl)));simp only [Act.put,List.setIfInBounds_toArray,List.set_cons_zero,List.set_cons_succ])
 refine AtC.back ?_
 refine AtN.take 7 (o:=⟨_,_,_,_,_,_⟩) (v:=.int .i64 g.cols) (by kernel_rfl) rfl (by simp) (by kernel_rfl) (by kernel_rfl) (StabN.call1 19 #[.pointer (some ⟨qp.P,0,none⟩)] (.int .i64 g.cols) (by rfl) (by intro w';go_simp;done) (fun w' hS => H3.out _ hS.1)) ?_
 simp only [Act.put,List.setIfInBounds_toArray,List.set_cons_zero,List.set_cons_succ]
 refine AtN.go 8 ?_
 iterate 8 (refine AtC.take (o:=⟨_,_,_,_,_,_⟩) (v:=?_) (by kernel_rfl) rfl (by simp) (by kernel_rfl) (by kernel_rfl) ?_ ?_;rotate_left;(focus (first | exact StabN.skip (by rfl) | (refine StabN.val (by rfl) ?_;intro w' hS;obtain ⟨_,_,_,_,_⟩:=hS;go_simp;first | done | with_reducible rfl)));simp only [Act.put,List.setIfInBounds_toArray,List.set_cons_zero,List.set_cons_succ])
 refine AtC.back ?_
 refine AtN.take 16 (o:=⟨_,_,_,_,_,_⟩) (v:=.int .i64 g.hist.length) (by kernel_rfl) rfl (by simp) (by kernel_rfl) (by kernel_rfl) (StabN.call1 17 #[.pointer (some ⟨qp.P,0,none⟩)] (.int .i64 g.hist.length) (by rfl) (by intro w';go_simp;done) (fun w' hS => H4.out _ hS.1)) ?_
 simp only [Act.put,List.setIfInBounds_toArray,List.set_cons_zero,List.set_cons_succ]
 refine AtN.go 17 ?_
 iterate 8 (refine AtC.take (o:=⟨_,_,_,_,_,_⟩) (v:=?_) (by kernel_rfl) rfl (by simp) (by kernel_rfl) (by kernel_rfl) ?_ ?_;rotate_left;(focus (first | exact StabN.skip (by rfl) | (refine StabN.val (by rfl) ?_;intro w' hS;obtain ⟨_,_,_,_,_⟩:=hS;go_simp;first | done | with_reducible rfl)));simp only [Act.put,List.setIfInBounds_toArray,List.set_cons_zero,List.set_cons_succ])
 refine AtC.back ?_
 refine AtN.take 25 (o:=⟨_,_,_,_,_,_⟩) (v:=.int .u64 G) (by kernel_rfl) rfl (by simp) (by kernel_rfl) (by kernel_rfl) (StabN.call1 26 #[.pointer (some ⟨qp.P,0,none⟩)] (.int .u64 G) (by rfl) (by intro w';go_simp;done) (fun w' hS => H5.out _ hS.1)) ?_
 simp only [Act.put,List.setIfInBounds_toArray,List.set_cons_zero,List.set_cons_succ]
 refine AtN.go 26 ?_
 iterate 8 (refine AtC.take (o:=⟨_,_,_,_,_,_⟩) (v:=?_) (by kernel_rfl) rfl (by simp) (by kernel_rfl) (by kernel_rfl) ?_ ?_;rotate_left;(focus (first | exact StabN.skip (by rfl) | (refine StabN.val (by rfl) ?_;intro w' hS;obtain ⟨_,_,_,_,_⟩:=hS;go_simp;first | done | with_reducible rfl)));simp only [Act.put,List.setIfInBounds_toArray,List.set_cons_zero,List.set_cons_succ])
 refine AtC.back ?_
 refine AtN.go 35 ?_
 iterate 4 (refine AtC.take (o:=⟨_,_,_,_,_,_⟩) (v:=?_) (by kernel_rfl) rfl (by simp) (by kernel_rfl) (by kernel_rfl) ?_ ?_;rotate_left;(focus (first | exact StabN.skip (by rfl) | (refine StabN.val (by rfl) ?_;intro w' hS;obtain ⟨_,_,_,_,_⟩:=hS;go_simp;first | done | with_reducible rfl)));simp only [Act.put,List.setIfInBounds_toArray,List.set_cons_zero,List.set_cons_succ])
 refine AtC.back ?_
 refine AtN.one 34 (o:=⟨_,_,_,_,_,_⟩) (fun v => ∃ A2 n2 c2,v = .slice A2 n2 c2) (fun v w' => ∃ base2 L2,RowsO base2 w' v L2∧L2.map roOf = g.hist ++ g.scr) (by simp) (by kernel_rfl) rfl (fun v w1 w2 ⟨b2,L2,hr,he⟩ hb => ⟨b2,L2,hr.below hb,he⟩) (StabN.call 16 #[.pointer (some ⟨qp.P,0,none⟩)] _ _ (by rfl) ?_ (fun w' hS => ?_)) ?_
 · intro w'
   go_simp
 · refine (H6.out w' hS.1).mono ?_
   rintro e w3 ⟨v,L2,rfl,hr,he,hb⟩
   obtain ⟨A2,c2,rfl⟩:=row_form hr.1
   exact ⟨_,rfl,⟨⟨A2,_,c2,rfl⟩,_,L2,hr,he⟩,hb⟩
 rintro v ⟨A2,n2,c2,rfl⟩
 simp only [Act.put,List.setIfInBounds_toArray,List.set_cons_zero,List.set_cons_succ]
 refine AtN.done (by kernel_rfl) (fun w' hS => ?_)
 obtain ⟨⟨hb,-⟩,b2,L2,hr2,he2⟩:=hS
 have HBW:=Hd hb
 have hd:=H.out.below hb
 have hn2:n2 = L2.length:=by
  obtain ⟨A3,c3,hv3⟩:=row_form hr2.1
  simp only [Value.slice.injEq] at hv3
  exact hv3.2.1
 have HSM:Hid (Calls Tryz.prog 14 #[.slice A2 n2 c2,.slice A n c] w' (fun e w'' => e = .returned (.bool true)∧Below w'.heap.size w' w'')):=Hd (by
  have hlen:L2.length = (g.hist ++ g.scr).length:=by rw [← he2];simp
  have hown:=hd.own
  rw [HV.out] at hown
  have:=SameRows_eq A2 A L2 qd.S c2 c w' (gr_of_own encRh_len hr2.1) (gr_of_own encRh_len hown) (fun r hr => (hr2.2 r hr).1) (fun r hr => (hd.rows r hr).1) (by rw [he2];exact hd.rl.symm) (by rw [hlen];omega)
  rw [hn2,HN.out]
  exact this)
 clear hb hr2 he2 hd hn2 x0 x1 x2 x4
 go_wp2_with (go_at_call 14;(with_reducible refine HSM.out.mono ?_);rintro e w4 ⟨rfl,hb⟩;have HB4:=Hd (below_tail HBW.out hb);clear hb)
 go_ret
 exact ⟨rfl,HB4.out⟩
theorem RgO.weaken {base base':Nat} {w:World} {R:Nat} {vl:Value} {SL:List Rh} {room first n:Nat} {gone:Int} (h:RgO base w R vl SL room first n gone) (hb:base' ≤ base):RgO base' w R vl SL room first n gone :=
 ⟨h.blk,owns_weaken h.own hb,Nat.le_trans hb h.hb,h.hroom,h.hn,h.hm,h.hf,h.rows⟩
theorem PgO.weaken {base base':Nat} {w:World} {q:Pv} {g:Pg} (h:PgO base w q g) (hb:base' ≤ base):PgO base' w q g :=
 ⟨h.blk,Nat.le_trans hb h.hb,h.ring.weaken hb,owns_weaken h.own hb,owns_weaken h.told hb,h.apart,h.scr,h.hist,h.rows,h.cols2,h.cols1000,h.rows1000,h.gone0⟩
theorem DcO.weaken {base base':Nat} {w:World} {q:Dv} {d:Dc} (h:DcO base w q d) (hb:base' ≤ base):DcO base' w q d :=
 ⟨h.blk,Nat.le_trans hb h.hb,owns_weaken h.own hb,owns_weaken h.told hb,h.rl,h.rows,h.cols2,h.cols1000,h.gone0⟩
def MadePost (rows cols lines:Nat) (w:World) (e:Ending) (w':World):Prop :=
 ∃ qp qd,e = .returned (.tuple #[.pointer (some ⟨qp.P,0,none⟩),.pointer (some ⟨qd.D,0,none⟩)])∧Both w.heap.size w' qp qd (newP rows cols lines)∧Below w.heap.size w w'
set_option maxHeartbeats 3200000 in
theorem made_any (a b c:Int) (w:World) (ha:0 ≤ a) (hb:0 ≤ b) (hc:0 ≤ c):Calls Tryz.prog 8 #[.agg #[.int .u8 a,.int .u8 b,.int .u8 c]] w (MadePost (1 + (a % 12).toNat) (2 + (b % 20).toNat) (c % 20).toNat w):=by
 obtain ⟨r0,hr0,hr1⟩:∃ r0:Nat,a % 12 = (r0:Int)∧r0 < 12:=⟨(a % 12).toNat,by omega,by omega⟩
 obtain ⟨c0,hc0,hc1⟩:∃ r0:Nat,b % 20 = (r0:Int)∧r0 < 20:=⟨(b % 20).toNat,by omega,by omega⟩
 obtain ⟨l0,hl0,hl1⟩:∃ r0:Nat,c % 20 = (r0:Int)∧r0 < 20:=⟨(c % 20).toNat,by omega,by omega⟩
 rw [hr0,hc0,hl0,Int.toNat_natCast,Int.toNat_natCast,Int.toNat_natCast]
 rw [← Int.tmod_eq_emod_of_nonneg ha] at hr0
 rw [← Int.tmod_eq_emod_of_nonneg hb] at hc0
 rw [← Int.tmod_eq_emod_of_nonneg hc] at hl0
 obtain ⟨R,hR⟩:∃ R:Nat,R = 1 + r0:=⟨_,rfl⟩
 obtain ⟨C,hC⟩:∃ R:Nat,R = 2 + c0:=⟨_,rfl⟩
 rw [← hR,← hC]
 have hRI:(1:Int) + (r0:Int) = (R:Int):=by omega
 have hCI:(2:Int) + (c0:Int) = (C:Int):=by omega
 have hwr:IntKind.i64.wrap (r0:Int) = (r0:Int):=IntWalk.i64_in _ (by omega)
 have hwc:IntKind.i64.wrap (c0:Int) = (c0:Int):=IntWalk.i64_in _ (by omega)
 have hwl:IntKind.i64.wrap (l0:Int) = (l0:Int):=IntWalk.i64_in _ (by omega)
 have hwR:IntKind.i64.wrap (R:Int) = (R:Int):=IntWalk.i64_in _ (by omega)
 have hwC:IntKind.i64.wrap (C:Int) = (C:Int):=IntWalk.i64_in _ (by omega)
 have HP:=Hd (fun w => pnew_ok R C l0 w (by omega) (by omega) (by omega) (by omega) (by omega))
 have HD:=Hd (fun w => rNew_any R C l0 w (by omega) (by omega) (by omega) (by omega))
 have HB0:=Hd (below_allocs (Below.refl w.heap.size w) (.cells #[.int .u8 a,.int .u8 b,.int .u8 c] 23))
 have x:=hp_new (W:=w) (b:=w.heap.size) (o:=.cells #[.int .u8 a,.int .u8 b,.int .u8 c] 23) rfl
 have x0:=(at_ x 0 _ rfl).1
 have x1:=(at_ x 1 _ rfl).1
 have x2:=(at_ x 2 _ rfl).1
 obtain ⟨W,hW⟩:∃ W,w.alloc (.cells #[.int .u8 a,.int .u8 b,.int .u8 c] 23) = W:=⟨_,rfl⟩
 rw [hW] at HB0 x0 x1 x2
 have x0:W.cell? ⟨w.heap.size,0,none⟩ = some (.int .u8 a):=x0
 have x1:W.cell? ⟨w.heap.size,1,none⟩ = some (.int .u8 b):=x1
 have x2:W.cell? ⟨w.heap.size,2,none⟩ = some (.int .u8 c):=x2
 have HW:=Hd hW
 clear hW x hR hC
 go_enter Tryz.func8,Tryz.ntmps8
 go_upto_region 1 with fail
 rw [HW.out]
 refine wp_region_u 16 (fun w' => Below W.heap.size W w'∧w'.cell? ⟨w.heap.size,0,none⟩ = some (.int .u8 a)∧w'.cell? ⟨w.heap.size,1,none⟩ = some (.int .u8 b)∧w'.cell? ⟨w.heap.size,2,none⟩ = some (.int .u8 c)) (by kernel_rfl) (by kernel_rfl) ?_ ?_
 · exact ⟨(Below.refl _ _).drew,x0,x1,x2⟩
 simp only [List.take_succ_cons,List.take_zero,List.drop_succ_cons,List.drop_zero]
 repeat (
  (first
   | refine seqU_skip (by rfl) ?_
   | (refine seqU_val ?_ (by rfl) ?_ ?_;rotate_left;(focus (intro w' hS;obtain ⟨_,_,_,_⟩:=hS;go_simp;first | done | with_reducible rfl))))
  simp only [Act.put,List.setIfInBounds_toArray,List.set_cons_zero,List.set_cons_succ])
 refine seqU_nil (fun w' hS => ?_)
 have HB1:=Hd (below_tail HB0.out hS.1)
 clear hS x0 x1 x2
 go_wp2_with (first
  | (go_at_call 23;(with_reducible refine (HP.out _).mono ?_);rintro e w2 ⟨qp,rfl,hp,hb⟩;have HQ:=Hd hp;have HB2:=Hd hb;clear hp hb)
  | (go_at_call 27;(with_reducible refine (HD.out _).mono ?_);rintro e w3 ⟨qd,rfl,hd,hb⟩;have HQD:=Hd hd;have HB3:=Hd hb;clear hd hb))
 go_ret2
 have hle:=(below_tail HB1.out HB2.out).size
 refine ⟨qp,qd,rfl,⟨(HQ.out.below HB3.out).weaken HB1.out.size,by rw [← newD_dcOf];exact HQD.out.weaken hle,fun b hb hx => ?_⟩,below_tail (below_tail HB1.out HB2.out) HB3.out⟩
 have h1:=(HQ.out.lt b hb).2
 have h2:=(HQD.out.lt b hx).1
 omega
end Go.Proofs.YtffdblmdelgkaaaGreat
