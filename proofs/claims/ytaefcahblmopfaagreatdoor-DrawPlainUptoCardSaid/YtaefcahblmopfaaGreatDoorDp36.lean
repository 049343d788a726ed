/- Joined by a tool of this claim out of smaller texts. Conditions: as stated. -/
import Derived.Test.YtaefcahblmopfaaGreatDoorDp34
import Derived.Test.YtaefcahblmopfaaGreatDoorDp35
set_option linter.unusedVariables false
set_option linter.unusedSimpArgs false
set_option maxRecDepth 100000
open Go.Lib renaming hid → Hd
namespace Go.Proofs.YtaefcahblmopfaaGreatDoor
open Go.RowKit
def ZNewPost (n:Int) (w:World) (e:Ending) (w':World):Prop:=∃ v,e = .returned (.tuple #[.pointer (some ⟨v.P,0,none⟩),.int .i64 0])∧PzO w.heap.size w' v (newPz n)∧Below w.heap.size w w'
set_option maxHeartbeats 1600000 in
theorem znew_ok (n:Int) (w:World) (h1:1 ≤ n) (h2:n ≤ 65536):Calls Tryz.prog 36 #[.int .i64 n] w (ZNewPost n w):=by
 have g1:¬ n < 1:=by omega
 have g2:¬ n > 65536:=by omega
 have g3:¬ 65536 < n:=by omega
 go_enter Tryz.func36,Tryz.ntmps36
 go_wp2
 go_ret2
 exact ⟨⟨w.heap.size,fun _ => .slice none 0 0⟩,rfl,⟨hp_new rfl,Nat.le_refl _,fun k hk => by
  match k,hk with
  | 0,_ => exact World.ownsRow_nil _ _ _ _
  | 1,_ => exact World.ownsRow_nil _ _ _ _
  | 2,_ => exact World.ownsRow_nil _ _ _ _,fun i j g _ _ _ h => by cases h⟩,below_allocs (Below.refl _ _) _⟩
theorem RgO.weakenT {base base':Nat} {w:World} {R:Nat} {vl:Value} {SL:List Rh} {room first n:Nat} {gone:Int} (h:RgO base w R vl SL room first n gone) (hb:base' ≤ base):RgO base' w R vl SL room first n gone :=
 ⟨h.blk,owns_weaken h.own hb,Nat.le_trans hb h.hb,h.hroom,h.hn,h.hm,h.hf,h.rows⟩
theorem PgO.weakenT {base base':Nat} {w:World} {q:Pv} {g:Pg} (h:PgO base w q g) (hb:base' ≤ base):PgO base' w q g :=
 ⟨h.blk,Nat.le_trans hb h.hb,h.ring.weakenT hb,owns_weaken h.own hb,owns_weaken h.told hb,h.apart,h.scr,h.hist,h.rows,h.cols2,h.cols1000,h.rows1000,h.gone0⟩
theorem ScO.weakenT {base b2:Nat} {w:World} {v:Sv} {s:Sc} (h:ScO base w v s) (hb:b2 ≤ base):ScO b2 w v s:=⟨h.blk,Nat.le_trans hb h.hb,h.page.weakenT hb,h.tabs.weaken hb⟩
theorem PzO.weakenT {base b2:Nat} {w:World} {v:Zv} {p:Pz} (h:PzO base w v p) (hb:b2 ≤ base):PzO b2 w v p:=⟨h.blk,Nat.le_trans hb h.hb,fun k hk => owns_weaken (h.row k hk) hb,h.nd⟩
def TNewPost (rows cols lines:Nat) (n:Int) (w:World) (e:Ending) (w':World):Prop:=∃ v,e = .returned (.tuple #[.pointer (some ⟨v.M,0,none⟩),.int .i64 0])∧TmO w.heap.size w' v ⟨newPz n,newS rows cols lines (sizeT [] cols),newS rows cols 0 (sizeT [] cols),false,newM,⟨#[]⟩,[],[]⟩∧Below w.heap.size w w'
set_option maxHeartbeats 3200000 in
theorem tmnew_ok (rows cols lines:Nat) (n:Int) (w:World) (hr1:1 ≤ rows) (hr2:rows ≤ 1000) (hc1:2 ≤ cols) (hc2:cols ≤ 1000) (hl:lines ≤ 100000) (h1:1 ≤ n) (h2:n ≤ 65536) :
 Calls Tryz.prog 7 #[.int .i64 rows,.int .i64 cols,.int .i64 lines,.int .i64 n] w (TNewPost rows cols lines n w):=by
 have HS1:=Hd (fun w => snew_ok rows cols lines w hr1 hr2 hc1 hc2 hl)
 have HS2:Hid (∀ w,Calls Tryz.prog 35 #[.int .i64 rows,.int .i64 cols,.int .i64 0] w (SNewPost rows cols 0 w)):=Hd (fun w => snew_ok rows cols 0 w hr1 hr2 hc1 hc2 (by omega))
 have HZ:=Hd (fun w => znew_ok n w h1 h2)
 have HM:=Hd (fun w => mnew_any w)
 go_enter Tryz.func7,Tryz.ntmps7
 go_upto_region 5 with (first
  | (go_at_call 35;(with_reducible refine (HS1.out _).mono ?_);rintro e w1 ⟨v1,rfl,hO,hb⟩;have HO1:=Hd hO;have HB1:=Hd hb;clear hO hb)
  | (go_at_call 36;(with_reducible refine (HZ.out _).mono ?_);rintro e w2 ⟨v2,rfl,hO,hb⟩;have HO2:=Hd hO;have HB2:=Hd hb;clear hO hb))
 go_wp2_with (first
  | (go_at_call 35;(with_reducible refine (HS2.out _).mono ?_);rintro e w3 ⟨v3,rfl,hO,hb⟩;have HO3:=Hd hO;have HB3:=Hd hb;clear hO hb)
  | (go_at_call 15;(with_reducible refine (HM.out _).mono ?_);rintro e w4 ⟨rfl,hb⟩;have HB4:=Hd hb;clear hb))
 go_ret2
 have hb1:Below w1.heap.size w1 w4:=below_tail (below_tail HB2.out HB3.out) HB4.out
 have hb2:Below w2.heap.size w2 w4:=below_tail HB3.out HB4.out
 have hbw:=below_tail HB1.out hb1
 have hbM:=fun (o:Obj) => below_allocs (Below.refl w4.heap.size w4) o
 have z1:w.heap.size ≤ w1.heap.size:=HB1.out.size
 have z2:w1.heap.size ≤ w2.heap.size:=HB2.out.size
 have z4:w.heap.size ≤ w4.heap.size:=hbw.size
 exact ⟨⟨w4.heap.size,v2,v1,v3,.pointer none,.slice none 0 0,.slice none 0 0⟩,rfl,⟨hp_new rfl,z4,(HO2.out.weakenT z1).below (below_tail hb2 (hbM _)),HO1.out.below (below_tail hb1 (hbM _)),(HO3.out.weakenT (Nat.le_trans z1 z2)).below (below_tail HB4.out (hbM _)),.inl rfl,World.ownsRow_nil _ _ _ _,World.ownsRow_nil _ _ _ _,fun x hx hy => by
  have:=(HO1.out.lt x hx).2
  have:=(HO3.out.lt x hy).1
  omega,fun x hx => by cases hx⟩,below_tail hbw (hbM _)⟩
def RcW (w:World) (r:Rh):Prop:=r.cs.length ≤ 10000∧ClsAt w r.A r.cs
theorem RcW.below {w w':World} {r:Rh} (h:RcW w r) (hb:Below w.heap.size w w'):RcW w' r:=⟨h.1,h.2.below hb⟩
theorem cls_of_grW {w:World} {A:Option Addr} {l:List Cl} (h:GrAt encCl 8 w A l):ClsAt w A l:=fun h0 => by
 obtain ⟨b,off,hA,hc⟩:=h h0
 exact ⟨b,off,hA,fun i c hi => ⟨hc i c hi 0 _ rfl,hc i c hi 1 _ rfl,hc i c hi 2 _ rfl,hc i c hi 3 _ rfl,hc i c hi 4 _ rfl,hc i c hi 5 _ rfl,hc i c hi 6 _ rfl,hc i c hi 7 _ rfl⟩⟩
theorem RcAt.weak {w:World} {r:Rh} (h:RcAt w r):RcW w r:=⟨h.1,cls_of_grW h.2.2.1⟩
set_option maxHeartbeats 3200000 in
theorem SameRowsW (A B:Option Addr) (L M:List Rh) (ca cb:Nat) (w:World) (hA:GrAt encRh 2 w A L) (hB:GrAt encRh 2 w B M) (hrL:∀ r ∈ L,RcW w r) (hrM:∀ r ∈ M,RcW w r) (he:L.map roOf = M.map roOf) (hz:L.length ≤ 1000000) :
 Calls Tryz.prog 34 #[.slice A L.length ca,.slice B M.length cb] w (fun e w' => e = .returned (.bool true)∧Below w.heap.size w w'):=by
 have hlen:L.length = M.length:=by have:=congrArg List.length he;simpa using this
 have HA:=Hd hA
 have HB:=Hd hB
 have HL:=Hd hrL
 have HM:=Hd hrM
 have HE:=Hd he
 have HLEN:=Hd hlen
 obtain ⟨n,hn⟩:∃ n,n = L.length:=⟨_,rfl⟩
 rw [← hlen,← hn]
 have HN:=Hd hn
 have hz':n ≤ 1000000:=by omega
 clear hA hB hrL hrM he hlen hn hz
 go_enter Tryz.func34,Tryz.ntmps34
 go_wp2_with fail
 go_loopw [5] (fun i wr => ∃ k:Nat,k ≤ n∧i = .int .i64 k∧Below w.heap.size w wr) (fun i _ => n - (intOf i).toNat)
 case atStart => exact ⟨0,Nat.zero_le _,rfl,Below.refl _ _⟩
 case round =>
  obtain ⟨k,hk,rfl,hBe⟩:=hrel
  by_cases hlt:k < n
  rotate_left
  · go_wp2
    go_ret
    exact ⟨rfl,hBe⟩
  · obtain ⟨b,off,x,rfl,hx,cx⟩:=(HA.out.below hBe).at_ (show k < L.length by have:=HN.out;omega)
    obtain ⟨b',off',y,rfl,hy,cy⟩:=(HB.out.below hBe).at_ (show k < M.length by have:=HN.out;have:=HLEN.out;omega)
    have hxy:roOf x = roOf y:=by
     have h1:(L.map roOf)[k]? = some (roOf x):=by rw [List.getElem?_map,hx];rfl
     have h2:(M.map roOf)[k]? = some (roOf y):=by rw [List.getElem?_map,hy];rfl
     rw [HE.out,h2] at h1
     exact (Option.some.inj h1).symm
    have hcs:x.cs = y.cs:=congrArg Ro.cs hxy
    have hct:x.cont = y.cont:=congrArg Ro.cont hxy
    have hrx:=(HL.out x (List.mem_of_getElem? hx)).below hBe
    have hry:=(HM.out y (List.mem_of_getElem? hy)).below hBe
    have HSM:Hid (∀ w',Below wr.heap.size wr w'→Calls Tryz.prog 57 #[.slice x.A x.cs.length x.cap,.slice y.A x.cs.length y.cap] w' (fun e w'' => e = .returned (.bool true)∧Below w'.heap.size w' w'')):=Hd (fun w' hb => by
     have h1:=hrx.below hb
     have h2:=hry.below hb
     have:=SameCells_any x.A y.A x.cs y.cs x.cap y.cap w' h1.2 h2.2 (by have:=h1.1;omega) (by have:=h2.1;omega)
     rw [← hcs] at this
     simpa using this)
    have x0:wr.cell? ⟨b,off + k * 2,none⟩ = some (.slice x.A x.cs.length x.cap):=cx 0 _ rfl
    have x1:wr.cell? ⟨b,off + k * 2 + 1,none⟩ = some (.bool x.cont):=cx 1 _ rfl
    have y0:wr.cell? ⟨b',off' + k * 2,none⟩ = some (.slice y.A x.cs.length y.cap):=by rw [hcs];exact cy 0 _ rfl
    have y1:wr.cell? ⟨b',off' + k * 2 + 1,none⟩ = some (.bool x.cont):=by rw [hct];exact cy 1 _ rfl
    clear hx hy cx cy hxy hcs hct hrx hry
    go_upto_region 6 with fail
    refine wp_region_u 24 (fun w' => Below wr.heap.size wr w'∧w'.cell? ⟨b,off + k * 2,none⟩ = some (.slice x.A x.cs.length x.cap)∧w'.cell? ⟨b,off + k * 2 + 1,none⟩ = some (.bool x.cont)∧w'.cell? ⟨b',off' + k * 2,none⟩ = some (.slice y.A x.cs.length y.cap)∧w'.cell? ⟨b',off' + k * 2 + 1,none⟩ = some (.bool x.cont)) (by kernel_rfl) (by kernel_rfl) ?_ ?_
    · exact ⟨(Below.refl _ _).drew,x0,x1,y0,y1⟩
    simp only [List.take_succ_cons,List.take_zero,List.drop_succ_cons,List.drop_zero]
    repeat (
     (first
      | refine seqU_skip (by rfl) ?_
      | (refine seqU_call 57 #[.slice x.A x.cs.length x.cap,.slice y.A x.cs.length y.cap] (.bool true) (by rfl) ?_ (fun w' hS => (HSM.out w' hS.1).mono (fun e w'' h => ⟨h.1,below_tail hS.1 h.2,holda h.2 hS.2.1,holda h.2 hS.2.2.1,holda h.2 hS.2.2.2.1,holda h.2 hS.2.2.2.2⟩)) ?_;(focus (intro w2;go_simp;done)))
      | (refine seqU_val ?_ (by rfl) ?_ ?_;rotate_left;(focus (intro w' hS;obtain ⟨_,_,_,_,_⟩:=hS;go_simp;first | done | with_reducible rfl))))
     simp only [Act.put,List.setIfInBounds_toArray,List.set_cons_zero,List.set_cons_succ])
    refine seqU_nil (fun w' hS => ?_)
    have HBB:=Hd (below_tail hBe hS.1)
    clear hS x0 x1 y0 y1
    go_wp2
    go_roundw
    case rel => exact ⟨k + 1,by omega,by go_num,HBB.out⟩
    case measure => simp [intOf];omega
def rhOf (r:Rw):Rh:=⟨r.A,r.cs,r.cap,false⟩
theorem gr_of_rws {w:World} {A:Option Addr} {rows:List Rw} (h:RwsAt w A (rows.map unCont)):GrAt encRh 2 w A (rows.map rhOf):=fun h0 => by
 rw [List.length_map] at h0
 obtain ⟨b,off,hA,hr⟩:=h (by rw [List.length_map];exact h0)
 refine ⟨b,off,hA,fun i x hi j v hj => ?_⟩
 rw [List.getElem?_map] at hi
 obtain ⟨r,hg,rfl⟩:=Option.map_eq_some_iff.1 hi
 obtain ⟨⟨c0,c1⟩,-,-⟩:=hr i (unCont r) (by rw [List.getElem?_map,hg];rfl)
 rcases j with _ | _ | j
 · simp [encRh,rhOf] at hj;subst hj;exact c0
 · simp [encRh,rhOf] at hj;subst hj;exact c1
 · simp [encRh] at hj
theorem rw_of_rws {w:World} {A:Option Addr} {rows:List Rw} (h:RwsAt w A (rows.map unCont)) (hz:∀ r ∈ rows,r.cs.length ≤ 1000):∀ r ∈ rows.map rhOf,RcW w r:=fun r hr => by
 obtain ⟨q,hq,rfl⟩:=List.mem_map.1 hr
 obtain ⟨i,hi⟩:=List.mem_iff_getElem?.1 hq
 obtain ⟨b,off,hA,hr⟩:=h (by rw [List.length_map];exact List.length_pos_iff.2 (List.ne_nil_of_mem hq))
 have:=(hr i (unCont q) (by rw [List.getElem?_map,hi];rfl)).2.1
 exact ⟨by have:=hz q hq;show q.cs.length ≤ 10000;omega,this⟩
theorem map_rhOf (rows:List Rw):(rows.map rhOf).map roOf = (rowsCl rows).map mkR:=by
 unfold rowsCl
 simp only [List.map_map]
 rfl
theorem feedG_ok {t:Tm} {bs:List Int} (h:PzOk t.pz) (hb:BysI bs):PzOk (feedG evD t bs).pz:=by
 have h1:∀ (es:List Ev) (t:Tm),(evsG evD t es).pz = t.pz:=fun es => by
  induction es with
  | nil => intro t;rfl
  | cons e es ih => intro t;show (evsG evD (evD t e) es).pz = _;rw [ih,evD_blind.pz]
 have h2:∀ (l:List Int) (t:Tm),BysI l→PzOk t.pz→PzOk (feedG evD t l).pz:=fun l => by
  induction l with
  | nil => intro t _ h;exact h
  | cons c l ih => intro t hl h;exact ih _ (fun x hx => hl x (List.mem_cons_of_mem _ hx)) (by show PzOk (evsG evD _ _).pz;rw [h1];exact h.step (by have:=hl c (List.mem_cons_self ..);omega))
 exact h2 _ _ hb h
theorem newPz_ok {n:Int} (h1:1 ≤ n) (h2:n ≤ 65536):PzOk (newPz n):=⟨by simp [newPz],by simp [newPz],by simp [newPz],⟨by simp [newPz];omega,by simp [newPz]⟩,by simp [newPz],by simp [newPz];omega,by simp [newPz],DkOk.zero⟩
theorem RestQ.rest {t:Tm} (h:RestQ t.pz):restB t = true:=by
 unfold restB
 rw [h.held.1,h.held.2]
 rfl
theorem Feeds.bys {s s':Sc} {bs:List Int} (h:Feeds s bs s'):BysI bs:=by
 obtain ⟨E,rfl,hg,-,-⟩:=h
 intro x hx
 obtain ⟨e,he,hx⟩:=List.mem_flatMap.1 hx
 rcases hg e he with ⟨r,rfl,hr,-⟩ | ⟨l,c,rfl,-,-,-,h1,h2⟩
 · exact bytesR_range r hr x hx
 · rw [evBytes_seq] at hx
   simp only [List.mem_cons,List.mem_append,List.not_mem_nil,or_false] at hx
   rcases hx with rfl | rfl | hx | rfl
   · omega
   · omega
   · have:=joinI_in l x hx;omega
   · omega
theorem rowsD_of {rows:List Rw} {cols:Nat} (hok:RowsOk rows cols):RowsD cols (rowsCl rows):=fun l hl => by
 obtain ⟨r,hr,rfl⟩:=List.mem_map.1 hl
 exact hok.2.2.2.2 r hr
theorem drawI_all {rows:List Rw} (hok:CsOk rows) (hz:rows.length ≤ 400) (ay ax:Nat) (hay:ay ≤ 1000) (hax:ax ≤ 1000):(drawI (rowsCl rows) ay ax).length ≤ 80000000:=by
 have h1:=drawI_len hok hz ay ax
 have h2:=turnI_len2 (rowsI 0 zeroA (rowsCl rows)).2 RightA.zero
 have h3:=movI_len ay ax hay hax
 unfold drawI
 simp only [List.length_append]
 omega
set_option maxHeartbeats 3200000 in
theorem draws_any (A:Option Addr) (rows:List Rw) (ca cols ay ax:Nat) (w:World) (hl:RwsAt w A rows) (hok:RowsOk rows cols) (hcap:∀ r ∈ rows,r.cs.length ≤ r.cap) (hay:ay < rows.length) (hax:ax < cols) (ht:TabP w) :
 Calls Tryz.prog 48 #[.slice A rows.length ca,.agg #[.int .i64 ay,.int .i64 ax]] w fun e w' => e = .returned (.bool true)∧Below w.heap.size w w':=by
 have hcs:CsOk rows:=fun r hr => ⟨by rw [(hok.2.2.2.2 r hr).1];exact hok.2.2.2.1,hcap r hr,(hok.2.2.2.2 r hr).2.2⟩
 obtain ⟨W,hW⟩:∃ W,w.alloc (.cells #[.int .i64 ay,.int .i64 ax] 34) = W:=⟨_,rfl⟩
 have hb0:Below w.heap.size w W:=by rw [← hW];exact below_allocs (Below.refl _ _) _
 have hn0:W.heap[w.heap.size]? = some (.cells #[.int .i64 ay,.int .i64 ax] 34 (0,0)):=by rw [← hW];exact hp_new rfl
 obtain ⟨⟨x0,-⟩,⟨x1,-⟩⟩:=And.intro (at_ hn0 0 (.int .i64 ay) rfl) (at_ hn0 1 (.int .i64 ax) rfl)
 have HB0:=Hd hb0
 have HN0:=Hd hn0
 have HDR:Hid (Calls Tryz.prog 87 #[.slice A rows.length ca,.agg #[.int .i64 ay,.int .i64 ax]] W fun e w' => e = .returned (.tuple #[.string (strOfNums (drawI (rowsCl rows) ay ax)),.int .i64 0])∧Below W.heap.size W w'):=Hd (drows_ok A rows ca cols ay ax W (hl.below hb0) hok hcap hay hax (ht.below hb0))
 obtain ⟨la,hfe⟩:=feed_draw (st:=sizeT [] cols) (rowsCl rows) (by unfold rowsCl;rw [List.length_map];exact hok.1) hok.2.2.1 (by unfold rowsCl;rw [List.length_map];have:=hok.2.1;omega) hok.2.2.2.1 (rowsD_of hok) ay ax (by unfold rowsCl;rw [List.length_map];exact hay) hax
 have hrl:(rowsCl rows).length = rows.length:=by unfold rowsCl;rw [List.length_map]
 have hlen:=drawI_all hcs hok.2.1 ay ax (by have:=hok.2.1;omega) (by have:=hok.2.2.2.1;omega)
 rw [hrl] at hfe
 have HFE:=Hd hfe
 have HLEN:=Hd hlen
 have HTN:Hid (∀ w,Calls Tryz.prog 7 #[.int .i64 rows.length,.int .i64 cols,.int .i64 5,.int .i64 50] w (TNewPost rows.length cols 5 50 w)):=Hd (fun w => tmnew_ok rows.length cols 5 50 w (by have:=hok.1;omega) (by have:=hok.2.1;omega) hok.2.2.1 hok.2.2.2.1 (by omega) (by omega) (by omega))
 obtain ⟨b,off,rfl,hrr⟩:=hl hok.1
 obtain ⟨⟨d0,-⟩,-,-⟩:=(hrr 0 _ (List.getElem?_eq_getElem hok.1)).below hb0
 rw [(hok.2.2.2.2 _ (List.getElem_mem hok.1)).1,Nat.zero_mul,Nat.add_zero] at d0
 generalize rows[0].A = rA at d0
 generalize rows[0].cap = rc at d0
 have HL:=Hd hl
 have HOK:=Hd hok
 have h0:=hok.1
 clear hfe hlen ht hcs hcap hay hax hrr hl hok hb0 hn0
 obtain ⟨S,hS⟩:∃ S,strOfNums (drawI (rowsCl rows) ay ax) = S:=⟨_,rfl⟩
 rw [hS] at HDR
 have HS:=Hd hS
 clear hS
 go_enter Tryz.func48,Tryz.ntmps48
 go_upto_region 2 with (go_at_call 87;(with_reducible refine HDR.out.mono ?_);rintro e w1 ⟨rfl,hb⟩;have HB1:=Hd hb;clear hb)
 have e0:w1.cell? ⟨b,off,none⟩ = some (.slice rA cols rc):=holda HB1.out d0
 clear d0 x0 x1 hW
 go_upto_region 5 with (go_at_call 7;(with_reducible refine (HTN.out _).mono ?_);rintro e w2 ⟨v,rfl,hO,hb⟩;have HO:=Hd hO;have HB2:=Hd hb;clear hO hb)
 have hlo:W.heap.size ≤ w1.heap.size:=HB1.out.size
 have hwl:w.heap.size < W.heap.size:=lt_of_heap HN0.out
 obtain ⟨p',hp',hfd,hok2⟩:=Feeds.fed (t:=⟨newPz 50,newS rows.length cols 5 (sizeT [] cols),newS rows.length cols 0 (sizeT [] cols),false,newM,⟨#[]⟩,[],[]⟩) HFE.out rfl (RestQ.new 50)
 have hcv:=conv_str S w2
 have hbs:=Feeds.bys HFE.out
 have hpo:=feedG_ok (t:=⟨newPz 50,newS rows.length cols 5 (sizeT [] cols),newS rows.length cols 0 (sizeT [] cols),false,newM,⟨#[]⟩,[],[]⟩) (newPz_ok (by omega) (by omega)) hbs
 rw [hfd] at hpo
 have hbw:=bytes_below w2 5 S
 have hbi:BytesIn (Lib.bytesWorld w2 5 S) (some ⟨w2.heap.size,0,none⟩) (drawI (rowsCl rows) ay ax) (tmX v):=fun h => by
  have h1:=bytes_in w2 5 (drawI (rowsCl rows) ay ax) hbs h
  rw [HS.out] at h1
  obtain ⟨g,o,e,h2⟩:=h1
  obtain ⟨rfl,rfl⟩:w2.heap.size = g∧0 = o:=by injection e with e;injection e with e1 e2 _;exact ⟨e1,e2⟩
  exact ⟨_,_,rfl,fun hx => by have:=(HO.out.lt _ hx).2;omega,h2⟩
 have hsz:S.size = (drawI (rowsCl rows) ay ax).length:=by rw [← HS.out,strOfNums_size]
 generalize Lib.bytesWorld w2 5 S = wb at hcv hbw hbi
 have HFD:Hid (∀ c,Calls Tryz.prog 9 #[.pointer (some ⟨v.M,0,none⟩),.slice (some ⟨w2.heap.size,0,none⟩) S.size c] wb (TmPost w1.heap.size wb v { (⟨newPz 50,newS rows.length cols 5 (sizeT [] cols),newS rows.length cols 0 (sizeT [] cols),false,newM,⟨#[]⟩,[],[]⟩:Tm) with s0:=dS (sizeT [] cols) cols (rowsCl rows) zeroA ay ax la,pz:=p' })):=Hd (fun c => by
  rw [hsz,← hfd]
  exact tfeed_any evD OkD (doD w1.heap.size) evD_blind.pz (HO.out.below hbw) (newPz_ok (by omega) (by omega)) hbi hbs (by have:=HLEN.out;omega) hok2)
 have HBW:=Hd ((HB2.out.mono hlo).trans (hbw.mono (Nat.le_trans hlo HB2.out.size)))
 have HPO:=Hd (And.intro hp' hpo)
 have HOB:=Hd (HO.out.below hbw)
 have HWL:=Hd (And.intro hlo hwl)
 clear hp' hfd hok2 hbs hpo hbw hbi hsz hlo hwl e0 HDR HTN HO
 go_upto_region 6 with (go_at_call 9;(with_reducible refine (HFD.out _).mono ?_);rintro e w3 ⟨rfl,hr⟩;have HR3:=Hd hr;clear hr)
 obtain ⟨v3,hV3,hO3,hm3⟩:=HR3.out
 have hB3:Below W.heap.size W w3:=(HB1.out.trans HBW.out).trans (hm3.below (fun x hx => Nat.le_trans HWL.out.1 (HOB.out.lt x hx).1) (Nat.le_trans HWL.out.1 HBW.out.size))
 have HO3:=Hd hO3
 have HF3:=Hd (tFirst_any hO3)
 rw [hV3.M] at HF3
 have HP3:=Hd (sPage_any hO3.a)
 have HM3:=Hd hV3.M
 have HB3:=Hd hB3
 clear hV3 hO3 hm3 hB3 hcv
 go_upto_region 7 with (first
  | (go_at_call 12;(with_reducible refine HF3.out.mono ?_);rintro e w4 ⟨rfl,rfl⟩)
  | (go_at_call 78;(with_reducible refine HP3.out.mono ?_);rintro e w4 ⟨rfl,rfl⟩))
 have HALL:=Hd (pAll_any HO3.out.a.page)
 have HHS:Hid (∀ L:List Rh,L.map roOf = ([]:List Ro) ++ (rowsCl rows).map mkR→L.map roOf = (rows.map rhOf).map roOf):=Hd (fun L h => by rw [h,List.nil_append,map_rhOf])
 have HRL:Hid (∀ w',Below w3.heap.size w3 w'→RwsAt w' (some ⟨b,off,none⟩) rows):=Hd (fun w' hb => HL.out.below (HB0.out.trans ((HB3.out.trans (hb.mono HB3.out.size)).mono HB0.out.size)))
 have HPA:Hid (∀ w',Below w3.heap.size w3 w'→Calls Tryz.prog 89 #[.slice (some ⟨b,off,none⟩) rows.length ca] w' (PartedPost rows w')):=Hd (fun w' hb => parted_any _ rows ca w' (HRL.out w' hb) h0 HOK.out.2.1)
 have HX3:Hid (w3.heap[w.heap.size]? = some (.cells #[.int .i64 ay,.int .i64 ax] 34 (0,0))):=Hd ((HB3.out.block _ HWL.out.2).trans HN0.out)
 have HFR:Hid (∀ w',Below w3.heap.size w3 w'→Calls Tryz.prog 90 #[.pointer (some ⟨v.M,0,none⟩),.agg #[.int .i64 ay,.int .i64 ax]] w' fun e w2 => e = .returned (.bool true)∧TmRq w1.heap.size w' v3 { (⟨newPz 50,newS rows.length cols 5 (sizeT [] cols),newS rows.length cols 0 (sizeT [] cols),false,newM,⟨#[]⟩,[],[]⟩:Tm) with s0:=dS (sizeT [] cols) cols (rowsCl rows) zeroA ay ax la,pz:=p' } w2):=Hd (fun w' hb => by
  have:=fresh_any (ay:=ay) (ax:=ax) (HO3.out.below hb) HPO.out.2 rfl rfl rfl rfl rfl rfl (RestQ.rest HPO.out.1) (by rw [hrl];have:=HOK.out.2.1;omega)
  rw [HM3.out] at this
  exact this)
 clear HF3 HP3 HFD
 have hlt3:Hid (∀ x ∈ tmX v3,W.heap.size ≤ x):=Hd (fun x hx => Nat.le_trans HWL.out.1 (HO3.out.lt x hx).1)
 obtain ⟨QP,hQP⟩:∃ QP,v3.a.q.P = QP:=⟨_,rfl⟩
 have HQP:=Hd hQP
 rw [hQP] at HALL ⊢
 clear hQP
 go_wp2_with (first
  | (go_at_call 88;(with_reducible refine HALL.out.mono ?_);rintro e w4 ⟨val,L,rfl,hro,hmap,hb4⟩;obtain ⟨LA,lc,rfl⟩:=row_form hro.1;have HRO:=Hd hro;have HMP:=Hd (HHS.out L hmap);have HB4:=Hd hb4;clear hro hmap hb4)
  | (go_at_call 89;(with_reducible refine (HPA.out _ HB4.out).mono ?_);rintro e w5 ⟨A5,c5,rfl,hpr,hb5⟩;have HB5:=Hd (below_tail HB4.out hb5);have HSM:Hid (Calls Tryz.prog 34 #[.slice LA L.length lc,.slice A5 rows.length c5] w5 fun e w' => e = .returned (.bool true)∧Below w5.heap.size w5 w'):=Hd (by
      have h1:=HRO.out.below hb5
      have:=SameRowsW LA A5 L (rows.map rhOf) lc c5 w5 (gr_of_ownZ encRh_len h1.1) (gr_of_rws hpr) (fun r hr => (h1.2 r hr).1.weak) (rw_of_rws hpr (fun r hr => by rw [(HOK.out.2.2.2.2 r hr).1];exact HOK.out.2.2.2.1)) HMP.out (by have:=congrArg List.length HMP.out;simp only [List.length_map] at this;have:=HOK.out.2.1;omega)
      rw [List.length_map] at this
      exact this);clear hpr hb5)
  | (go_at_call 34;(with_reducible refine HSM.out.mono ?_);rintro e w6 ⟨rfl,hb6⟩;have HB6:=Hd (below_tail HB5.out hb6);have y0:w6.cell? ⟨w.heap.size,0,none⟩ = some (.int .i64 ay):=(at_ ((HB6.out.block _ (lt_of_heap HX3.out)).trans HX3.out) 0 _ rfl).1;have y1:w6.cell? ⟨w.heap.size,1,none⟩ = some (.int .i64 ax):=(at_ ((HB6.out.block _ (lt_of_heap HX3.out)).trans HX3.out) 1 _ rfl).1;clear hb6)
  | (go_at_call 90;(with_reducible refine (HFR.out _ HB6.out).mono ?_);rintro e w7 ⟨rfl,hr⟩;have HR7:=Hd hr;have HBA:Hid (Calls Tryz.prog 91 #[.pointer (some ⟨QP,0,none⟩)] w7 fun e w' => e = .returned (.int .i64 0)∧w7 = w'):=Hd (by
      obtain ⟨v7,hq,hV,hO7,hm7⟩:=HR7.out
      have:=pBase_any hO7.a.page
      rw [hq,HQP.out] at this
      exact this);clear hr)
  | (go_at_call 91;(with_reducible refine HBA.out.mono ?_);rintro e w8 ⟨rfl,rfl⟩))
 go_ret
 obtain ⟨v7,hq,hV,hO7,hm7⟩:=HR7.out
 exact ⟨rfl,HB0.out.trans (((HB3.out.trans (HB6.out.mono HB3.out.size)).trans (hm7.below hlt3.out (Nat.le_trans HB3.out.size HB6.out.size))).mono HB0.out.size)⟩
def renWb:Go.Shelf.Ren:=⟨fun n => if n = 167 then 100 else Tryz.laysJoin_ren.f n,Tryz.laysJoin_ren.t,Tryz.laysJoin_ren.g⟩
theorem laysWs:Lays.n166 Tryz.prog Tryz.laysJoin_ren:={ Tryz.laysJoin with }
theorem laysSt:Lays.n169 Tryz.prog Tryz.laysJoin_ren:={ Tryz.laysJoin with }
theorem laysWb:Lays.n167 Tryz.prog renWb:={ Tryz.laysJoin with
 f167:=Tryz.func100.trans (congrArg some (by kernel_rfl))
 f240:=Tryz.func168.trans (congrArg some (by kernel_rfl))
 f276:=Tryz.func260.trans (congrArg some (by kernel_rfl))
 t5:=Tryz.underlying5
 a5:=Tryz.isAgg5
 z5:=Tryz.sizeOf5
 v5:=Tryz.zeroValue5 }
theorem extraWb:Builder.Extra Tryz.prog renWb :=
 { sizeBuilder:=by kernel_rfl
   liesBuilder:=by kernel_rfl
   t5:=Tryz.underlying5
   a5:=Tryz.isAgg5
   z5:=Tryz.sizeOf5
   v5:=Tryz.zeroValue5
   infoByte:=by kernel_rfl
   cellsByte:=by kernel_rfl
   sizeByte:=by kernel_rfl
   neB5:=by decide }
def BdI (base:Nat) (w:World) (b:Nat) (l:List UInt8):Prop:=Lib.IsBuilder 76 5 base b (Lib.byteCells l) w
theorem BdI.below {base:Nat} {w w':World} {b:Nat} {l:List UInt8} (h:BdI base w b l) (hb:Below w.heap.size w w'):BdI base w' b l:=by
 have up:∀ p,Lib.BuilderAt 76 5 base b p (Lib.byteCells l) w→Lib.BuilderAt 76 5 base b p (Lib.byteCells l) w':=fun p ⟨h1,v,h2,h3,h4⟩ => ⟨h1,v,(hb.block _ (lt_of_heap h2)).trans h2,owns_mod h3 (Mod.of_below (X:=[]) hb) (fun _ _ h => by cases h),h4⟩
 exact h.imp (up _) (up _)
theorem BdI.new {base:Nat} {w:World} {b:Nat} (h:w.heap[b]? = some (.cells #[.pointer none,.slice none 0 0] 76 (0,0))) (hb:base ≤ b):BdI base w b []:=.inl ⟨hb,_,h,World.ownsRow_nil w base 5 1,by simp [Value.ownBlock]⟩
theorem bw_any {base b:Nat} {l:List UInt8} {w:World} (h:BdI base w b l) (s:ByteArray) (hz:l.length + s.size ≤ 140737488355328) (hb:base ≤ w.heap.size) :
 Calls Tryz.prog 101 #[.pointer (some ⟨b,0,none⟩),.string s] w fun e w' => e = .returned (.tuple #[.int .i64 s.size,.nilIface])∧BdI base w' b (l ++ s.data.toList)∧Below base w w':=by
 refine (Any.Builder_WriteString laysWs extraJ base b (Lib.byteCells l) s w h (by rw [Lib.byteCells_length];exact hz) hb).mono ?_
 rintro e w' ⟨he,h1,h2⟩
 exact ⟨he,.inr (by rw [Lib.byteCells_append];exact h1),h2⟩
theorem bb_any {base b:Nat} {l:List UInt8} {w:World} (h:BdI base w b l) (c:UInt8) (hz:l.length + 1 ≤ 140737488355328) (hb:base ≤ w.heap.size) :
 Calls Tryz.prog 100 #[.pointer (some ⟨b,0,none⟩),.int .u8 c.toNat] w fun e w' => e = .returned .nilIface∧BdI base w' b (l ++ [c])∧Below base w w':=by
 refine (Any.Builder_WriteByte laysWb extraWb base b (Lib.byteCells l) (c.toNat:Int) w h (by rw [Lib.byteCells_length];exact hz) hb).mono ?_
 rintro e w' ⟨he,h1,h2⟩
 exact ⟨he,.inr (by rw [Lib.byteCells_append];exact h1),h2⟩
theorem bs_any {base b:Nat} {l:List UInt8} {w:World} (h:BdI base w b l) (hb:base ≤ w.heap.size) :
 Calls Tryz.prog 42 #[.pointer (some ⟨b,0,none⟩)] w fun e w' => e = .returned (.string ⟨l.toArray⟩)∧Below base w w':=Any.Builder_String_any laysSt extraJ base b l w h hb
set_option maxHeartbeats 1600000 in
theorem bwriteH (base b o n:Nat) (ba bf:Value) (xs:List Value) (s:ByteArray) (w:World) (hl:LiesB w b o) (h:BuB w b o ba bf) (hown:w.ownsRow base 5 1 bf n xs) (hb:bf.ownBlock ≠ some b) (hs:n + s.size ≤ 1000000000000) (hbase:base ≤ w.heap.size) :
 Calls Tryz.prog 101 #[.pointer (some ⟨b,o,none⟩),.string s] w (BwPost base b o n bf xs s w):=by
 obtain ⟨i0,hi,hz0,hz1,hz2⟩:=info_parts info_u8B
 have HC:=Hd (bcopyG b o ba bf w hl h)
 have HN:=Hd hb
 have HO:=Hd hown
 have hlt:=lt_of_cell h.h0.1
 obtain ⟨A,cap,rfl⟩:=row_form hown
 clear h hl hb hown
 go_enter Tryz.func101,Tryz.ntmps101
 go_upto_region 2 with (go_at_call 168;(with_reducible refine HC.out.mono ?_);rintro e w2 ⟨rfl,hw2,hB2⟩)
 have HW:=Hd hw2
 have HB2:=Hd hB2
 have hsz:w2.heap.size = w.heap.size:=by rcases HW.out with rfl | rfl <;> simp [World.setCell]
 have HO2:Hid (w2.ownsRow base 5 1 (.slice A n cap) n xs):=Hd (by
  rcases HW.out with rfl | rfl
  · exact HO.out
  · exact owns_mod HO.out ((Mod.refl [b] _).setCell (a:=⟨b,o,none⟩) (.inl (by simp)) _) (fun g hg hx => HN.out (by rw [← List.mem_singleton.1 hx];exact hg)))
 obtain ⟨c1,f1⟩:=hB2.h1
 clear hw2 hB2
 go_wp2_with (at_builtin;refine wpList_append_strG rfl _ _ 23 9 rfl base 5 i0 Tryz.underlying23 Tryz.underlying9 hi hz0 hz1 hz2 _ n xs rfl HO2.out s rfl (by unfold maxLen;omega) (by omega) (by omega) ?_;intro v' w3 hown' hgrow hv;obtain ⟨A',c',rfl⟩:=row_form hown';have HB3:=Hd (HB2.out.grown hgrow HN.out);have HO3:=Hd hown';have HG3:Hid (w2.grownBy w3 (Value.slice A n cap).ownBlock):=Hd hgrow;have HV3:Hid (∀ g,(Value.slice A' (n + s.size) c').ownBlock = some g→(Value.slice A n cap).ownBlock = some g ∨ w2.heap.size ≤ g):=Hd hv;have d1:=HB3.out.h1.1;have e1:=HB3.out.h1.2;clear hown' hgrow hv)
 go_ret2
 exact ⟨rfl,_,_,_,HW.out,HG3.out,HO3.out,fun g hg => (HV3.out g hg).imp id (fun h => by omega),HB3.out,rfl⟩
theorem bwm_any {base b:Nat} {l:List UInt8} {wr:World} (h0:BdI base wr b l) (s:ByteArray) (hs:l.length + s.size ≤ 1000000000000) (hbase:base ≤ wr.heap.size) {w:World} (hbr:Below wr.heap.size wr w) (hsz:wr.heap.size < w.heap.size) :
 Calls Tryz.prog 101 #[.pointer (some ⟨b,0,none⟩),.string s] w fun e w' => e = .returned (.tuple #[.int .i64 s.size,.nilIface])∧BdI base w' b (l ++ s.data.toList)∧Below base w w'∧w'.heap[wr.heap.size]? = w.heap[wr.heap.size]?:=by
 obtain ⟨p,hp,hB,v,hbk0,hown0,hne⟩:∃ p,(p = .pointer none ∨ p = .pointer (some ⟨b,0,none⟩))∧Lib.BuilderAt 76 5 base b p (Lib.byteCells l) wr:=by
  rcases h0 with h | h
  · exact ⟨_,.inl rfl,h⟩
  · exact ⟨_,.inr rfl,h⟩
 have hbk:=(hbr.block _ (lt_of_heap hbk0)).trans hbk0
 have hown:w.ownsRow base 5 1 v l.length (Lib.byteCells l):=by
  have:=owns_mod hown0 (Mod.of_below (X:=[]) hbr) (fun _ _ h => by cases h)
  rwa [Lib.byteCells_length] at this
 have hlw:=lt_of_heap hbk0
 have hkb:wr.heap.size ≠ b:=by omega
 have hkv:∀ g,v.ownBlock = some g→g < wr.heap.size:=fun g hg => (hown0.lt g hg).2
 refine (bwriteH base b 0 l.length p v (Lib.byteCells l) s w (lies_builderP hbk rfl) ⟨at_ hbk 0 _ rfl,at_ hbk 1 _ rfl,hp⟩ hown hne hs (Nat.le_trans hbase hbr.size)).mono ?_
 rintro e w' ⟨he,v',w1,w2,hw1,hg,ho,hn,hBu,rfl⟩
 have hX:Mod (b :: v.ownBlock.toList) w w1:=by
  rcases hw1 with rfl | rfl
  · exact Mod.refl _ _
  · exact (Mod.refl _ _).setCell (a:=⟨b,0,none⟩) (.inl (List.mem_cons_self ..)) _
 have hX2:Mod (b :: v.ownBlock.toList) w w2:=hX.trans (Mod.of_grown hg (fun g e => List.mem_cons_of_mem _ (Option.mem_toList.2 e))) (fun _ hx => .inl hx)
 have hX3:Mod [b] w2 (w2.setCell ⟨b,0 + 1,none⟩ v'):=(Mod.refl _ _).setCell (a:=⟨b,0 + 1,none⟩) (.inl (List.mem_singleton.2 rfl)) _
 have hX4:Mod (b :: v.ownBlock.toList) w (w2.setCell ⟨b,0 + 1,none⟩ v'):=hX2.trans (hX3.mono (fun b' hb => by rw [List.mem_singleton.1 hb];exact List.mem_cons_self ..)) (fun _ hx => .inl hx)
 have hblk:∃ x,w2.heap[b]? = some (.cells #[x,v] 76 (0,0)):=by
  have hgb:∀ W:World,W.grownBy w2 v.ownBlock→(∃ x,W.heap[b]? = some (.cells #[x,v] 76 (0,0)))→∃ x,w2.heap[b]? = some (.cells #[x,v] 76 (0,0)):=fun W hg ⟨x,hx⟩ => ⟨x,(hg.block b (lt_of_heap hx) (fun e => hne e.symm)).trans hx⟩
  rcases hw1 with rfl | rfl
  · exact hgb _ hg ⟨_,hbk⟩
  · exact hgb _ hg ⟨.pointer (some ⟨b,0,none⟩),by
     have:=heap_setCell_eq (o:=0) (v:=.pointer (some ⟨b,0,none⟩)) hbk
     exact this⟩
 obtain ⟨x,hx⟩:=hblk
 have hx0:=hBu.h0.1
 rw [(at_ hx 0 x rfl).1] at hx0
 obtain rfl:x = .pointer (some ⟨b,0,none⟩):=Option.some.inj hx0
 have hvb:v'.ownBlock ≠ some b:=fun e => by
  rcases hn _ e with h | h
  · exact hne h
  · have:=lt_of_heap hbk;omega
 refine ⟨he,.inr ⟨hB,v',?_,?_,hvb⟩,hX4.below (fun g hg => ?_) (Nat.le_trans hbase hbr.size),hX4.block _ hsz (fun hm => ?_)⟩
 · have:=heap_setCell_eq (o:=1) (v:=v') hx
   exact this
 · have hlen:(Lib.byteCells (l ++ s.data.toList)).length = l.length + s.size:=by rw [Lib.byteCells_length,List.length_append,Array.length_toList];rfl
   have hby:Lib.byteCells (l ++ s.data.toList) = Lib.byteCells l ++ Lib.strCells s:=by simp [Lib.byteCells,Lib.strCells]
   rw [hlen,hby]
   refine owns_mod ho hX3 (fun g hg2 hm => ?_)
   rw [List.mem_singleton.1 hm] at hg2
   exact hvb hg2
 · rcases List.mem_cons.1 hg with rfl | hg
   · exact hB
   · exact (hown0.lt g (Option.mem_toList.1 hg)).1
 · rcases List.mem_cons.1 hm with e | hm
   · exact hkb e
   · have:=hkv _ (Option.mem_toList.1 hm);omega
set_option maxHeartbeats 3200000 in
theorem usedL_take {l:List Cl} {n:Nat} {c:Cl} (hc:l[n]? = some c):usedL (l.take (n + 1)) = if c.r = 0 then usedL (l.take n) else n + 1:=by
 have hn:n < l.length:=(List.getElem?_eq_some_iff.1 hc).1
 have e:l.take (n + 1) = l.take n ++ [c]:=by rw [List.take_add_one,hc];rfl
 rw [e]
 unfold usedL
 rw [List.reverse_append,List.reverse_singleton,List.singleton_append,List.dropWhile_cons]
 by_cases h:c.r = 0
 · rw [if_pos (by simpa using h),if_pos h]
 · rw [if_neg (by simpa using h),if_neg h]
   simp;omega
theorem usedL_le (l:List Cl):usedL l ≤ l.length:=by
 unfold usedL
 have:=(List.dropWhile_sublist (fun c:Cl => decide (c.r = 0)) (l:=l.reverse)).length_le
 rwa [List.length_reverse] at this
set_option maxHeartbeats 3200000 in
theorem cUsed_any (A:Option Addr) (l:List Cl) (ca:Nat) (w:World) (hl:GrAt encCl 8 w A l) (hz:l.length ≤ 100000000) :
 Calls Tryz.prog 99 #[.slice A l.length ca] w (fun e w' => e = .returned (.int .i64 (usedL l))∧Below w.heap.size w w'):=by
 have HL:=Hd hl
 obtain ⟨m,hm⟩:∃ m,m = l.length:=⟨_,rfl⟩
 have HM:=Hd hm
 have HZ:=Hd hz
 rw [← hm]
 clear hl hz hm
 go_enter Tryz.func99,Tryz.ntmps99
 go_wp2_with fail
 go_loopw [3] (fun s3 wr => ∃ n:Nat,s3 = .int .i64 n∧n ≤ m∧usedL (l.take n) = usedL l∧Below w.heap.size w wr) (fun s3 _ => (intOf s3).toNat)
 case atStart => exact ⟨m,rfl,Nat.le_refl _,by rw [HM.out,List.take_length],Below.refl _ _⟩
 case round =>
  obtain ⟨n,rfl,hn,hu,hb⟩:=hrel
  have HB:=Hd hb
  have HU:=Hd hu
  by_cases h0:n = 0
  · subst h0
    clear hu hb
    go_wp2
    go_ret
    exact ⟨by rw [← HU.out];rfl,HB.out⟩
  · obtain ⟨k,rfl⟩:∃ k,n = k + 1:=⟨n - 1,by omega⟩
    obtain ⟨n1,hn1⟩:∃ n1,n1 = k + 1:=⟨_,rfl⟩
    rw [← hn1] at hn ⊢
    have h0I:0 < (n1:Int):=by omega
    have hs:(n1:Int) - 1 = (k:Int):=by omega
    have hkl:k < l.length:=by have:=HM.out;omega
    have hkI:(k:Int) < (m:Int):=by omega
    obtain ⟨b,off,c,rfl,hc,hcell⟩:=(HL.out.below hb).at_ hkl
    have hwk:IntKind.i64.wrap (k:Int) = (k:Int):=IntWalk.i64_in _ (by have:=HZ.out;omega)
    have hT:=usedL_take hc
    have c0:=hcell 0 _ rfl
    simp only [Nat.add_zero] at c0
    rw [← hn1] at hu hT
    have HT:=Hd hT
    have HN1:=Hd hn1
    clear hu hb hc hcell hT hn1 h0 hkl
    by_cases hr:c.r = 0
    · have hrb:(c.r == 0) = true:=by simp [hr]
      have HR:=Hd hr
      clear hr
      go_wp2
      go_roundw
      case rel => exact ⟨k,by go_num,by have:=HN1.out;omega,by rw [← HU.out,← HN1.out,HT.out,if_pos HR.out],HB.out⟩
      case measure => simp [intOf];have:=HN1.out;omega
    · have hrb:(c.r == 0) = false:=by simp [hr]
      have HR:=Hd hr
      clear hr
      go_wp2
      go_ret
      exact ⟨by rw [← HU.out,← HN1.out,HT.out,if_neg HR.out];rfl,HB.out⟩
set_option maxHeartbeats 3200000 in
theorem rUsed_any (A:Option Addr) (l:List Cl) (ca:Nat) (w:World) (hl:GrAt encCl 8 w A l) (hz:l.length ≤ 100000000) :
 Calls Tryz.prog 51 #[.slice A l.length ca] w (fun e w' => e = .returned (.int .i64 (usedL l))∧Below w.heap.size w w'):=by
 have HL:=Hd hl
 obtain ⟨m,hm⟩:∃ m,m = l.length:=⟨_,rfl⟩
 have HM:=Hd hm
 have HZ:=Hd hz
 rw [← hm]
 clear hl hz hm
 go_enter Tryz.func51,Tryz.ntmps51
 go_wp2_with fail
 go_loopw [3,4] (fun s3 s4 wr => ∃ i:Nat,s4 = .int .i64 i∧i ≤ m∧s3 = .int .i64 (usedL (l.take i))∧Below w.heap.size w wr) (fun _ s4 _ => m - (intOf s4).toNat)
 case atStart => exact ⟨0,rfl,Nat.zero_le _,rfl,Below.refl _ _⟩
 case round =>
  obtain ⟨i,rfl,hi,rfl,hb⟩:=hrel
  have HB:=Hd hb
  by_cases hlt:i < m
  rotate_left
  · have hge:¬ (i:Int) < (m:Int):=by omega
    have hie:i = l.length:=by have:=HM.out;omega
    have HIE:=Hd hie
    clear hb hie
    go_wp2
    go_ret
    exact ⟨by rw [HIE.out,List.take_length];rfl,HB.out⟩
  · have hltI:(i:Int) < (m:Int):=by omega
    have hil:i < l.length:=by have:=HM.out;omega
    obtain ⟨b,off,c,rfl,hc,hcell⟩:=(HL.out.below hb).at_ hil
    have HT:=Hd (usedL_take hc)
    have c0:=hcell 0 _ rfl
    simp only [Nat.add_zero] at c0
    have hwi:IntKind.i64.wrap ((i:Int) + 1) = (i:Int) + 1:=IntWalk.i64_in _ (by have:=HZ.out;have:=HM.out;omega)
    clear hb hc hcell hil
    by_cases hr:c.r = 0
    · have hrb:(c.r == 0) = true:=by simp [hr]
      have HR:=Hd hr
      clear hr
      go_wp2
      go_roundw
      case rel => exact ⟨i + 1,by go_num,by omega,by rw [HT.out,if_pos HR.out],HB.out⟩
      case measure => simp [intOf];omega
    · have hrb:(c.r == 0) = false:=by simp [hr]
      have HR:=Hd hr
      clear hr
      go_wp2
      go_roundw
      case rel => exact ⟨i + 1,by go_num,by omega,by rw [HT.out,if_neg HR.out];go_num,HB.out⟩
      case measure => simp [intOf];omega
def cellT (c:Cl):List UInt8:=if c.half = 2 ∨ c.half = 3 then [] else if c.r = 0 then [32] else (putB c.r).data.toList ++ c.more.data.toList
def textL (l:List Cl):List UInt8:=(l.take (usedL l)).flatMap cellT
theorem text_step {cs:List Cl} {k:Nat} {c:Cl} (h:cs[k]? = some c):(cs.take (k + 1)).flatMap cellT = (cs.take k).flatMap cellT ++ cellT c:=by
 obtain ⟨hk,rfl⟩:=List.getElem?_eq_some_iff.1 h
 rw [List.take_succ_eq_append_getElem hk,List.flatMap_append]
 simp
theorem text_le (cs:List Cl) (k:Nat):((cs.take k).flatMap cellT).length ≤ (cs.flatMap cellT).length:=by
 have:=congrArg List.length (congrArg (List.flatMap cellT) (List.take_append_drop k cs))
 rw [List.flatMap_append,List.length_append] at this
 omega
set_option maxHeartbeats 3200000 in
theorem ctext_any (A:Option Addr) (cs:List Cl) (ca:Nat) (w:World) (hc:ClsAt w A cs) (hcap:cs.length ≤ ca) (hz:cs.length ≤ 1000000) (hb:(cs.flatMap cellT).length ≤ 100000000000) :
 Calls Tryz.prog 54 #[.slice A cs.length ca] w fun e w' => e = .returned (.string ⟨(textL cs).toArray⟩)∧Below w.heap.size w w':=by
 have hul:=usedL_le cs
 have HU:Hid (∀ w',Below w.heap.size w w'→Calls Tryz.prog 99 #[.slice A cs.length ca] w' fun e w2 => e = .returned (.int .i64 (usedL cs))∧Below w'.heap.size w' w2):=Hd (fun w' hb => cUsed_any A cs ca w' (gr_of_cls (hc.below hb)) (by omega))
 obtain ⟨T,hT⟩:∃ T,textL cs = T:=⟨_,rfl⟩
 rw [hT]
 unfold textL at hT
 generalize usedL cs = u at hul HU hT
 have HT:=Hd hT
 have HC:=Hd hc
 have HB:=Hd hb
 have hu1:(u:Int) ≤ ca:=by omega
 obtain ⟨W,hW⟩:∃ W,w.alloc (.cells #[.pointer none,.slice none 0 0] 76) = W:=⟨_,rfl⟩
 have hb0:Below w.heap.size w W:=by rw [← hW];exact below_allocs (Below.refl _ _) _
 have hn0:W.heap[w.heap.size]? = some (.cells #[.pointer none,.slice none 0 0] 76 (0,0)):=by rw [← hW];exact hp_new rfl
 have HB0:=Hd hb0
 have HBD:=Hd (BdI.new hn0 (Nat.le_refl _))
 obtain ⟨n,hn⟩:∃ n,cs.length = n:=⟨_,rfl⟩
 rw [hn] at HU hul hcap hz ⊢
 have HN:=Hd hn
 clear hc hb hT hb0 hn0 hn
 go_enter Tryz.func54,Tryz.ntmps54
 go_wp2_with (go_at_call 99;(with_reducible refine (HU.out _ HB0.out).mono ?_);rintro e w1 ⟨rfl,hb1⟩)
 have HB1:=Hd (below_tail HB0.out hb1)
 have HBD1:=Hd (HBD.out.below hb1)
 clear hb1 HU hW
 go_loopw [11] (fun i wr => ∃ k:Nat,k ≤ u∧i = .int .i64 k∧Below w.heap.size w wr∧BdI w.heap.size wr w.heap.size ((cs.take k).flatMap cellT)) (fun i _ => u - (intOf i).toNat)
 case atStart => exact ⟨0,Nat.zero_le _,rfl,HB1.out,by rw [List.take_zero];exact HBD1.out⟩
 case round =>
  clear HBD HBD1
  obtain ⟨k,hk,rfl,hBe,hbd⟩:=hrel
  by_cases hlt:k < u
  · obtain ⟨b',off',c,rfl,hcg,hca⟩:=(HC.out.below hBe).at_ (k:=k) (by have:=HN.out;omega)
    have hst:=text_step hcg
    have hle:=text_le cs (k + 1)
    rw [hst,List.length_append] at hle
    obtain ⟨r0,r1,r2,r3,r4,r5,r6,r7⟩:=hca
    obtain ⟨cr,cm,chf,c3,c4,c5,c6,c7⟩:=c
    simp only at r0 r1 r2 r3 r4 r5 r6 r7
    have hbc:=below_allocs (Below.refl wr.heap.size wr) (.cells #[.int .i32 cr,.string cm,.int .i64 chf,.int .i64 c3,.int .i64 c4,.int .i64 c5,.int .i64 c6,.int .i64 c7] 65)
    have HBC:=Hd hbc
    have HST:=Hd hst
    have HLE:=Hd hle
    have HBE:=Hd hBe
    have hsz:w.heap.size ≤ wr.heap.size:=hBe.size
    have HSZ:=Hd hsz
    have HBDr:=Hd hbd
    generalize (cs.take k).flatMap cellT = l1 at HST HLE HBDr hbd
    clear hcg hst hle hBe hbc hsz
    by_cases h2:chf = 2 ∨ chf = 3
    · have e:cellT ⟨cr,cm,chf,c3,c4,c5,c6,c7⟩ = []:=if_pos h2
      rw [e,List.append_nil] at HST
      have hfin:=hbd.below HBC.out
      have HFIN:=Hd hfin
      clear e hbd hfin
      rcases h2 with rfl | rfl
      · go_wp2_with fail
        go_roundw
        case rel => exact ⟨k + 1,by omega,by go_num,below_tail HBE.out HBC.out,by rw [HST.out];exact HFIN.out⟩
        case measure => simp [intOf];omega
      · go_wp2_with fail
        go_roundw
        case rel => exact ⟨k + 1,by omega,by go_num,below_tail HBE.out HBC.out,by rw [HST.out];exact HFIN.out⟩
        case measure => simp [intOf];omega
    · have h2a:(chf == 2) = false:=by simp;omega
      have h2b:(chf == 3) = false:=by simp;omega
      by_cases h0:cr = 0
      · have e:cellT ⟨cr,cm,chf,c3,c4,c5,c6,c7⟩ = [32]:=by unfold cellT;rw [if_neg h2,if_pos h0]
        rw [e] at HST HLE
        subst h0
        have HWB:Hid (Calls Tryz.prog 100 #[.pointer (some ⟨w.heap.size,0,none⟩),.int .u8 32] (wr.alloc (.cells #[.int .i32 0,.string cm,.int .i64 chf,.int .i64 c3,.int .i64 c4,.int .i64 c5,.int .i64 c6,.int .i64 c7] 65)) fun e w' => e = .returned .nilIface∧BdI w.heap.size w' w.heap.size (l1 ++ [32])∧Below w.heap.size (wr.alloc (.cells #[.int .i32 0,.string cm,.int .i64 chf,.int .i64 c3,.int .i64 c4,.int .i64 c5,.int .i64 c6,.int .i64 c7] 65)) w'):=Hd (bb_any (hbd.below HBC.out) 32 (by have h1:=HLE.out;have h2:=HB.out;rw [List.length_singleton] at h1;omega) (Nat.le_trans HSZ.out HBC.out.size))
        clear e hbd h2
        go_wp2_with (go_at_call 100;(with_reducible refine HWB.out.mono ?_);rintro e w3 ⟨rfl,h3,hb3⟩;have HB3:=Hd (And.intro h3 hb3);clear h3 hb3)
        go_roundw
        case rel => exact ⟨k + 1,by omega,by go_num,(below_tail HBE.out HBC.out).trans HB3.out.2,by rw [HST.out];exact HB3.out.1⟩
        case measure => simp [intOf];omega
      · have h0b:(cr == 0) = false:=by simpa using h0
        have e:cellT ⟨cr,cm,chf,c3,c4,c5,c6,c7⟩ = (putB cr).data.toList ++ cm.data.toList:=by unfold cellT;rw [if_neg h2,if_neg h0]
        rw [e] at HST HLE
        rw [List.length_append] at HLE
        have hln:l1.length + ((putB cr).data.toList.length + cm.data.toList.length) ≤ 100000000000:=Nat.le_trans HLE.out HB.out
        have HLN:=Hd hln
        have HBDr:=Hd hbd
        have HPUT:=Hd (fun w => uput_any cr w)
        have hpz:(putB cr).data.toList.length = (putB cr).size:=by rw [Array.length_toList];rfl
        have hmz:cm.data.toList.length = cm.size:=by rw [Array.length_toList];rfl
        generalize putB cr = pu at HPUT HLN HST hpz
        have HPZ:=Hd (And.intro hpz hmz)
        have hx0:(wr.alloc (.cells #[.int .i32 cr,.string cm,.int .i64 chf,.int .i64 c3,.int .i64 c4,.int .i64 c5,.int .i64 c6,.int .i64 c7] 65)).heap[wr.heap.size]? = some (.cells #[.int .i32 cr,.string cm,.int .i64 chf,.int .i64 c3,.int .i64 c4,.int .i64 c5,.int .i64 c6,.int .i64 c7] 65 (0,0)):=hp_new rfl
        have HX0:=Hd hx0
        clear e hbd hln hpz hmz hx0 h2 HLE
        go_wp2_with (first
         | (go_at_call 102;(with_reducible refine (HPUT.out _).mono ?_);rintro e w3 ⟨rfl,hb3⟩;have HB3:=Hd (below_tail HBC.out hb3);have HX3:=Hd ((hb3.block _ (lt_of_heap HX0.out)).trans HX0.out);have HWS:=Hd (bwm_any HBDr.out pu (by have:=HLN.out;have:=HPZ.out;omega) HSZ.out HB3.out (lt_of_heap HX3.out));clear hb3)
         | (go_at_call 101;(with_reducible refine HWS.out.mono ?_);rintro e w4 ⟨rfl,h4,hb4,hk4⟩;have HX4:=Hd (hk4.trans HX3.out);have y1:w4.cell? ⟨wr.heap.size,1,none⟩ = some (.string cm):=(at_ HX4.out 1 _ rfl).1;have HB4:=Hd ((HB3.out.mono HSZ.out).trans hb4);have HWT:=Hd (bw_any h4 cm (by have:=HLN.out;have:=HPZ.out;rw [List.length_append];omega) (Nat.le_trans HSZ.out HB4.out.size));clear h4 hb4 hk4 HWS)
         | (go_at_call 101;(with_reducible refine HWT.out.mono ?_);rintro e w5 ⟨rfl,h5,hb5⟩;have HB5:=Hd (And.intro h5 hb5);clear h5 hb5))
        go_roundw
        case rel => exact ⟨k + 1,by omega,by go_num,(HBE.out.trans (HB4.out)).trans HB5.out.2,by rw [HST.out,← List.append_assoc];exact HB5.out.1⟩
        case measure => simp [intOf];omega
  · obtain rfl:k = u:=by omega
    rw [HT.out] at hbd
    have HS:=Hd (bs_any hbd hBe.size)
    have HBE:=Hd hBe
    clear hbd hBe
    go_wp2_with (go_at_call 42;(with_reducible refine HS.out.mono ?_);rintro e w3 ⟨rfl,hb3⟩;have HB3:=Hd hb3;clear hb3)
    go_ret
    exact ⟨rfl,HBE.out.trans HB3.out⟩
end Go.Proofs.YtaefcahblmopfaaGreatDoor
