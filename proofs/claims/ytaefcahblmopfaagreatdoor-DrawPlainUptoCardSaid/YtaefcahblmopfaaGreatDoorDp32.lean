/- Joined by a tool of this claim out of smaller texts. Conditions: as stated. -/
import Derived.Test.YtaefcahblmopfaaGreatDoorDp31
import Derived.Lib.Builder
import Derived.Lib.AppendStr
import Derived.Lib.UnsafeStr
import Derived.Lib.FrozenHead
import Derived.Shelf.RegionOpenPlain
set_option linter.unusedVariables false
set_option linter.unusedSimpArgs false
set_option maxRecDepth 100000
open Go.Lib renaming hid → Hd
namespace Go.Proofs.YtaefcahblmopfaaGreatDoor
open Go.RowKit
def rowsCl (rows:List Rw):List (List Cl):=rows.map (·.cs)
def RB (base:Nat) (w:World) (A:Option Addr) (rows:List Rw):Prop:=∀ w',Below base w w'→RwsAt w' A rows
theorem RB.on {base:Nat} {w w':World} {A:Option Addr} {rows:List Rw} (h:RB base w A rows) (hb:Below base w w'):RB base w' A rows:=fun w2 h2 => h w2 (hb.trans h2)
def CsOk (rows:List Rw):Prop:=∀ r ∈ rows,r.cs.length ≤ 1000∧r.cs.length ≤ r.cap∧∀ c ∈ r.cs,DrawOk c
theorem rowsI_step (y:Nat) (on:Atr) {rows:List Rw} {k:Nat} {r:Rw} (h:rows[k]? = some r):rowsI y on (rowsCl (rows.drop k)) = ((rowI r.cs.length y 0 on r.cs).1 ++ (rowsI (y + 1) (rowI r.cs.length y 0 on r.cs).2 (rowsCl (rows.drop (k + 1)))).1,(rowsI (y + 1) (rowI r.cs.length y 0 on r.cs).2 (rowsCl (rows.drop (k + 1)))).2):=by
 obtain ⟨hk,rfl⟩:=List.getElem?_eq_some_iff.1 h
 rw [List.drop_eq_getElem_cons hk]
 rfl
def RowsSt (on:Atr) (rows:List Rw) (k:Nat) (pre:List Int) (on1:Atr):Prop:=rowsI 0 on (rowsCl rows) = (pre ++ (rowsI k on1 (rowsCl (rows.drop k))).1,(rowsI k on1 (rowsCl (rows.drop k))).2)∧pre.length ≤ 181000 * k
theorem RowsSt.start (on:Atr) (rows:List Rw):RowsSt on rows 0 [] on:=⟨rfl,Nat.zero_le _⟩
theorem RowsSt.next {on:Atr} {rows:List Rw} {k:Nat} {pre:List Int} {on1:Atr} {r:Rw} (h:RowsSt on rows k pre on1) (hr:rows[k]? = some r) (hk:k ≤ 1000) (hok:r.cs.length ≤ 1000∧r.cs.length ≤ r.cap∧∀ c ∈ r.cs,DrawOk c) :
 RowsSt on rows (k + 1) (pre ++ (rowI r.cs.length k 0 on1 r.cs).1) (rowI r.cs.length k 0 on1 r.cs).2:=by
 obtain ⟨he,hp⟩:=h
 refine ⟨?_,?_⟩
 · rw [he,rowsI_step k on1 hr,List.append_assoc]
 · have:=rowI_len r.cs.length k 0 on1 r.cs hk hok.1 (Nat.zero_le _) hok.2.2
   rw [List.drop_zero] at this
   rw [List.length_append]
   omega
theorem RowsSt.end_ {on:Atr} {rows:List Rw} {pre:List Int} {on1:Atr} (h:RowsSt on rows rows.length pre on1):(rowsI 0 on (rowsCl rows)).2 = on1∧(rowsI 0 on (rowsCl rows)).1 = pre:=by
 obtain ⟨he,-⟩:=h
 rw [he,List.drop_length]
 exact ⟨rfl,by rw [show (rowsI rows.length on1 (rowsCl [])).1 = [] from rfl,List.append_nil]⟩
section
variable {base:Nat} {w:World} {v:Pn} {on:Atr} {l:List UInt8}
set_option maxHeartbeats 3200000 in
theorem deach_any (h:PnO base w v on l) (hbw:base ≤ w.heap.size) (ht:TB base w) (A:Option Addr) (rows:List Rw) (ca:Nat) (hr:RB base w A rows) (hok:CsOk rows) (hz:rows.length ≤ 400) (hl:l.length ≤ 1000) :
 Calls Tryz.prog 155 #[.slice A rows.length ca,.func (.func 156) #[.pointer (some ⟨v.P,0,none⟩)] #[]] w (PnPost base w v (rowsI 0 on (rowsCl rows)).2 (l ++ u8 (rowsI 0 on (rowsCl rows)).1)):=by
 have HO:=Hd h
 have HT:=Hd ht
 have HBW:=Hd hbw
 have HR:=Hd hr
 have HOK:=Hd hok
 have HL:=Hd (And.intro hl hz)
 have HEND:Hid (∀ on1 pre,RowsSt on rows rows.length pre on1→(rowsI 0 on (rowsCl rows)).2 = on1∧(rowsI 0 on (rowsCl rows)).1 = pre):=Hd (fun on1 pre h1 => h1.end_)
 obtain ⟨RA,hRA⟩:∃ RA,(rowsI 0 on (rowsCl rows)).2 = RA:=⟨_,rfl⟩
 obtain ⟨RX,hRX⟩:∃ RX,(rowsI 0 on (rowsCl rows)).1 = RX:=⟨_,rfl⟩
 rw [hRA,hRX] at HEND
 rw [hRA,hRX]
 clear h hbw ht hr hok hl hRA hRX
 go_enter Tryz.func155,Tryz.ntmps155
 go_wp2_with fail
 go_loopw [8] (fun i wr => ∃ (k:Nat) (pre:List Int) (on1:Atr),k ≤ rows.length∧i = .int .i64 k∧RowsSt on rows k pre on1∧PnRes base w v on1 (l ++ B8 pre) wr) (fun i _ => rows.length - (intOf i).toNat)
 case atStart => exact ⟨0,[],on,Nat.zero_le _,rfl,RowsSt.start _ _,by rw [show l ++ B8 [] = l from List.append_nil l];exact HO.out.res⟩
 case round =>
  obtain ⟨k,pre,on1,hk,rfl,hst,hR⟩:=hrel
  by_cases hlt:k < rows.length
  · have hB:Below base w wr:=PnRes.below HO.out HBW.out hR
    have hsz:base ≤ wr.heap.size:=Nat.le_trans HBW.out hB.size
    have hRB:=HR.out.on hB
    obtain ⟨b,off,rfl,hrr⟩:=(HR.out wr hB) (by omega)
    have hget:=List.getElem?_eq_getElem hlt
    have hcb:CB base wr rows[k].A rows[k].cs:=fun w' hb => by
     obtain ⟨b',off',-,hq⟩:=hRB w' hb (by omega)
     exact (hq k _ hget).2.1
    obtain ⟨⟨c0,c1⟩,-,-⟩:=hrr k _ hget
    have hD:=HOK.out _ (List.getElem_mem hlt)
    have hnx:=hst.next hget (by have:=HL.out.2;omega) hD
    have hpl:=hst.2
    have hll:(l ++ B8 pre).length ≤ 79000000:=by rw [List.length_append,u8_len];have:=HL.out.1;have:=HL.out.2;omega
    generalize rows[k] = r at c0 c1 hD hnx hcb
    obtain ⟨rA,cs,cap,cont⟩:=r
    simp only at c0 c1 hD hnx hcb
    have hbn:=below_allocs (Below.refl wr.heap.size wr) (.cells #[.slice rA cs.length cap,.bool cont] 52)
    have HBN:=Hd hbn
    have hT:=HT.out.on hB
    obtain ⟨v1,a1,a2,a3,a4,a5⟩:=hR
    have HRow:=Hd (prow_any (a3.below hbn) (Nat.le_trans hsz hbn.size) (hT.on (hbn.mono hsz)) k (by have:=HL.out.2;omega) rA cs cap (hcb.on (hbn.mono hsz)) hD.2.2 hD.1 hD.2.1 hll)
    rw [a1] at HRow
    have H1:=Hd (And.intro a1 (And.intro a2 (And.intro a4 (And.intro a5 hnx))))
    clear hB hsz hRB hrr hget hcb hD hnx hpl hll hbn hT a1 a2 a3 a4 a5 hst
    go_wp2_with ((with_reducible refine HRow.out.mono ?_);rintro e w3 ⟨rfl,hr⟩;have HR3:=Hd hr;clear hr)
    go_roundw
    case rel =>
     obtain ⟨a1,a2,a4,a5,hnx⟩:=H1.out
     refine ⟨k + 1,_,_,by omega,by go_num,hnx,PnRes.trans a1 a2 a5 a4 (PnRes.pre HBN.out ?_)⟩
     have:=HR3.out
     rw [show B8 (pre ++ (rowI cs.length k 0 on1 cs).1) = B8 pre ++ B8 (rowI cs.length k 0 on1 cs).1 from u8_append _ _,← List.append_assoc]
     exact this
    case measure => simp [intOf];omega
  · obtain rfl:k = rows.length:=by omega
    obtain ⟨e1,e2⟩:=HEND.out _ _ hst
    have HE:=Hd (And.intro e1 e2)
    have HRR:=Hd hR
    clear e1 e2 hst hR
    go_wp2
    go_end0
    obtain ⟨e1,e2⟩:=HE.out
    exact ⟨rfl,by rw [e1,e2];exact HRR.out⟩
end
theorem cells_u8b:Tryz.prog.cellsOf 5 = 1:=by kernel_rfl
set_option maxHeartbeats 1600000 in
theorem bstr_own (b g cap B:Nat) (p:Value) (l:List UInt8) (w:World) (h:w.heap[b]? = some (.cells #[p,.slice (some ⟨g,0,none⟩) l.length cap] 76 (0,0))) (hown:w.ownsRow B 5 1 (.slice (some ⟨g,0,none⟩) l.length cap) l.length (Lib.byteCells l)) (h0:l ≠ []) :
 Calls Tryz.prog 42 #[.pointer (some ⟨b,0,none⟩)] w fun e w' => e = .returned (.string ⟨l.toArray⟩)∧Below B w w':=by
 have hl0:l.length ≠ 0:=by simpa using h0
 obtain ⟨hbg,cur,fz,hg,hnc,hcm,hcs,htake⟩:B ≤ g∧∃ cur fz,w.heap[g]? = some (.cells cur 5 fz)∧l.length ≤ cap∧cap ≤ maxLen∧cur.size = cap * 1∧cur.toList.take (l.length * 1) = Lib.byteCells l:=by
  rcases hown.2 with ⟨_,hz⟩ | ⟨g',cap',cur,hv,hb,hg,h1,h2,h3,h4⟩
  · exact absurd hz hl0
  · simp only [Value.slice.injEq,Option.some.injEq,Addr.mk.injEq] at hv
    obtain ⟨⟨rfl,-⟩,-,rfl⟩:=hv
    exact ⟨hb,cur,_,hg,h1,h2,h3,h4⟩
 have c1:w.drew.cell? ⟨b,1,none⟩ = some (.slice (some ⟨g,0,none⟩) l.length cap):=(at_ (show w.drew.heap[b]? = _ from h) 1 _ rfl).1
 have hSD:(Builtin.unsafeSliceData_ #[23] 146 #[.slice (some ⟨g,0,none⟩) l.length cap]).run Tryz.prog w.drew = .ok (.pointer (some ⟨g,0,none⟩)) w.drew :=
  Lib.run_unsafeSliceData_row _ _ _ _ _ _ (by omega)
 have hUS:(Builtin.unsafeString_ #[146,3] 9 #[.pointer (some ⟨g,0,none⟩),.int .i64 l.length]).run Tryz.prog w.drew = .ok (.string ⟨l.toArray⟩) (w.drew.freeze ⟨g,0,none⟩ l.length):=by
  refine Lib.run_unsafeString_row w.drew 146 3 9 5 Tryz.underlying146 cells_u8b g cur.size (by have hg':w.drew.heap[g]? = some (.cells cur 5 fz):=hg;simp [World.shape?,hg']) l h0 (by omega) (by unfold maxLen at hcm;omega) ?_
  intro j x hx
  have:=hown.cells (g:=g) rfl j (.int .u8 x.toNat) (by simp [Lib.byteCells,hx])
  exact this
 have mixed:Tryz.prog.follows .mixedOrders = true:=by kernel_rfl
 go_enter Tryz.func42,Tryz.ntmps42
 go_wp2
 go_region_o
 all_goals (go_wp2;go_ret;exact ⟨rfl,Lib.below_freeze (Below.drew (Below.refl B w)) (p:=⟨g,0,none⟩) hbg _⟩)
theorem drawI_pos (rows:List (List Cl)) (ay ax:Nat):drawI rows ay ax ≠ []:=by
 unfold drawI movI
 intro h
 simp at h
theorem drawI_len {rows:List Rw} (hok:CsOk rows) (hz:rows.length ≤ 400) (ay ax:Nat):(rowsI 0 zeroA (rowsCl rows)).1.length ≤ 181000 * rows.length:=by
 have:∀ k,k ≤ rows.length→∃ pre on1,RowsSt zeroA rows k pre on1:=by
  intro k
  induction k with
  | zero => exact fun _ => ⟨_,_,RowsSt.start _ _⟩
  | succ k ih =>
    intro hk
    obtain ⟨pre,on1,h⟩:=ih (by omega)
    exact ⟨_,_,h.next (List.getElem?_eq_getElem (by omega)) (by omega) (hok _ (List.getElem_mem (by omega)))⟩
 obtain ⟨pre,on1,h⟩:=this rows.length (Nat.le_refl _)
 rw [h.end_.2]
 exact h.2
theorem u8_str (xs:List Int):(⟨(u8 xs).toArray⟩:ByteArray) = strOfNums xs:=by
 unfold u8
 rfl
theorem PnO.new {base:Nat} {w:World} {P B:Nat} (hp:w.heap[P]? = some (.cells #[.pointer (some ⟨B,0,none⟩),.int .i64 0,.int .i64 0,.int .i64 0,.int .i64 0,.int .i64 0] 212 (0,0))) (hb:w.heap[B]? = some (.cells #[.pointer none,.slice none 0 0] 76 (0,0))) (h1:base ≤ P) (h2:base ≤ B):PnO base w ⟨P,B,.pointer none,.slice none 0 0⟩ zeroA [] :=
 ⟨hp,hb,.inl rfl,World.ownsRow_nil w base 5 1,h1,h2⟩
set_option maxHeartbeats 3200000 in
theorem drows_ok (A:Option Addr) (rows:List Rw) (ca cols ay ax:Nat) (w:World) (hl:RwsAt w A rows) (hok:RowsOk rows cols) (hcap:∀ r ∈ rows,r.cs.length ≤ r.cap) (hay:ay < rows.length) (hax:ax < cols) (ht:TabP w) :
 Calls Tryz.prog 87 #[.slice A rows.length ca,.agg #[.int .i64 ay,.int .i64 ax]] w fun e w' => e = .returned (.tuple #[.string (strOfNums (drawI (rowsCl rows) ay ax)),.int .i64 0])∧Below w.heap.size w w':=by
 have hcs:CsOk rows:=fun r hr => ⟨by rw [(hok.2.2.2.2 r hr).1];exact hok.2.2.2.1,hcap r hr,(hok.2.2.2.2 r hr).2.2⟩
 have HSZ:Hid (∀ w',Below w.heap.size w w'→Calls Tryz.prog 23 #[.slice A rows.length ca] w' fun e w2 => e = .returned (.tuple #[.int .i64 rows.length,.int .i64 cols])∧Below w'.heap.size w' w2):=Hd (fun w' hb => dsize_any A rows ca cols w' (hl.below hb) hok)
 have HRT:Hid (∀ w',Below w.heap.size w w'→Calls Tryz.prog 24 #[.slice A rows.length ca] w' fun e w2 => e = .returned (.bool true)∧Below w'.heap.size w' w2):=Hd (fun w' hb => dright_any A rows ca cols w' (hl.below hb) hok)
 have HL:=Hd hl
 have HT:=Hd ht
 have HCS:=Hd hcs
 have HZ:=Hd (And.intro hok.2.1 hok.2.2.2.1)
 have g1:¬ (ay:Int) < 0:=by omega
 have g2:¬ (rows.length:Int) ≤ ay:=by omega
 have g3:¬ (ax:Int) < 0:=by omega
 have g4:¬ (cols:Int) ≤ ax:=by omega
 clear hl hok hcap ht hcs
 have x0:(w.alloc (.cells #[.int .i64 ay,.int .i64 ax] 34)).heap[w.heap.size]? = some (.cells #[.int .i64 ay,.int .i64 ax] 34 (0,0)):=hp_new rfl
 obtain ⟨W,hW⟩:∃ W,w.alloc (.cells #[.int .i64 ay,.int .i64 ax] 34) = W:=⟨_,rfl⟩
 have hb0:Below w.heap.size w W:=by rw [← hW];exact below_allocs (Below.refl _ _) _
 rw [hW] at x0
 have HB0:=Hd hb0
 have HX0:=Hd x0
 clear x0 hb0
 go_enter Tryz.func87,Tryz.ntmps87
 go_upto_region 2 with (go_at_call 23;(with_reducible refine (HSZ.out _ HB0.out).mono ?_);rintro e w1 ⟨rfl,hb1⟩)
 have HB1:=Hd (below_tail HB0.out hb1)
 have HX1:=Hd ((hb1.block _ (lt_of_heap HX0.out)).trans HX0.out)
 clear hb1 hW
 go_upto_region 5 with (go_at_call 24;(with_reducible refine (HRT.out _ HB1.out).mono ?_);rintro e w2 ⟨rfl,hb2⟩;have y0:w2.cell? ⟨w.heap.size,0,none⟩ = some (.int .i64 ay):=(at_ ((hb2.block _ (lt_of_heap HX1.out)).trans HX1.out) 0 _ rfl).1;have y1:w2.cell? ⟨w.heap.size,1,none⟩ = some (.int .i64 ax):=(at_ ((hb2.block _ (lt_of_heap HX1.out)).trans HX1.out) 1 _ rfl).1;have HB2:=Hd (below_tail HB1.out hb2);have HX2:=Hd ((hb2.block _ (lt_of_heap HX1.out)).trans HX1.out);clear hb2)
 have hbp:((w2.alloc (.cells #[.pointer none,.slice none 0 0] 76)).alloc (.cells #[.pointer (some ⟨w2.heap.size,0,none⟩),.int .i64 0,.int .i64 0,.int .i64 0,.int .i64 0,.int .i64 0] 212)).heap[w2.heap.size + 1]? = some (.cells #[.pointer (some ⟨w2.heap.size,0,none⟩),.int .i64 0,.int .i64 0,.int .i64 0,.int .i64 0,.int .i64 0] 212 (0,0)):=hp_new (by rw [World.size_alloc])
 have hbb:((w2.alloc (.cells #[.pointer none,.slice none 0 0] 76)).alloc (.cells #[.pointer (some ⟨w2.heap.size,0,none⟩),.int .i64 0,.int .i64 0,.int .i64 0,.int .i64 0,.int .i64 0] 212)).heap[w2.heap.size]? = some (.cells #[.pointer none,.slice none 0 0] 76 (0,0)):=by
  refine ((below_allocs (Below.refl _ _) _).block _ (by rw [World.size_alloc];omega)).trans (hp_new rfl)
 have hb3:Below w2.heap.size w2 ((w2.alloc (.cells #[.pointer none,.slice none 0 0] 76)).alloc (.cells #[.pointer (some ⟨w2.heap.size,0,none⟩),.int .i64 0,.int .i64 0,.int .i64 0,.int .i64 0,.int .i64 0] 212)):=below_allocs (below_allocs (Below.refl _ _) _) _
 generalize (w2.alloc (.cells #[.pointer none,.slice none 0 0] 76)).alloc (.cells #[.pointer (some ⟨w2.heap.size,0,none⟩),.int .i64 0,.int .i64 0,.int .i64 0,.int .i64 0,.int .i64 0] 212) = w3 at hbp hbb hb3
 have hs2:w.heap.size ≤ w2.heap.size:=HB2.out.size
 have hPO:PnO w2.heap.size w3 ⟨w2.heap.size + 1,w2.heap.size,.pointer none,.slice none 0 0⟩ zeroA []:=PnO.new hbp hbb (by omega) (Nat.le_refl _)
 have hx3:=(hb3.block _ (lt_of_heap HX2.out)).trans HX2.out
 have hT3:TB w2.heap.size w3:=(TB.of (HT.out.below HB2.out)).on hb3
 have hw3:w2.heap.size ≤ w3.heap.size:=hb3.size
 have HEA:=Hd (deach_any hPO hw3 hT3 A rows ca (fun w' hb => HL.out.below (HB2.out.trans ((hb3.trans hb).mono hs2))) HCS.out HZ.out.1 (by show 0 ≤ 1000;omega))
 simp only at HEA
 have H3:=Hd (And.intro hPO (And.intro hb3 (And.intro hx3 (And.intro hT3 hw3))))
 have HX2L:=Hd (lt_of_heap HX2.out)
 obtain ⟨PP,hPP⟩:∃ PP,w2.heap.size + 1 = PP:=⟨_,rfl⟩
 obtain ⟨B2,hB2⟩:∃ B2,w2.heap.size = B2:=⟨_,rfl⟩
 rw [hPP] at H3 HEA ⊢
 rw [hB2] at H3 HEA HX2L ⊢
 clear hbp hbb hb3 hPO hx3 hT3 hw3 hs2 y0 y1 hPP
 have HB2E:=Hd hB2
 clear hB2
 go_upto_region 6 with (go_at_call 155;(with_reducible refine HEA.out.mono ?_);rintro e w4 ⟨rfl,hr⟩;have HR4:=Hd hr;clear hr)
 obtain ⟨v4,a1,a2,a3,a4,a5⟩:=HR4.out
 obtain ⟨hPO,hB3,hx3,hT3,hw3⟩:=H3.out
 have hw4:B2 ≤ w4.heap.size:=Nat.le_trans hw3 a4.size
 have hB4:Below B2 w3 w4:=PnRes.below hPO hw3 HR4.out
 have hln:=drawI_len HCS.out HZ.out.1 ay ax
 have hlen4:([] ++ u8 (rowsI 0 zeroA (rowsCl rows)).1).length ≤ 72400000:=by rw [List.nil_append,u8_len];have:=HZ.out.1;omega
 have hT4:=hT3.on hB4
 have hx4:=(hB4.block _ HX2L.out).trans hx3
 have HTU:Hid (Calls Tryz.prog 157 #[.pointer (some ⟨v4.P,0,none⟩),.agg #[.int .i64 0,.int .i64 0,.int .i64 0,.int .i64 0,.int .i64 0]] w4 (PnPost B2 w4 v4 zeroA ([] ++ u8 (rowsI 0 zeroA (rowsCl rows)).1 ++ u8 (turnI (rowsI 0 zeroA (rowsCl rows)).2 zeroA)))):=Hd (pturn_any a3 hw4 hT4.tab zeroA RightA.zero (by omega))
 rw [a1] at HTU
 have H4:=Hd (And.intro a1 (And.intro a2 (And.intro a3 (And.intro a4 (And.intro a5 (And.intro hw4 (And.intro hT4 (And.intro hx4 hlen4))))))))
 clear a1 a2 a3 a4 a5 hPO hB3 hx3 hT3 hw3 hw4 hB4 hln hlen4 hT4 hx4 HEA
 go_upto_region 7 with (go_at_call 157;(with_reducible refine HTU.out.mono ?_);rintro e w5 ⟨rfl,hr⟩;have HR5:=Hd hr;clear hr)
 obtain ⟨a1,a2,a3,a4,a5,hw4,hT4,hx4,hlen4⟩:=H4.out
 obtain ⟨v5,b1,b2,b3,b4,b5⟩:=HR5.out
 have hw5:B2 ≤ w5.heap.size:=Nat.le_trans hw4 b4.size
 have hB5:Below B2 w4 w5:=PnRes.below a3 hw4 HR5.out
 have hx5:=(hB5.block _ HX2L.out).trans hx4
 have hlen5:([] ++ u8 (rowsI 0 zeroA (rowsCl rows)).1 ++ u8 (turnI (rowsI 0 zeroA (rowsCl rows)).2 zeroA)).length ≤ 72400200:=by
  have:=turnI_len2 (rowsI 0 zeroA (rowsCl rows)).2 RightA.zero
  rw [List.length_append,u8_len (turnI _ _)]
  omega
 have HMO:Hid (Calls Tryz.prog 158 #[.pointer (some ⟨v5.P,0,none⟩),.int .i64 ay,.int .i64 ax] w5 (PnPost B2 w5 v5 zeroA ([] ++ u8 (rowsI 0 zeroA (rowsCl rows)).1 ++ u8 (turnI (rowsI 0 zeroA (rowsCl rows)).2 zeroA) ++ u8 (movI ay ax)))):=Hd (pmove_any b3 hw5 (hT4.on hB5).tab ay ax (by have:=HZ.out.1;omega) (by have:=HZ.out.2;omega) (by omega))
 rw [b1,a1] at HMO
 have y0:w5.cell? ⟨w.heap.size,0,none⟩ = some (.int .i64 ay):=(at_ hx5 0 _ rfl).1
 have y1:w5.cell? ⟨w.heap.size,1,none⟩ = some (.int .i64 ax):=(at_ hx5 1 _ rfl).1
 have H5:=Hd (And.intro b1 (And.intro b2 (And.intro b3 (And.intro b4 (And.intro b5 hw5)))))
 clear a1 a2 a3 a4 a5 hw4 hT4 hx4 hlen4 b1 b2 b3 b4 b5 hw5 hB5 hx5 hlen5 HTU
 go_upto_region 8 with (go_at_call 158;(with_reducible refine HMO.out.mono ?_);rintro e w6 ⟨rfl,hr⟩;have HR6:=Hd hr;clear hr)
 obtain ⟨a1,a2,a3,a4,a5,hw4,hT4,hx4,hlen4⟩:=H4.out
 obtain ⟨b1,b2,b3,b4,b5,hw5⟩:=H5.out
 obtain ⟨hPO,hB3,hx3,hT3,hw3⟩:=H3.out
 have hB6:Below B2 w3 w6:=(PnRes.below hPO hw3 HR4.out).trans ((PnRes.below a3 hw4 HR5.out).trans (PnRes.below b3 hw5 HR6.out))
 obtain ⟨v6,d1,d2,d3,d4,d5⟩:=HR6.out
 have hl6:[] ++ u8 (rowsI 0 zeroA (rowsCl rows)).1 ++ u8 (turnI (rowsI 0 zeroA (rowsCl rows)).2 zeroA) ++ u8 (movI ay ax) = u8 (drawI (rowsCl rows) ay ax):=by
  unfold drawI
  rw [u8_append,u8_append,List.nil_append,List.append_assoc]
 rw [hl6] at d3
 have h0:u8 (drawI (rowsCl rows) ay ax) ≠ []:=fun h => drawI_pos (rowsCl rows) ay ax (List.length_eq_zero_iff.1 (by rw [← u8_len,h];rfl))
 obtain ⟨⟨c0,-⟩,-⟩:=d3.facts
 rw [d1,b1,a1,d2,b2,a2] at c0
 have hfin:Below w.heap.size w w6:=by
  have e1:=HB2E.out
  refine HB2.out.trans ((hB3.trans hB6).mono ?_)
  rw [← e1]
  exact HB2.out.size
 have HST:Hid (Calls Tryz.prog 42 #[.pointer (some ⟨B2,0,none⟩)] w6 fun e w' => e = .returned (.string (strOfNums (drawI (rowsCl rows) ay ax)))∧Below B2 w6 w'):=by
  have hown:=d3.own
  obtain ⟨g,c,hbf,-,-⟩:=own_form8 hown (List.length_pos_iff.2 h0)
  have hb:=d3.b
  rw [hbf] at hown hb
  have:=bstr_own v6.B g c B2 v6.ba (u8 (drawI (rowsCl rows) ay ax)) w6 hb hown h0
  rw [u8_str,d2,b2,a2] at this
  exact Hd this
 have HF:=Hd hfin
 clear a1 a2 a3 a4 a5 hw4 hT4 hx4 hlen4 b1 b2 b3 b4 b5 hw5 d1 d2 d3 d4 d5 hB6 hPO hB3 hx3 hT3 hw3 hl6 h0 hfin HMO y0 y1
 go_wp2_with (go_at_call 42;(with_reducible refine HST.out.mono ?_);rintro e w7 ⟨rfl,hb7⟩;have HB7:=Hd hb7;clear hb7)
 go_ret2
 refine ⟨rfl,HF.out.trans (HB7.out.mono ?_)⟩
 rw [← HB2E.out]
 exact HB2.out.size
section
variable {base:Nat} {w:World} {v:Tv} {t:Tm}
def TmRq (base:Nat) (w:World) (v:Tv) (t':Tm) (w':World):Prop:=∃ v',v'.a.q.P = v.a.q.P∧TmV w v v'∧TmO base w' v' t'∧Mod (tmX v) w w'
def TmPq (base:Nat) (w:World) (v:Tv) (t':Tm) (e:Ending) (w':World):Prop:=e = .returned (.tuple #[])∧TmRq base w v t' w'
theorem TmO.resq (h:TmO base w v t):TmRq base w v t w:=⟨v,rfl,⟨rfl,rfl,rfl,rfl,fun _ hb => .inl hb⟩,h,Mod.refl _ _⟩
theorem TmRq.trans {w1 w2:World} {v1:Tv} {t2:Tm} (hq:v1.a.q.P = v.a.q.P) (h1:TmV w v v1) (hm:Mod (tmX v) w w1) (h2:TmRq base w1 v1 t2 w2):TmRq base w v t2 w2:=by
 obtain ⟨v2,q,k,a4,a5⟩:=h2
 refine ⟨v2,q.trans hq,⟨k.M.trans h1.M,k.z.trans h1.z,k.a.trans h1.a,k.b.trans h1.b,fun x hx => ?_⟩,a4,hm.trans a5 h1.x⟩
 rcases k.x x hx with h | h
 · exact h1.x x h
 · exact .inr (Nat.le_trans hm.size h)
theorem TmRq.pre {w1 w2:World} {t2:Tm} (hb:Below w.heap.size w w1) (h2:TmRq base w1 v t2 w2):TmRq base w v t2 w2:=TmRq.trans rfl ⟨rfl,rfl,rfl,rfl,fun _ hb => .inl hb⟩ (Mod.of_below hb) h2
theorem TmRq.post {w1 w2:World} {t':Tm} (h:TmRq base w v t' w1) (hb:Below w1.heap.size w1 w2):TmRq base w v t' w2:=by
 obtain ⟨v',q,k,a4,a5⟩:=h
 exact ⟨v',q,k,a4.below hb,a5.then_below hb⟩
theorem TmO.withAq {s':Sc} {w':World} (h:TmO base w v t) (hp:ScRes base w v.a s' w'):TmRq base w v { t with s0:=s' } w':=by
 obtain ⟨a',e1,e2,e3,hO,hm,hx⟩:=hp
 have hc:NoCel w (scX v.a):=nocel_ty h.a.ty (by decide)
 refine ⟨{ v with a:=a' },e3,⟨rfl,rfl,e1,rfl,fun x hx2 => ?_⟩,⟨?_,h.hb,h.z.mod hm h.za,hO,h.b.mod hm hc (fun b hb hz => h.ab b hz hb),h.ad,owns_mod h.bu hm h.fa,owns_mod h.ch hm h.ca,fun x h1 h2 => ?_,h.bz⟩,hm.mono (fun b hb => mem_tmX.2 (.inr (.inr (.inl hb))))⟩
 · rcases mem_tmX.1 hx2 with h1 | h1 | h1 | h1
   · exact .inl (mem_tmX.2 (.inl h1))
   · exact .inl (mem_tmX.2 (.inr (.inl h1)))
   · exact (hx x h1).imp (fun h => mem_tmX.2 (.inr (.inr (.inl h)))) id
   · exact .inl (mem_tmX.2 (.inr (.inr (.inr h1))))
 · have:=(hm.block v.M h.ltM h.ma).trans h.blk
   rw [this]
   unfold encTm
   rw [e1]
 · rcases hx x h1 with h3 | h3
   · exact h.ab x h3 h2
   · have:=(h.b.lt x h2).2;omega
theorem TmO.putq {t':Tm} {v':Tv} {w':World} (h:TmO base w v t) (hM:v'.M = v.M) (hz:v'.z = v.z) (ha:v'.a = v.a) (hb:v'.b = v.b) (had:v'.ba = .pointer none ∨ v'.ba = .pointer (some ⟨v.M,6,none⟩)) (hf:(v'.bf = v.bf∧t'.rep = t.rep) ∨ (v'.bf = .slice none 0 0∧t'.rep = [])) (hc:(v'.vc = v.vc∧t'.ch = t.ch) ∨ (v'.vc = .slice none 0 0∧t'.ch = []))
 (ez:t'.pz = t.pz) (ea:t'.s0 = t.s0) (eb:t'.s1 = t.s1) (hm:Mod [v.M] w w') (hw:w'.heap[v.M]? = some (.cells (encTm t' v').toArray 78 (0,0))):TmRq base w v t' w':=by
 have hX:NoCel w [v.M]:=nocel_ty (l:=[78]) (fun b hb => by rw [List.mem_singleton.1 hb];exact h.tyM) (by decide)
 have hf2:∀ x,v'.bf.ownBlock = some x→v.bf.ownBlock = some x:=fun x hx => by
  rcases hf with ⟨e,-⟩ | ⟨e,-⟩
  · rw [← e];exact hx
  · rw [e] at hx;cases hx
 have hc2:∀ x,v'.vc.ownBlock = some x→v.vc.ownBlock = some x:=fun x hx => by
  rcases hc with ⟨e,-⟩ | ⟨e,-⟩
  · rw [← e];exact hx
  · rw [e] at hx;cases hx
 refine ⟨v',by rw [ha],⟨hM,by rw [hz],by rw [ha],by rw [hb],fun x hx => .inl ?_⟩,⟨by rw [hM];exact hw,by rw [hM];exact h.hb,?_,?_,?_,by rw [hM];exact had,?_,?_,by rw [ha,hb];exact h.ab,fun x hx => by rw [hz];exact h.bz x (hf2 x hx)⟩,hm.mono (fun b hb => mem_tmX.2 (.inl (List.mem_singleton.1 hb)))⟩
 · rcases mem_tmX.1 hx with h1 | h1 | h1 | h1 | h1 | h1
   · exact mem_tmX.2 (.inl (h1.trans hM))
   · exact mem_tmX.2 (.inr (.inl (by rw [← hz];exact h1)))
   · exact mem_tmX.2 (.inr (.inr (.inl (by rw [← ha];exact h1))))
   · exact mem_tmX.2 (.inr (.inr (.inr (.inl (by rw [← hb];exact h1)))))
   · exact mem_tmX.2 (.inr (.inr (.inr (.inr (.inl (hf2 x h1))))))
   · exact mem_tmX.2 (.inr (.inr (.inr (.inr (.inr (hc2 x h1))))))
 · rw [hz,ez];exact h.z.mod hm (fun b hb hx => h.mz (by rw [← List.mem_singleton.1 hx];exact hb))
 · rw [ha,ea];exact h.a.mod hm hX (fun b hb hx => h.ma (by rw [← List.mem_singleton.1 hx];exact hb))
 · rw [hb,eb];exact h.b.mod hm hX (fun b hb hx => h.mb (by rw [← List.mem_singleton.1 hx];exact hb))
 · rcases hf with ⟨e1,e2⟩ | ⟨e1,e2⟩
   · rw [e1,e2];exact owns_mod h.bu hm (fun g hg hx => h.mf (by rw [← List.mem_singleton.1 hx];exact hg))
   · rw [e1,e2];exact World.ownsRow_nil w' base 5 1
 · rcases hc with ⟨e1,e2⟩ | ⟨e1,e2⟩
   · rw [e1,e2];exact owns_mod h.ch hm (fun g hg hx => h.mc (by rw [← List.mem_singleton.1 hx];exact hg))
   · rw [e1,e2];exact World.ownsRow_nil w' base 96 10
set_option maxHeartbeats 1600000 in
theorem tdrainq_any (h:TmO base w v t) (ht:t.s0.pg.told = []):Calls Tryz.prog 44 #[.pointer (some ⟨v.M,0,none⟩)] w (TmPq base w v t):=by
 have HP:=Hd (sPage_any h.a)
 have HS:=Hd (pShifts_any h.a.page)
 obtain ⟨-,c1,-⟩:=h.facts
 have HO:=Hd h
 have HT:=Hd ht
 clear h ht
 go_enter Tryz.func44,Tryz.ntmps44
 go_wp2_with (first
  | (go_at_call 78;(with_reducible refine HP.out.mono ?_);rintro e w1 ⟨rfl,rfl⟩)
  | (go_at_call 84;(with_reducible refine HS.out.mono ?_);rintro e w1 ⟨sv,rfl,ho,hr⟩;rw [HT.out] at ho;obtain ⟨A,c,rfl⟩:=row_form ho;have HR:=Hd hr;clear ho hr))
 go_loopw [12] (fun s12 wr => s12 = .int .i64 0∧wr = w1) (fun _ _ => 0)
 case atStart => exact ⟨rfl,rfl⟩
 case round =>
  obtain ⟨rfl,rfl⟩:=hrel
  go_wp2
  go_end0
  have h1:=HO.out.withAq (HO.out.a.paged HR.out)
  have e:{ t with s0:={ t.s0 with pg:={ t.s0.pg with told:=[] } } } = t:=by rw [← HT.out]
  rw [e] at h1
  exact ⟨rfl,h1⟩
def ChPq (base:Nat) (w:World) (v:Tv) (t:Tm) (e:Ending) (w':World):Prop:=∃ A c,e = .returned (.slice A t.ch.length c)∧w'.ownsRow base 96 10 (.slice A t.ch.length c) t.ch.length (flat encCg t.ch)∧TmRq base w v { t with ch:=[] } w'
set_option maxHeartbeats 1600000 in
theorem tChangesq_any (h:TmO base w v t) (ht:t.s0.pg.told = []):Calls Tryz.prog 18 #[.pointer (some ⟨v.M,0,none⟩)] w (ChPq base w v t):=by
 have HD:=Hd (tdrainq_any h ht)
 clear h ht
 go_enter Tryz.func18,Tryz.ntmps18
 go_upto_region 4 with (go_at_call 44;(with_reducible refine HD.out.mono ?_);rintro e w1 ⟨rfl,hr⟩;obtain ⟨v1,hQ,hV,hO,hm⟩:=hr;have HQ:=Hd hQ;have HV:=Hd hV;have HO:=Hd hO;have HM:=Hd hm;clear hQ hV hO hm)
 obtain ⟨-,-,-,-,-,-,-,-,⟨c8,f8⟩⟩:=HO.out.facts
 rw [HV.out.M] at c8 f8
 obtain ⟨A,c,hvc⟩:=row_form HO.out.ch
 rw [hvc] at c8
 have HC:=Hd (show w1.ownsRow base 96 10 (.slice A t.ch.length c) t.ch.length (flat encCg t.ch) from by rw [← hvc];exact HO.out.ch)
 have HR:Hid (TmRq base w v { t with ch:=[] } (w1.setCell ⟨v.M,8,none⟩ (.slice none 0 0))):=Hd (by
  refine TmRq.trans HQ.out HV.out HM.out (HO.out.putq (t':={ t with ch:=[] }) (v':={ v1 with vc:=.slice none 0 0 }) rfl rfl rfl rfl HO.out.ad (.inl ⟨rfl,rfl⟩) (.inr ⟨rfl,rfl⟩) rfl rfl rfl (by rw [HV.out.M];exact (Mod.refl _ _).setCell (a:=⟨v.M,8,none⟩) (.inl (by simp)) _) ?_)
  have:=heap_setCell_eq (o:=8) (v:=.slice none 0 0) HO.out.blk
  rw [List.setIfInBounds_toArray] at this
  rw [HV.out.M] at this ⊢
  exact this)
 have HC2:Hid ((w1.setCell ⟨v.M,8,none⟩ (.slice none 0 0)).ownsRow base 96 10 (.slice A t.ch.length c) t.ch.length (flat encCg t.ch)):=Hd (owns_mod HC.out ((Mod.refl [v.M] _).setCell (a:=⟨v.M,8,none⟩) (.inl (by simp)) _) (fun g hg hx => HO.out.mc (by rw [HV.out.M,hvc,← List.mem_singleton.1 hx];exact hg)))
 clear hvc
 go_wp2
 go_ret
 exact ⟨A,c,rfl,HC2.out,HR.out⟩
theorem tTitle_any (h:TmO base w v t):Calls Tryz.prog 16 #[.pointer (some ⟨v.M,0,none⟩)] w fun e w' => e = .returned (.string t.title)∧w = w':=by
 obtain ⟨-,-,-,-,-,⟨c5,-⟩,-⟩:=h.facts
 clear h
 go_enter Tryz.func16,Tryz.ntmps16
 go_wp2
 go_ret
 exact ⟨rfl,rfl⟩
theorem tModes_any (h:TmO base w v t):Calls Tryz.prog 14 #[.pointer (some ⟨v.M,0,none⟩)] w fun e w' => e = .returned (.agg #[.int .u32 t.modes])∧Below w.heap.size w w':=by
 obtain ⟨-,-,-,-,⟨c4,-⟩,-⟩:=h.facts
 obtain ⟨W,hW⟩:∃ W,w.alloc (.cells #[.int .u32 0] 40) = W:=⟨_,rfl⟩
 have HB0:Hid (Below w.heap.size w W):=Hd (by rw [← hW];exact below_allocs (Below.refl _ _) _)
 have HN0:Hid (W.heap[w.heap.size]? = some (.cells #[.int .u32 0] 40 (0,0))):=Hd (by rw [← hW];exact hp_new rfl)
 have c4w:W.cell? ⟨v.M,4,none⟩ = some (.int .u32 t.modes):=holda HB0.out c4
 obtain ⟨r0,rf0⟩:=at_ HN0.out 0 (.int .u32 0) rfl
 generalize t.modes = m at c4 c4w ⊢
 clear h c4
 go_enter Tryz.func14,Tryz.ntmps14
 go_wp2
 exact bodyPost_ret (ret_agg rfl _ _ w.heap.size [.int .u32 m] rfl (range_new (whole_set (cs:=[.int .u32 0]) HN0.out 0 (.int .u32 m) rfl)) Tryz.underlying40 rfl info_set) rfl ⟨rfl,below_set HB0.out (Nat.le_refl _) _⟩
set_option maxHeartbeats 1600000 in
theorem bstr0 (b o c:Nat) (A:Option Addr) (w:World) (h:w.cell? ⟨b,o + 1,none⟩ = some (.slice A 0 c)) (hA:∀ a,A = some a→∃ sh,w.shape? a.block = some sh) :
 Calls Tryz.prog 42 #[.pointer (some ⟨b,o,none⟩)] w fun e w' => e = .returned (.string ⟨#[]⟩)∧Below w.heap.size w w':=by
 have mixed:Tryz.prog.follows .mixedOrders = true:=by kernel_rfl
 have hUS:∀ (p:Option Addr) (W:World),(Builtin.unsafeString_ #[146,3] 9 #[.pointer p,.int .i64 0]).run Tryz.prog W = .ok (.string .empty) W:=fun p W => Lib.run_unsafeString_none W _ _ _ p
 have c1:w.drew.cell? ⟨b,o + 1,none⟩ = some (.slice A 0 c):=h
 cases A with
 | none =>
   have hSD:∀ W:World,(Builtin.unsafeSliceData_ #[23] 146 #[.slice none 0 c]).run Tryz.prog W = .ok (.pointer none) W:=fun W => Lib.run_unsafeSliceData_nil W _ _ _ _
   clear hA h
   go_enter Tryz.func42,Tryz.ntmps42
   go_wp2
   go_region_o
   all_goals (go_wp2;go_ret;exact ⟨rfl,Below.drew (Below.refl _ w)⟩)
 | some a =>
   by_cases hc:c = 0
   · subst hc
     obtain ⟨sh,hsh⟩:=hA a rfl
     have hSD:(Builtin.unsafeSliceData_ #[23] 146 #[.slice (some a) 0 0]).run Tryz.prog w.drew = .ok (.pointer (some ⟨w.heap.size,0,none⟩)) (w.drew.alloc (.view a 5)):=Lib.run_unsafeSliceData_zero w.drew _ _ _ Tryz.underlying146 a 0 sh hsh
     have c2:(w.alloc (.view a 5)).cell? ⟨b,o + 1,none⟩ = some (.slice (some a) 0 0):=holda ((Below.refl _ _).alloc (Nat.le_refl _) _) h
     clear hA h
     go_enter Tryz.func42,Tryz.ntmps42
     go_wp2
     go_region_o
     all_goals (go_wp2;go_ret;exact ⟨rfl,Below.alloc (Below.drew (Below.refl _ w)) (Nat.le_refl _) _⟩)
   · have hSD:∀ W:World,(Builtin.unsafeSliceData_ #[23] 146 #[.slice (some a) 0 c]).run Tryz.prog W = .ok (.pointer (some a)) W:=fun W => Lib.run_unsafeSliceData_row W _ _ _ _ _ hc
     clear hA h
     go_enter Tryz.func42,Tryz.ntmps42
     go_wp2
     go_region_o
     all_goals (go_wp2;go_ret;exact ⟨rfl,Below.drew (Below.refl _ w)⟩)
set_option maxHeartbeats 1600000 in
theorem tReply0_any (h:TmO base w v t) (hr:t.rep = []):Calls Tryz.prog 17 #[.pointer (some ⟨v.M,0,none⟩)] w fun e w' => e = .returned (.string ⟨#[]⟩)∧TmRq base w v t w':=by
 obtain ⟨-,-,-,-,-,-,-,⟨c7,-⟩,-⟩:=h.facts
 have hbu:=h.bu
 rw [hr] at hbu
 obtain ⟨A,c,hA,hsh⟩:∃ A c,v.bf = .slice A 0 c∧∀ a,A = some a→∃ sh,w.shape? a.block = some sh:=by
  rcases hbu.2 with ⟨e,-⟩ | ⟨g,cap,cur,e,-,hg,-⟩
  · exact ⟨none,0,e,fun a ha => by cases ha⟩
  · exact ⟨_,cap,e,fun a ha => by cases ha;exact ⟨(5,cur.size),by simp [World.shape?,hg]⟩⟩
 rw [hA] at c7
 have HST:=Hd (bstr0 v.M 6 c A w c7 hsh)
 have HO:=Hd h
 have HREP:=Hd hr
 clear h hr hbu hA hsh c7
 go_enter Tryz.func17,Tryz.ntmps17
 go_upto_region 4 with (go_at_call 42;(with_reducible refine HST.out.mono ?_);rintro e w1 ⟨rfl,hb⟩;have HB:=Hd hb;clear hb)
 have HO1:=Hd (HO.out.below HB.out)
 have HRS:Hid (Calls Tryz.prog 43 #[.pointer (some ⟨v.M,6,none⟩)] w1 fun e w' => e = .returned (.tuple #[])∧w' = (w1.setCell ⟨v.M,6,none⟩ (.pointer none)).setCell ⟨v.M,7,none⟩ (.slice none 0 0)):=Hd (by
  obtain ⟨-,-,-,-,-,-,⟨c6,f6⟩,⟨c7,f7⟩,-⟩:=HO1.out.facts
  have d7:=hold_set (b':=v.M) (i':=6) (u:=.pointer none) ⟨c7,f7⟩ (.inr (by decide))
  clear HO HO1 HST HB
  go_enter Tryz.func43,Tryz.ntmps43
  go_wp2
  go_end0
  exact ⟨rfl,rfl⟩)
 have HF:Hid (TmRq base w v t ((w1.setCell ⟨v.M,6,none⟩ (.pointer none)).setCell ⟨v.M,7,none⟩ (.slice none 0 0))):=Hd (by
  refine TmRq.pre HB.out ?_
  refine HO1.out.putq (t':=t) (v':={ v with ba:=.pointer none,bf:=.slice none 0 0 }) rfl rfl rfl rfl (.inl rfl) (.inr ⟨rfl,HREP.out⟩) (.inl ⟨rfl,rfl⟩) rfl rfl rfl (((Mod.refl _ _).setCell (a:=⟨v.M,6,none⟩) (.inl (by simp)) _).setCell (a:=⟨v.M,7,none⟩) (.inl (by simp)) _) ?_
  have h1:=heap_setCell_eq (o:=6) (v:=.pointer none) HO1.out.blk
  have h2:=heap_setCell_eq (o:=7) (v:=.slice none 0 0) h1
  exact h2)
 clear HST
 go_wp2_with (go_at_call 43;(with_reducible refine HRS.out.mono ?_);rintro e w2 ⟨rfl,rfl⟩)
 go_ret
 exact ⟨rfl,HF.out⟩
end
end Go.Proofs.YtaefcahblmopfaaGreatDoor
