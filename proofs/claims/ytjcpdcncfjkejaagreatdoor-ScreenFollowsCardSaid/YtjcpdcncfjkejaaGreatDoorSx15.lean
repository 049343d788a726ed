/- Joined by a tool of this claim out of smaller texts. Conditions: as stated. -/
import Derived.Test.YtjcpdcncfjkejaaGreatDoorSx14
set_option linter.unusedVariables false
set_option linter.unusedSimpArgs false
set_option maxRecDepth 100000
open Go.Lib renaming hid → Hd
open Go.Proofs.Tryz renaming prog → jG
open Go.RowKit.Below renaming refl → jU
open Nat renaming le_refl → jS
open Go.World renaming ownsRow → kK
namespace Go.Proofs.YtjcpdcncfjkejaaGreatDoor
open Go.RowKit
theorem iG:(jG.info? 47).map (·.size)=some 19:=by kernel_rfl
theorem qQs{N:Nat}{X:List Int}{w:World}{a0:Option Addr}{k0:Nat}(h:∃a c,Value.slice a0 N k0=.slice a N c∧pA zQ 1 w a X):pA zQ 1 w a0 X:=by
 obtain⟨a,c,hv,hg⟩:=h;simp only[Value.slice.injEq]at hv;rw[hv.1];exact hg
section
variable {B1 B2:Nat}{w:World}{v:Sv}{m:Mv}{s:Sc}
set_option maxHeartbeats 12800000 in
theorem JY(hp:ScO B1 w v s)(hd:DmO B2 w m s)(hL:(s.pg.hist++s.pg.scr).length≤900000):
 Calls jG 19 #[.pointer (some ⟨v.S,0,none⟩),.pointer (some ⟨m.M,0,none⟩)] w (fun e w'=>e=.returned (.bool true)∧Below w.heap.size w w'):=by
 have hst:s.st.length≤1000:=hp.tabs.le;have HST:=Hd (fU hp);have HPG:Hid (∀w',Below w.heap.size w w'→Calls jG 14 #[.pointer (some ⟨v.S,0,none⟩)] w' (fun e w''=>e=.returned (.pointer (some ⟨v.q.P,0,none⟩))∧w'=w'')):=Hd (fun w' hb=>fH (hp.below hb));have H4:Hid (∀w',Below w.heap.size w w'→Calls jG 79 #[.pointer (some ⟨v.q.P,0,none⟩)] w' (fun e w''=>e=.returned (.int .i64 s.pg.hist.length)∧Below w'.heap.size w' w'')):=Hd (fun w' hb=>(mZ (hp.page.below hb)).mono (fun e w2 hh=>⟨hh.1,by rw[←hh.2];exact jU _ _⟩));have H5:Hid (∀w',Below w.heap.size w w'→Calls jG 80 #[.pointer (some ⟨v.q.P,0,none⟩)] w' (fun e w''=>e=.returned (.int .u64 (s.pg.gone%18446744073709551616))∧Below w'.heap.size w' w'')):=Hd (fun w' hb=>(WL (hp.page.below hb)).mono (fun e w2 hh=>⟨hh.1,by rw[←hh.2];exact jU _ _⟩));have H6:Hid (∀w',Below w.heap.size w w'→Calls jG 82 #[.pointer (some ⟨v.q.P,0,none⟩)] w' (aN (s.pg.hist++s.pg.scr) w')):=Hd (fun w' hb=>qQk (hp.page.below hb))
 have H7:Hid (∀w',Below w.heap.size w w'→Calls jG 28 #[.pointer (some ⟨v.S,0,none⟩)] w' (fun e w''=>e=.returned (.pointer (some ⟨v.T,0,none⟩))∧Below w'.heap.size w' w'')):=Hd (fun w' hb=>(rO (hp.below hb)).mono (fun e w2 hh=>⟨hh.1,by rw[←hh.2];exact jU _ _⟩));obtain⟨X,hX⟩:∃X,zR s.st s.st.length=X:=⟨_,rfl⟩;have H8:Hid (∀w',Below w.heap.size w w'→Calls jG 84 #[.pointer (some ⟨v.T,0,none⟩)] w' (rM X w')):=Hd (fun w' hb=>by rw[←hX];exact Uy (hp.tabs.below hb));obtain⟨VA,vc,hvs⟩:=gU (show kK _ _ _ _ _ _ _ from hd.stops);have H9:Hid (∀w',Below w.heap.size w w'→Calls jG 85 #[.slice VA s.st.length vc] w' (rM X w')):=Hd (fun w' hb=>by
  have ho:kK w' B2 4 1 m.vs s.st.length (uS fC s.st):=hd.stops.below hb;rw[hvs]at ho;rw[←hX];exact WK w' VA s.st vc (mN mF ho) hst)
 have hXl:X.length≤1000000:=by rw[←hX];have :=mI s.st s.st.length;omega
 obtain⟨N,hN⟩:∃N,X.length=N:=⟨_,rfl⟩;have HXN:=Hd hN;have HIN:Hid (∀(w':World) (a1 a2:Option Addr) (k1 k2:Nat),pA zQ 1 w' a1 X→pA zQ 1 w' a2 X→Calls jG 83 #[.slice a1 N k1,.slice a2 N k2] w' (fun e w''=>e=.returned (.bool true)∧Below w'.heap.size w' w'')):=Hd (fun w' a1 a2 k1 k2 h1 h2=>by rw[←hN];exact Y9 X a1 a2 k1 k2 w' h1 h2 hXl);obtain⟨A,c,hv⟩:=hd.doc.vform;obtain⟨n,hn⟩:∃n,n=m.q.S.length:=⟨_,rfl⟩;have HSM:Hid (∀(w':World) (A2:Option Addr) (n2 c2:Nat),Below w.heap.size w w'→(∃base2 L2,nL base2 w' (.slice A2 n2 c2) L2∧L2.map yA=s.pg.hist++s.pg.scr)→Calls jG 81 #[.slice A2 n2 c2,.slice A n c] w' (fun e w''=>e=.returned (.bool true)∧Below w'.heap.size w' w'')):=Hd (fun w' A2 n2 c2 hb ⟨b2,L2,hr2,he2⟩=>by
  have hd2:=hd.doc.below hb;have hn2:n2=L2.length:=by
   obtain⟨A3,c3,hv3⟩:=gU hr2.1;simp only[Value.slice.injEq]at hv3;exact hv3.2.1
  have hlen:L2.length=(s.pg.hist++s.pg.scr).length:=by rw[←he2];simp
  have hown:=hd2.own;rw[hv]at hown;have :=XX A2 A L2 m.q.S c2 c w' (mN zJ hr2.1) (mN zJ hown) (fun r hr=>(hr2.2 r hr).1) (fun r hr=>(hd2.rows r hr).1) (by rw[he2];exact hd2.rl.symm) (by rw[hlen];omega);rw[hn2,hn];exact this)
 have hDB:=hd.doc.blk;have hMB:=hd.blk;rw[hv,←hn]at hDB;rw[hvs]at hMB;obtain⟨G,hG⟩:∃G,s.pg.gone%18446744073709551616=G:=⟨_,rfl⟩;have hDB:w.heap[m.q.D]? =some (.cells #[.slice A n c,.int .i64 s.pg.hist.length,.int .i64 s.pg.cols,.int .i64 s.pg.room,.int .u64 (s.pg.gone%18446744073709551616),m.q.vt] 61 (0,0)):=hDB;rw[hG]at H5 hDB;have HDB:=Hd hDB;have HMB:=Hd hMB;clear hp hd hL hst hX hvs hXl hN hv hn hDB hMB hG
 go_enter Tryz.func19,Tryz.ntmps19
 go_upto_region 1 with fail
 refine wp_region_lit ?_;refine zG (.pointer (some ⟨v.S,0,none⟩)) ?_;refine gC rfl 13 #[.pointer (some ⟨v.S,0,none⟩)] qY HST.o (.agg (stL s).toArray) (fun e w' h=>h.1) ?_;rintro w1 ⟨-,hb1⟩;have HB1:=Hd hb1;refine zP ?_;refine uM (.pointer (some ⟨w1.heap.size,0,none⟩)) (w1.alloc (.cells #[.int .i64 0,.int .i64 0,.int .i64 0,.int .i64 0,.int .i64 0,.int .i64 0,.int .i64 0,.int .i64 0,.int .i64 0,.int .i64 0,.int .i64 0,.int .i64 0,.int .i64 0,.bool false,.bool false,.bool false,.int .i64 0,.int .i64 0,.bool false] 47)) qK qY ?_;refine zP ?_;have hc1:(w1.alloc (.cells #[.int .i64 0,.int .i64 0,.int .i64 0,.int .i64 0,.int .i64 0,.int .i64 0,.int .i64 0,.int .i64 0,.int .i64 0,.int .i64 0,.int .i64 0,.int .i64 0,.int .i64 0,.bool false,.bool false,.bool false,.int .i64 0,.int .i64 0,.bool false] 47)).heap[w1.heap.size]? =some (.cells #[.int .i64 0,.int .i64 0,.int .i64 0,.int .i64 0,.int .i64 0,.int .i64 0,.int .i64 0,.int .i64 0,.int .i64 0,.int .i64 0,.int .i64 0,.int .i64 0,.int .i64 0,.bool false,.bool false,.bool false,.int .i64 0,.int .i64 0,.bool false] 47 (0,0)):=kZ rfl;have HX2:=Hd (uB (stL s) 0 _ _ hc1 (by simp[stL]))
 have HB2:=Hd (jN hb1 (gX (jW (jU w1.heap.size w1) (.cells #[.int .i64 0,.int .i64 0,.int .i64 0,.int .i64 0,.int .i64 0,.int .i64 0,.int .i64 0,.int .i64 0,.int .i64 0,.int .i64 0,.int .i64 0,.int .i64 0,.int .i64 0,.bool false,.bool false,.bool false,.int .i64 0,.int .i64 0,.bool false] 47)) (jS w1.heap.size) (stL s) 0));refine wpList_store_mid rfl 47 (.tmp 5) (.tmp 9) rfl (w1.heap.size) (0) ((stL s).toArray) rfl rfl ((show World.there _ w1.heap.size 0 19 from gH hc1)) iG (all_oneCell_toArray (sF s)) ?_;simp only[Act.put];change wpList _ _ _ _ _ ((w1.alloc (.cells #[.int .i64 0,.int .i64 0,.int .i64 0,.int .i64 0,.int .i64 0,.int .i64 0,.int .i64 0,.int .i64 0,.int .i64 0,.int .i64 0,.int .i64 0,.int .i64 0,.int .i64 0,.bool false,.bool false,.bool false,.int .i64 0,.int .i64 0,.bool false] 47)).setCells w1.heap.size 0 (stL s));clear hc1 hb1;generalize (w1.alloc (.cells #[.int .i64 0,.int .i64 0,.int .i64 0,.int .i64 0,.int .i64 0,.int .i64 0,.int .i64 0,.int .i64 0,.int .i64 0,.int .i64 0,.int .i64 0,.int .i64 0,.int .i64 0,.bool false,.bool false,.bool false,.int .i64 0,.int .i64 0,.bool false] 47)).setCells w1.heap.size 0 (stL s)=W2 at HX2 HB2 ⊢
 obtain⟨BX,hBX⟩:∃b,w1.heap.size=b:=⟨_,rfl⟩;rw[hBX]at HX2 ⊢;clear hBX HB1;have HX2:Hid (W2.heap[BX]? =some (.cells (stL s).toArray 47 (0,0))):=Hd HX2.o;have HPG2:=Hd (HPG.o W2 HB2.o)
 go_upto_region 3 with(go_at_call 14;(with_reducible refine HPG2.o.mono ?_);rintro e w3 ⟨rfl,rfl⟩)
 obtain⟨x7,-⟩:=at_ HX2.o 7 (.int .i64 s.pen.ch.g0) rfl;obtain⟨x8,-⟩:=at_ HX2.o 8 (.int .i64 s.pen.ch.g1) rfl;obtain⟨x9,-⟩:=at_ HX2.o 9 (.int .i64 s.pen.ch.g2) rfl;obtain⟨x10,-⟩:=at_ HX2.o 10 (.int .i64 s.pen.ch.g3) rfl;obtain⟨x11,-⟩:=at_ HX2.o 11 (.int .i64 s.pen.ch.use) rfl;obtain⟨x12,-⟩:=at_ HX2.o 12 (.int .i64 s.pen.ch.once) rfl
 go_upto_region 4 with fail
 have hb4:Below W2.heap.size W2 (W2.alloc (.cells (vI s.pen.ch).toArray 66)):=jW (jU _ _) _;have HC4:Hid ((W2.alloc (.cells (vI s.pen.ch).toArray 66)).heap[W2.heap.size]? =some (.cells (vI s.pen.ch).toArray 66 (0,0))):=Hd (kZ rfl);have HX4:=Hd ((hb4.block _ (kQ HX2.o)).trans HX2.o);have HB4:=Hd (jN HB2.o hb4);have hMW:=(HB4.o.block _ (kQ HMB.o)).trans HMB.o;have hDW:=(HB4.o.block _ (kQ HDB.o)).trans HDB.o;change Code.wp _ _ _ _ (W2.alloc (.cells (vI s.pen.ch).toArray 66));generalize W2.alloc (.cells (vI s.pen.ch).toArray 66)=W4 at HC4 HX4 HB4 hMW hDW ⊢;obtain⟨BC,hBC⟩:∃b,W2.heap.size=b:=⟨_,rfl⟩;rw[hBC]at HC4 ⊢;clear hBC hb4 x7 x8 x9 x10 x11 x12 HX2 HPG2 HB2;have H4:Hid (∀w',Below W4.heap.size W4 w'→Calls jG 79 #[.pointer (some ⟨v.q.P,0,none⟩)] w' (fun e w''=>e=.returned (.int .i64 s.pg.hist.length)∧Below w'.heap.size w' w'')):=Hd (fun w' hb=>H4.o w' (jN HB4.o hb));have H5:Hid (∀w',Below W4.heap.size W4 w'→Calls jG 80 #[.pointer (some ⟨v.q.P,0,none⟩)] w' (fun e w''=>e=.returned (.int .u64 G)∧Below w'.heap.size w' w'')):=Hd (fun w' hb=>H5.o w' (jN HB4.o hb))
 have H6:Hid (∀w',Below W4.heap.size W4 w'→Calls jG 82 #[.pointer (some ⟨v.q.P,0,none⟩)] w' (aN (s.pg.hist++s.pg.scr) w')):=Hd (fun w' hb=>H6.o w' (jN HB4.o hb));have H7:Hid (∀w',Below W4.heap.size W4 w'→Calls jG 28 #[.pointer (some ⟨v.S,0,none⟩)] w' (fun e w''=>e=.returned (.pointer (some ⟨v.T,0,none⟩))∧Below w'.heap.size w' w'')):=Hd (fun w' hb=>H7.o w' (jN HB4.o hb));have H8:Hid (∀w',Below W4.heap.size W4 w'→Calls jG 84 #[.pointer (some ⟨v.T,0,none⟩)] w' (rM X w')):=Hd (fun w' hb=>H8.o w' (jN HB4.o hb));have H9:Hid (∀w',Below W4.heap.size W4 w'→Calls jG 85 #[.slice VA s.st.length vc] w' (rM X w')):=Hd (fun w' hb=>H9.o w' (jN HB4.o hb));have HSM:Hid (∀(w':World) (A2:Option Addr) (n2 c2:Nat),Below W4.heap.size W4 w'→(∃base2 L2,nL base2 w' (.slice A2 n2 c2) L2∧L2.map yA=s.pg.hist++s.pg.scr)→Calls jG 81 #[.slice A2 n2 c2,.slice A n c] w' (fun e w''=>e=.returned (.bool true)∧Below w'.heap.size w' w'')):=Hd (fun w' A2 n2 c2 hb h=>HSM.o w' A2 n2 c2 (jN HB4.o hb) h)
 refine gG 115 (fun w'=>Below W4.heap.size W4 w'∧w'.heap[BX]? =some (.cells (stL s).toArray 47 (0,0))∧w'.heap[BC]? =some (.cells (vI s.pen.ch).toArray 66 (0,0))∧w'.heap[m.M]? =some (.cells (dL s m.q.D (.slice VA s.st.length vc)).toArray 70 (0,0))∧w'.heap[m.q.D]? =some (.cells #[.slice A n c,.int .i64 s.pg.hist.length,.int .i64 s.pg.cols,.int .i64 s.pg.room,.int .u64 G,m.q.vt] 61 (0,0))) qQ qQ (fun w1 w2 hS hb=>⟨jN hS.1 hb,(hb.block _ (kQ hS.2.1)).trans hS.2.1,(hb.block _ (kQ hS.2.2.1)).trans hS.2.2.1,(hb.block _ (kQ hS.2.2.2.1)).trans hS.2.2.2.1,(hb.block _ (kQ hS.2.2.2.2)).trans hS.2.2.2.2⟩) ⟨(jU _ _).drew,HX4.o,HC4.o,hMW,hDW⟩ ?_;clear hMW hDW HX4 HC4 HST HPG;refine AtN.go 0 ?_
 iterate 12 (refine AtC.take (o:=⟨_,_,_,_,_,_⟩) (v:=?_) qX rfl qV qX qX ?_ ?_;rotate_left;(focus(refine uY.val qK ?_;intro w' hS;obtain⟨-,hx,hc,hm,hd⟩:=hS;have x0:=(at_ hx 0 (.int .i64 s.y) rfl).1;have x1:=(at_ hx 1 (.int .i64 s.x) rfl).1;have m16:=(at_ hm 16 (.int .i64 s.y) rfl).1;have m17:=(at_ hm 17 (.int .i64 s.x) rfl).1;clear hx hc hm hd;go_simp;first|done|with_reducible rfl));refine zP ?_)
 refine AtC.back ?_
 as_aux_lemma=>
 refine AtN.go 12 ?_
 iterate 10 (refine AtC.take (o:=⟨_,_,_,_,_,_⟩) (v:=?_) qX rfl qV qX qX ?_ ?_;rotate_left;(focus(refine uY.val qK ?_;intro w' hS;obtain⟨-,hx,hc,hm,hd⟩:=hS;have x2:=(at_ hx 2 (.int .i64 s.pen.at_.fk) rfl).1;have x3:=(at_ hx 3 (.int .i64 s.pen.at_.fn) rfl).1;have x4:=(at_ hx 4 (.int .i64 s.pen.at_.bk) rfl).1;have x5:=(at_ hx 5 (.int .i64 s.pen.at_.bn) rfl).1;have x6:=(at_ hx 6 (.int .i64 s.pen.at_.fl) rfl).1;have m2:=(at_ hm 2 (.int .i64 s.pen.at_.fk) rfl).1;have m3:=(at_ hm 3 (.int .i64 s.pen.at_.fn) rfl).1;have m4:=(at_ hm 4 (.int .i64 s.pen.at_.bk) rfl).1;have m5:=(at_ hm 5 (.int .i64 s.pen.at_.bn) rfl).1;have m6:=(at_ hm 6 (.int .i64 s.pen.at_.fl) rfl).1;clear hx hc hm hd;go_simp;first|done|with_reducible rfl));refine zP ?_)
 refine AtC.back ?_;refine AtN.go 22 ?_
 iterate 9 (refine AtC.take (o:=⟨_,_,_,_,_,_⟩) (v:=?_) qX rfl qV qX qX ?_ ?_;rotate_left;(focus(refine uY.val qK ?_;intro w' hS;obtain⟨-,hx,hc,hm,hd⟩:=hS;have c0:=(at_ hc 0 (.int .i64 s.pen.ch.g0) rfl).1;have c1:=(at_ hc 1 (.int .i64 s.pen.ch.g1) rfl).1;have c2:=(at_ hc 2 (.int .i64 s.pen.ch.g2) rfl).1;have c3:=(at_ hc 3 (.int .i64 s.pen.ch.g3) rfl).1;have c4:=(at_ hc 4 (.int .i64 s.pen.ch.use) rfl).1;have c5:=(at_ hc 5 (.int .i64 s.pen.ch.once) rfl).1;have m7:=(at_ hm 7 (.int .i64 s.pen.ch.g0) rfl).1;have m8:=(at_ hm 8 (.int .i64 s.pen.ch.g1) rfl).1;have m9:=(at_ hm 9 (.int .i64 s.pen.ch.g2) rfl).1;have m10:=(at_ hm 10 (.int .i64 s.pen.ch.g3) rfl).1;have m11:=(at_ hm 11 (.int .i64 s.pen.ch.use) rfl).1;have m12:=(at_ hm 12 (.int .i64 s.pen.ch.once) rfl).1;clear hx hc hm hd;go_simp;first|done|with_reducible rfl));refine zP ?_)
 refine AtC.back ?_
 as_aux_lemma=>
 refine AtN.go 31 ?_
 iterate 10 (refine AtC.take (o:=⟨_,_,_,_,_,_⟩) (v:=?_) qX rfl qV qX qX ?_ ?_;rotate_left;(focus(refine uY.val qK ?_;intro w' hS;obtain⟨-,hx,hc,hm,hd⟩:=hS;have x13:=(at_ hx 13 (.bool s.pen.put) rfl).1;have x14:=(at_ hx 14 (.bool s.pen.wrap) rfl).1;have x15:=(at_ hx 15 (.bool s.pen.home) rfl).1;have m13:=(at_ hm 13 (.bool s.pen.put) rfl).1;have m14:=(at_ hm 14 (.bool s.pen.wrap) rfl).1;have m15:=(at_ hm 15 (.bool s.pen.home) rfl).1;clear hx hc hm hd;go_simp;first|done|with_reducible rfl));refine zP ?_)
 refine AtC.back ?_;refine AtN.go 41 ?_
 iterate 9 (refine AtC.take (o:=⟨_,_,_,_,_,_⟩) (v:=?_) qX rfl qV qX qX ?_ ?_;rotate_left;(focus(refine uY.val qK ?_;intro w' hS;obtain⟨-,hx,hc,hm,hd⟩:=hS;have x16:=(at_ hx 16 (.int .i64 s.top) rfl).1;have m18:=(at_ hm 18 (.int .i64 s.top) rfl).1;clear hx hc hm hd;go_simp;first|done|with_reducible rfl));refine zP ?_)
 refine AtC.back ?_
 as_aux_lemma=>
 refine AtN.go 50 ?_
 iterate 9 (refine AtC.take (o:=⟨_,_,_,_,_,_⟩) (v:=?_) qX rfl qV qX qX ?_ ?_;rotate_left;(focus(refine uY.val qK ?_;intro w' hS;obtain⟨-,hx,hc,hm,hd⟩:=hS;have x17:=(at_ hx 17 (.int .i64 s.bot) rfl).1;have m19:=(at_ hm 19 (.int .i64 s.bot) rfl).1;clear hx hc hm hd;go_simp;first|done|with_reducible rfl));refine zP ?_)
 refine AtC.back ?_;refine AtN.go 59 ?_
 iterate 9 (refine AtC.take (o:=⟨_,_,_,_,_,_⟩) (v:=?_) qX rfl qV qX qX ?_ ?_;rotate_left;(focus(refine uY.val qK ?_;intro w' hS;obtain⟨-,hx,hc,hm,hd⟩:=hS;have x18:=(at_ hx 18 (.bool s.has) rfl).1;have m20:=(at_ hm 20 (.bool s.has) rfl).1;clear hx hc hm hd;go_simp;first|done|with_reducible rfl));refine zP ?_)
 refine AtC.back ?_;refine AtN.go 68 ?_
 iterate 2 (refine AtC.take (o:=⟨_,_,_,_,_,_⟩) (v:=?_) qX rfl qV qX qX ?_ ?_;rotate_left;(focus(refine uY.val qK ?_;intro w' hS;obtain⟨-,hx,hc,hm,hd⟩:=hS;clear hx hc hm hd;go_simp;first|done|with_reducible rfl));refine zP ?_)
 refine AtC.back ?_;refine AtN.take 70 (o:=⟨_,_,_,_,_,_⟩) (v:=.int .i64 s.pg.hist.length) qX rfl qV qX qX (uY.call1 79 #[.pointer (some ⟨v.q.P,0,none⟩)] (.int .i64 s.pg.hist.length) qK qB (fun w' hS=>H4.o _ hS.1)) ?_;refine zP ?_
 as_aux_lemma=>
 refine AtN.go 71 ?_
 iterate 9 (refine AtC.take (o:=⟨_,_,_,_,_,_⟩) (v:=?_) qX rfl qV qX qX ?_ ?_;rotate_left;(focus(refine uY.val qK ?_;intro w' hS;obtain⟨-,hx,hc,hm,hd⟩:=hS;have m0:=(at_ hm 0 (.pointer (some ⟨m.q.D,0,none⟩)) rfl).1;have d1:=(at_ hd 1 (.int .i64 s.pg.hist.length) rfl).1;clear hx hc hm hd;go_simp;first|done|with_reducible rfl));refine zP ?_)
 refine AtC.back ?_;refine AtN.go 80 ?_
 iterate 2 (refine AtC.take (o:=⟨_,_,_,_,_,_⟩) (v:=?_) qX rfl qV qX qX ?_ ?_;rotate_left;(focus(refine uY.val qK ?_;intro w' hS;obtain⟨-,hx,hc,hm,hd⟩:=hS;clear hx hc hm hd;go_simp;first|done|with_reducible rfl));refine zP ?_)
 refine AtC.back ?_;refine AtN.take 82 (o:=⟨_,_,_,_,_,_⟩) (v:=.int .u64 G) qX rfl qV qX qX (uY.call1 80 #[.pointer (some ⟨v.q.P,0,none⟩)] (.int .u64 G) qK qB (fun w' hS=>H5.o _ hS.1)) ?_;refine zP ?_
 as_aux_lemma=>
 refine AtN.go 83 ?_
 iterate 9 (refine AtC.take (o:=⟨_,_,_,_,_,_⟩) (v:=?_) qX rfl qV qX qX ?_ ?_;rotate_left;(focus(refine uY.val qK ?_;intro w' hS;obtain⟨-,hx,hc,hm,hd⟩:=hS;have m0:=(at_ hm 0 (.pointer (some ⟨m.q.D,0,none⟩)) rfl).1;have d4:=(at_ hd 4 (.int .u64 G) rfl).1;clear hx hc hm hd;go_simp;first|done|with_reducible rfl));refine zP ?_)
 refine AtC.back ?_;refine AtN.go 92 ?_
 iterate 2 (refine AtC.take (o:=⟨_,_,_,_,_,_⟩) (v:=?_) qX rfl qV qX qX ?_ ?_;rotate_left;(focus(refine uY.val qK ?_;intro w' hS;obtain⟨-,hx,hc,hm,hd⟩:=hS;clear hx hc hm hd;go_simp;first|done|with_reducible rfl));refine zP ?_)
 refine AtC.back ?_;refine AtN.go 95 ?_
 iterate 7 (refine AtC.take (o:=⟨_,_,_,_,_,_⟩) (v:=?_) qX rfl qV qX qX ?_ ?_;rotate_left;(focus(refine uY.val qK ?_;intro w' hS;obtain⟨-,hx,hc,hm,hd⟩:=hS;have m0:=(at_ hm 0 (.pointer (some ⟨m.q.D,0,none⟩)) rfl).1;have d0:=(at_ hd 0 (.slice A n c) rfl).1;clear hx hc hm hd;go_simp;first|done|with_reducible rfl));refine zP ?_)
 refine AtC.back ?_;refine AtN.one 94 (o:=⟨_,_,_,_,_,_⟩) (fun v=>∃A2 n2 c2,v=.slice A2 n2 c2) (fun v w'=>∃base2 L2,nL base2 w' v L2∧L2.map yA=s.pg.hist++s.pg.scr) qV qX rfl (fun v w1 w2 ⟨b2,L2,hr,he⟩ hb=>⟨b2,L2,hr.below hb,he⟩) (uY.call 82 #[.pointer (some ⟨v.q.P,0,none⟩)] _ _ qK ?_ (fun w' hS=>?_)) ?_
 · intro w'
   go_simp
 · refine(H6.o w' hS.1).mono ?_;rintro e w3 ⟨v,L2,rfl,hr,he,hb⟩;obtain⟨A2,c2,rfl⟩:=gU hr.1;exact⟨_,rfl,⟨⟨A2,_,c2,rfl⟩,_,L2,hr,he⟩,hb⟩
 rintro v ⟨A2,n2,c2,rfl⟩;refine zP ?_
 as_aux_lemma=>
 refine AtN.take 102 (o:=⟨_,_,_,_,_,_⟩) (v:=.bool true) qX rfl qV qX qX (uY.call1 81 #[.slice A2 n2 c2,.slice A n c] (.bool true) qK qB (fun w' hS=>HSM.o w' A2 n2 c2 hS.1.1 hS.2)) ?_;refine zP ?_;refine AtN.go 103 ?_
 iterate 3 (refine AtC.take (o:=⟨_,_,_,_,_,_⟩) (v:=?_) qX rfl qV qX qX ?_ ?_;rotate_left;(focus(refine uY.val qK ?_;intro w' hS;obtain⟨-,hx,hc,hm,hd⟩:=hS.1;clear hx hc hm hd;go_simp;first|done|with_reducible rfl));refine zP ?_)
 refine AtC.back ?_;refine AtN.take 106 (o:=⟨_,_,_,_,_,_⟩) (v:=.pointer (some ⟨v.T,0,none⟩)) qX rfl qV qX qX (uY.call1 28 #[.pointer (some ⟨v.S,0,none⟩)] (.pointer (some ⟨v.T,0,none⟩)) qK qB (fun w' hS=>H7.o _ hS.1.1)) ?_;refine zP ?_;refine AtN.go 108 ?_
 iterate 4 (refine AtC.take (o:=⟨_,_,_,_,_,_⟩) (v:=?_) qX rfl qV qX qX ?_ ?_;rotate_left;(focus(refine uY.val qK ?_;intro w' hS;obtain⟨-,hx,hc,hm,hd⟩:=hS.1;have m1:=(at_ hm 1 (.slice VA s.st.length vc) rfl).1;clear hx hc hm hd;go_simp;first|done|with_reducible rfl));refine zP ?_)
 refine AtC.back ?_;refine AtN.one 107 (o:=⟨_,_,_,_,_,_⟩) (fun v=>∃a c,v=.slice a N c) (fun v w'=>∃a c,v=.slice a N c∧pA zQ 1 w' a X) qV qX rfl (fun v w1 w2 ⟨a,c,hv,hg⟩ hb=>⟨a,c,hv,hg.below hb⟩) (uY.call 84 #[.pointer (some ⟨v.T,0,none⟩)] _ _ qK qB (fun w' hS=>(H8.o w' hS.1.1).mono fun e w3 ⟨a,c,he,hg,hb⟩=>⟨.slice a N c,by rw[he,HXN.o],⟨⟨a,c,rfl⟩,a,c,rfl,hg⟩,hb⟩)) ?_;rintro u1 ⟨a1,k1,rfl⟩;refine zP ?_
 as_aux_lemma=>
 refine AtN.one 112 (o:=⟨_,_,_,_,_,_⟩) (fun v=>∃a c,v=.slice a N c) (fun v w'=>∃a c,v=.slice a N c∧pA zQ 1 w' a X) qV qX rfl (fun v w1 w2 ⟨a,c,hv,hg⟩ hb=>⟨a,c,hv,hg.below hb⟩) (uY.call 85 #[.slice VA s.st.length vc] _ _ qK qB (fun w' hS=>(H9.o w' hS.1.1.1).mono fun e w3 ⟨a,c,he,hg,hb⟩=>⟨.slice a N c,by rw[he,HXN.o],⟨⟨a,c,rfl⟩,a,c,rfl,hg⟩,hb⟩)) ?_;rintro u2 ⟨a2,k2,rfl⟩;refine zP ?_;refine AtN.take 113 (o:=⟨_,_,_,_,_,_⟩) (v:=.bool true) qX rfl qV qX qX (uY.call1 83 #[.slice a1 N k1,.slice a2 N k2] (.bool true) qK qB (fun w' hS=>HIN.o w' a1 a2 k1 k2 (qQs hS.1.2) (qQs hS.2))) ?_;refine zP ?_;refine AtN.take 114 (o:=⟨_,_,_,_,_,_⟩) (v:=?_) qX rfl qV qX qX ?_ ?_;rotate_left
 · (refine uY.val qK ?_;intro w' hS;obtain⟨-,hx,hc,hm,hd⟩:=hS.1.1.1;clear hx hc hm hd;go_simp;first|done|with_reducible rfl)
 refine zP ?_;refine AtN.done qX (fun w' hS=>?_);have HB9:=Hd hS.1.1.1.1;clear hS
 go_wp2
 go_ret
 exact⟨rfl,jN HB4.o HB9.o⟩
end
end Go.Proofs.YtjcpdcncfjkejaaGreatDoor
