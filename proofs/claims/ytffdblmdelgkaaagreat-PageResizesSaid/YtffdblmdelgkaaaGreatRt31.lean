/- Joined by a tool of this claim out of smaller texts. Conditions: as stated. -/
import Derived.Test.YtffdblmdelgkaaaGreatRt29
set_option linter.unusedVariables false
set_option linter.unusedSimpArgs false
set_option maxRecDepth 100000
open Go.Lib renaming hid → Hd
namespace Go.Proofs.YtffdblmdelgkaaaGreat
open Go.RowKit
def rsY (g:Pg) (y:Int):Nat:=g.hist.length + (max 0 (min y ((g.scr.length:Int) - 1))).toNat
def rsX (g:Pg) (x:Int):Nat:=(max 0 (min x (g.cols:Int))).toNat
def rsP (g:Pg) (at_:P2) (l:List P2):List P2:=(((rsY g at_.1:Nat):Int),((rsX g at_.2:Nat):Int)) :: l
def rsAll (g:Pg) (cols:Nat):List Ro:=if cols = g.cols then g.hist ++ g.scr else reflowL cols (g.hist ++ g.scr)
def rsP1 (g:Pg) (cols:Nat) (at_:P2) (l:List P2):List P2:=if cols = g.cols then rsP g at_ l else (rsP g at_ l).map (rfP cols (g.hist ++ g.scr))
def rsRow (g:Pg) (cols:Nat) (at_:P2) (l:List P2):Nat:=((rsP1 g cols at_ l).headD (0,0)).1.toNat
def rsCol (g:Pg) (cols:Nat) (at_:P2) (l:List P2):Nat:=((rsP1 g cols at_ l).headD (0,0)).2.toNat
def tailS (all1:List Ro) (y1 rows:Nat):Nat:=min (trimN all1 y1 all1.length - rows) y1
def tailG (g:Pg) (rows cols:Nat) (all1:List Ro) (y1:Nat):Pg :=
 let all2:=all1.take (trimN all1 y1 all1.length)
 let s:=tailS all1 y1 rows
 let scr:=(all2.drop s).take rows
 { g with cols:=cols,scr:=scr ++ List.replicate (rows - scr.length) (blankR cols zeroCol),hist:=fillH (all2.take s) g.room s,gone:=g.gone + (s - g.room:Nat),told:=if 0 < s - g.room then [⟨2,0,((s - g.room:Nat):Int)⟩] else [] }
def tailQ (rows s:Nat) (q:P2):P2:=if ((s + rows:Nat):Int) ≤ q.1 then (((s + rows:Nat):Int),0) else q
def resizeG (g:Pg) (rows cols:Nat) (at_:P2) (l:List P2):Pg:=tailG g rows cols (rsAll g cols) (rsRow g cols at_ l)
def resizeAt (g:Pg) (rows cols:Nat) (at_:P2) (l:List P2):P2:=((rsRow g cols at_ l:Int) - (tailS (rsAll g cols) (rsRow g cols at_ l) rows:Int),min (rsCol g cols at_ l:Int) (cols:Int))
def resizeL (g:Pg) (rows cols:Nat) (at_:P2) (l:List P2):List P2:=(rsP1 g cols at_ l).tail.map (tailQ rows (tailS (rsAll g cols) (rsRow g cols at_ l) rows))
theorem append_empty {P:Program} {t ty e:TypeId} {i:TypeInfo} (ht:P.underlying t = some (.slice e)) (hi:P.info? e = some i) (a:Addr) (n cap:Nat) (X:Option Addr) (c:Nat) (w:World) (hn:n ≤ cap) :
 (Builtin.append_ #[t,t] ty #[.slice (some a) n cap,.slice X 0 c]).run P w = .ok (.slice (some a) n cap) w:=by
 cases X <;> simp [Builtin.append_,run_underlying ht,sizeOf,typeInfo,hi,Builtin.lenOf,Builtin.firstCells,loadCells,loadCellsFrom,storeCells,hn]
theorem owns_pos1 {w:World} {g base:Nat} {p:P2} (h:w.heap[g]? = some (.cells #[.int .i64 p.1,.int .i64 p.2] 57 (0,0))) (hb:base ≤ g):w.ownsRow base 57 2 (.slice (some ⟨g,0,none⟩) 1 1) 1 (flat encP [p]) :=
 ⟨rfl,.inr ⟨g,1,_,rfl,hb,h,Nat.le_refl _,by simp [maxLen],rfl,rfl⟩⟩
theorem placeG_le (cols:Nat) (x:Int):∀ (G:List (List Ro)) (y out:Nat),(placeG cols x G y out).1 ≤ out + outN cols G G.length
 | [],y,out => by simp [placeG,outN]
 | g :: G,y,out => by
   rw [placeG,List.length_cons,outN_cons]
   split
   · have:=plP_fst_le (madeG cols g) (offP g y x)
     simp only;omega
   · have:=placeG_le cols x G (y - g.length) (out + (madeG cols g).length)
     omega
theorem reflowP_le (cols:Nat) (rows:List Ro) (p:Int × Int):(reflowP cols rows p).1 ≤ (reflowL cols rows).length:=by
 unfold reflowP
 have:=placeG_le cols (if p.1 < 0 then 0 else p.2) (groupsL rows) p.1.toNat 0
 rw [Nat.zero_add] at this
 unfold outN at this
 rw [List.take_length] at this
 exact this
section
variable {base:Nat} {w w1 w2:World} {q:Pv} {g g1:Pg}
theorem PgO.rescreen {vs':Value} {S':List Rh} {cols':Nat} (h:PgO base w q g) (hblk:w1.heap[q.P]? = some (.cells #[.pointer (some ⟨q.R,0,none⟩),vs',.int .i64 cols',.slice none 0 0] 91 (0,0)))
 (ho:w1.ownsRow base 50 2 vs' S'.length (flat encRh S')) (hm:Mod [q.P] w w1) (hv:∀ b,vs'.ownBlock = some b→w.heap.size ≤ b) (hr:∀ r ∈ S',RcAt w1 r∧r.cs.length = cols') (hc:2 ≤ cols') (hc2:cols' ≤ 1000) (hs:S'.length ≤ 1000) :
 PgRes base w q { g with scr:=S'.map roOf,cols:=cols',told:=[] } w1:=by
 have hX:NoCel w [q.P]:=fun b hb cs f he => by
  rw [List.mem_singleton.1 hb,h.blk] at he
  injection he with he
  injection he with _ ht
  exact absurd ht (by decide)
 have hR:∀ b ∈ ringX q.R q.vl,b ∉ [q.P]:=fun b hb hx => by
  rw [List.mem_singleton.1 hx] at hb
  rcases List.mem_cons.1 hb with hb | hb
  · exact block_ne h.blk h.ring.blk (by decide) hb
  · obtain ⟨cur,hc⟩:=own_block h.ring.own (Option.mem_toList.1 hb)
    exact block_ne h.blk hc (by decide) rfl
 refine ⟨{ q with vs:=vs',vt:=.slice none 0 0,S:=S' },rfl,rfl,⟨hblk,h.hb,h.ring.mod hm hX hR,ho,World.ownsRow_nil _ _ _ _,fun b hb hb2 => ?_,rfl,h.hist,hr,hc,hc2,hs,h.gone0⟩,hm.mono (fun b hb => by rw [List.mem_singleton.1 hb];simp [pgX]),fun b hb => ?_⟩
 · have h1:=hv b hb
   have h2:=(h.ring.own.lt b hb2).2
   omega
 · rcases List.mem_cons.1 hb with rfl | hb
   · exact .inl (by simp [pgX])
   rcases List.mem_append.1 hb with hb | hb
   · exact .inr (hv b (Option.mem_toList.1 hb))
   rcases List.mem_append.1 hb with hb | hb
   · simp [Value.ownBlock] at hb
   · exact .inl (by simp only [pgX,List.mem_cons,List.mem_append];exact .inr (.inr (.inr hb)))
theorem PgRes.fresh {k:Nat} {cur:Array Value} (h:PgRes base w q g1 w1) (hm:Mod [k] w1 w2) (hk:w.heap.size ≤ k) (ht:w1.heap[k]? = some (.cells cur 57 (0,0))):PgRes base w q g1 w2:=by
 obtain ⟨q1,e1,e2,hO,hm1,hx⟩:=h
 have hne:∀ b ∈ pgX q1,b ∉ [k]:=fun b hb hx => by
  rw [List.mem_singleton.1 hx] at hb
  rcases List.mem_cons.1 hb with hb | hb
  · exact block_ne hO.blk ht (by decide) hb.symm
  rcases List.mem_append.1 hb with hb | hb
  · obtain ⟨c,hc⟩:=own_block hO.own (Option.mem_toList.1 hb)
    exact block_ne hc ht (by decide) rfl
  rcases List.mem_append.1 hb with hb | hb
  · obtain ⟨c,hc⟩:=own_block hO.told (Option.mem_toList.1 hb)
    exact block_ne hc ht (by decide) rfl
  rcases List.mem_cons.1 hb with hb | hb
  · exact block_ne hO.ring.blk ht (by decide) hb.symm
  · obtain ⟨c,hc⟩:=own_block hO.ring.own (Option.mem_toList.1 hb)
    exact block_ne hc ht (by decide) rfl
 refine ⟨q1,e1,e2,hO.mod hm (fun b hb cs f he => ?_) hne,hm1.trans hm (fun x hx => ?_),hx⟩
 · rw [List.mem_singleton.1 hb] at he
   exact block_ne ht he (by decide) rfl
 · rw [List.mem_singleton.1 hx];exact .inr hk
end
end Go.Proofs.YtffdblmdelgkaaaGreat
