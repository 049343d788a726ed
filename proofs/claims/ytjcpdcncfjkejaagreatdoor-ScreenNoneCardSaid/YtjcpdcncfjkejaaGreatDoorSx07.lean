/- Joined by a tool of this claim out of smaller texts. Conditions: as stated. -/
import Derived.Test.YtjcpdcncfjkejaaGreatDoorSx06
import Derived.Lib.Strings
import Derived.Lib.Slices
import Derived.Lib.Small
import Derived.Lib.Walk
import Derived.Laws.Bits64b
set_option linter.unusedVariables false
set_option linter.unusedSimpArgs false
set_option maxRecDepth 100000
open Go.Lib renaming hid → Hd
open Go.Proofs.Tryz renaming prog → jG
open Go.IntWalk renaming i64_in → jH
open Go.IntKind renaming i64 → jP
open Int renaming toNat_natCast → uJ
namespace Go.Proofs.YtjcpdcncfjkejaaGreatDoor
open Go.RowKit
theorem Wh:(⟨(([0,1,2,2,3,3,3,3,4,4,4,4,4,4,4,4,5,5,5,5,5,5,5,5,5,5,5,5,5,5,5,5,6,6,6,6,6,6,6,6,6,6,6,6,6,6,6,6,6,6,6,6,6,6,6,6,6,6,6,6,6,6,6,6].append [7,7,7,7,7,7,7,7,7,7,7,7,7,7,7,7,7,7,7,7,7,7,7,7,7,7,7,7,7,7,7,7,7,7,7,7,7,7,7,7,7,7,7,7,7,7,7,7,7,7,7,7,7,7,7,7,7,7,7,7,7,7,7,7]).append ([8,8,8,8,8,8,8,8,8,8,8,8,8,8,8,8,8,8,8,8,8,8,8,8,8,8,8,8,8,8,8,8,8,8,8,8,8,8,8,8,8,8,8,8,8,8,8,8,8,8,8,8,8,8,8,8,8,8,8,8,8,8,8,8].append [8,8,8,8,8,8,8,8,8,8,8,8,8,8,8,8,8,8,8,8,8,8,8,8,8,8,8,8,8,8,8,8,8,8,8,8,8,8,8,8,8,8,8,8,8,8,8,8,8,8,8,8,8,8,8,8,8,8,8,8,8,8,8,8])).toArray⟩:ByteArray)=Lib.len8tab:=by kernel_rfl
theorem Zy(i:Int)(h0:0≤i)(h1:i≤255)(h:i.toNat<Lib.len8tab.size):((Lib.len8tab[i.toNat]'h).toNat:Int)=(Lib.bitLen i.toNat:Int):=by
 rw[←Lib.len8_of i h0 h1];unfold Lib.len8;rw[ByteArray.getElem?_lt' _ _ h];rfl
set_option maxHeartbeats 4000000 in
theorem XW(x:Int)(w:World)(h0:0≤x)(h1:x≤18446744073709551615):
 Calls jG 285 #[.int .u64 x] w fun e w'=>e=.returned (.int .i64 (Lib.bitLen x.toNat))∧w'=w:=by
 have hz:∀y:Int,0≤y→y<256→y<(Lib.len8tab.size:Int):=fun y _ h=>by rw[Lib.len8tab_size];omega
 have g1:=hz (x/4294967296/65536/256%256) qJ qJ;have g2:=hz (x/4294967296/65536%256) qJ qJ;have g3:=hz (x/4294967296/256%256) qJ qJ;have g4:=hz (x/4294967296%256) qJ qJ;have g5:=hz (x/65536/256%256) qJ qJ;have g6:=hz (x/65536%256) qJ qJ;have g7:=hz (x/256%256) qJ qJ;have g8:=hz (x%256) qJ qJ;clear hz
 go_enter Tryz.func285,Tryz.ntmps285
 simp only[Wh]
 go_wp2
 all_goals clear g1 g2 g3 g4 g5 g6 g7 g8
 all_goals(go_ret;refine⟨congrArg Ending.returned (congrArg (Value.int jP) ?_),rfl⟩)
 all_goals first
  |(rw[Zy (x/4294967296/65536/256) qJ qJ]
    rename_i hsz
    clear hsz;have e:(x/4294967296/65536/256).toNat=x.toNat/72057594037927936:=by omega
    have l:=Lib.bitLen_le8' (x/4294967296/65536/256) qJ qJ;have s:=Lib.bitLen_shift56 x.toNat qJ qJ;rw[e]at l ⊢;unfold wrap64;omega)
  |(rw[Zy (x/4294967296/65536) qJ qJ]
    rename_i hsz
    clear hsz;have e:(x/4294967296/65536).toNat=x.toNat/281474976710656:=by omega
    have l:=Lib.bitLen_le8' (x/4294967296/65536) qJ qJ;have s:=Lib.bitLen_shift48 x.toNat qJ qJ;rw[e]at l ⊢;unfold wrap64;omega)
  |(rw[Zy (x/4294967296/256) qJ qJ]
    rename_i hsz
    clear hsz;have e:(x/4294967296/256).toNat=x.toNat/1099511627776:=by omega
    have l:=Lib.bitLen_le8' (x/4294967296/256) qJ qJ;have s:=Lib.bitLen_shift40 x.toNat qJ qJ;rw[e]at l ⊢;unfold wrap64;omega)
  |(rw[Zy (x/4294967296) qJ qJ]
    rename_i hsz
    clear hsz;have e:(x/4294967296).toNat=x.toNat/4294967296:=by omega
    have l:=Lib.bitLen_le8' (x/4294967296) qJ qJ;have s:=Lib.bitLen_shift32 x.toNat qJ qJ;rw[e]at l ⊢;unfold wrap64;omega)
  |(rw[Zy (x/65536/256) qJ qJ]
    rename_i hsz
    clear hsz;have e:(x/65536/256).toNat=x.toNat/16777216:=by omega
    have l:=Lib.bitLen_le8' (x/65536/256) qJ qJ;have s:=Lib.bitLen_shift24 x.toNat qJ qJ;rw[e]at l ⊢;unfold wrap64;omega)
  |(rw[Zy (x/65536) qJ qJ]
    rename_i hsz
    clear hsz;have e:(x/65536).toNat=x.toNat/65536:=by omega
    have l:=Lib.bitLen_le8' (x/65536) qJ qJ;have s:=Lib.bitLen_shift16 x.toNat qJ qJ;rw[e]at l ⊢;unfold wrap64;omega)
  |(rw[Zy (x/256) qJ qJ]
    rename_i hsz
    clear hsz;have e:(x/256).toNat=x.toNat/256:=by omega
    have l:=Lib.bitLen_le8' (x/256) qJ qJ;have s:=Lib.bitLen_shift8 x.toNat qJ qJ;rw[e]at l ⊢;unfold wrap64;omega)
  |(rw[Zy x qJ qJ]
    rename_i hsz
    clear hsz;have l:=Lib.bitLen_le8' x qJ qJ;unfold wrap64;omega)
theorem UI(x:Nat)(w:World)(h1:x<18446744073709551616):Calls jG 262 #[.int .u64 x] w fun e w'=>e=.returned (.int .i64 (64-(Lib.bitLen x:Int)))∧w'=w:=by
 have HL:=Hd (XW (x:Int) w qJ qJ);rw[uJ]at HL;have hle:=Lib.bitLen_le x 64 qJ h1;have hw:jP.wrap (64-(Lib.bitLen x:Int))=64-(Lib.bitLen x:Int):=jH _ qJ;generalize Lib.bitLen x=b at HL hw ⊢;clear hle h1
 go_enter Tryz.func262,Tryz.ntmps262
 go_wp2_with(go_at_call 285;(with_reducible refine HL.o.mono ?_);rintro e w1 ⟨rfl,rfl⟩)
 go_ret
 exact⟨rfl,rfl⟩
theorem VZ(w:World):oS w:=fun x w' hx _=>UI x w' hx
def TabZ(w:World):Prop:=∀j,j<64→w.cell? ⟨0,j,none⟩=some (.int .u8 (Lib.deBruijn64tab.getD j 0))
theorem tz_key(x a:Nat)(hx:x<18446744073709551616)(hx0:x≠0)(hlow:x &&& (18446744073709551616-x)=a):
 IntKind.u64.wrap (bits BinOp.and IntKind.u64 (x:Int) (IntKind.u64.wrap (-(x:Int)))*285870213051353865)/288230376151711744=((a*285870213051353865%18446744073709551616/288230376151711744:Nat):Int):=by
 have e1:IntKind.u64.wrap (-(x:Int))=((18446744073709551616-x:Nat):Int):=by rw[IntKind.wrap_u64];omega
 rw[e1,u64_and_nat x _ hx qJ,hlow,IntKind.wrap_u64];omega
set_option maxHeartbeats 1600000 in
theorem tz_core(x k idx:Nat)(w:World)(hx0:((x:Int)==0)=false)
 (key:IntKind.u64.wrap (bits BinOp.and IntKind.u64 (x:Int) (IntKind.u64.wrap (-(x:Int)))*285870213051353865)/288230376151711744=(idx:Int))
 (hi:idx<64) (hk:k<64) (hcell:w.cell? ⟨0,idx,none⟩=some (.int .u8 k)):
 Calls jG 261 #[.int .u64 x] w fun e w'=>e=.returned (.int .i64 k)∧w'=w:=by
 go_enter Tryz.func261,Tryz.ntmps261
 go_wp2_with(simp only[key])
 go_ret
 exact⟨rfl,rfl⟩
theorem tz_zero(w:World):Calls jG 261 #[.int .u64 0] w fun e w'=>e=.returned (.int .i64 64)∧w'=w:=by
 go_enter Tryz.func261,Tryz.ntmps261
 go_wp2
 go_ret
 exact⟨rfl,rfl⟩
theorem aY{w:World}(hT:TabZ w):eN w:=fun x w' hx hb=>by
 by_cases hx0:x=0
 · subst hx0;exact tz_zero w'
 · obtain⟨hlow,hk⟩:=Lib.lowest_bit 64 x hx0 hx;obtain⟨hi,htab⟩:=Lib.deBruijn64_at _ hk;have hcell:=jA hb (hT _ hi);rw[htab]at hcell;exact tz_core x _ _ w' qW (tz_key x _ hx hx0 hlow) hi hk hcell
end Go.Proofs.YtjcpdcncfjkejaaGreatDoor
