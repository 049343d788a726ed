/- Joined by a tool of this claim out of smaller texts. Conditions: as stated. -/
import Derived.Test.YtaefcahblmopfaaGreatDoorDp16
set_option linter.unusedVariables false
set_option linter.unusedSimpArgs false
set_option maxRecDepth 100000
open Go.Lib renaming hid → Hd
namespace Go.Proofs.YtaefcahblmopfaaGreatDoor
open Go.RowKit
def sizeC (c:Int):Int:=if c < 128 then 1 else if c < 224 then 2 else if c < 240 then 3 else 4
def loC (c:Int):Int:=if c = 224 then 160 else if c = 240 then 144 else 128
def hiC (c:Int):Int:=if c = 237 then 159 else if c = 244 then 143 else 191
theorem usize_any (c:Int) (h:0 ≤ c∧c < 128 ∨ 194 ≤ c∧c ≤ 244) (w:World):Calls Tryz.prog 176 #[.int .u8 c] w fun e w' => e = .returned (.int .i64 (sizeC c))∧w = w':=by
 unfold sizeC
 by_cases h1:c < 128
 · rw [if_pos h1]
   go_enter Tryz.func176,Tryz.ntmps176
   go_wp2
   go_ret
   exact ⟨rfl,rfl⟩
 rw [if_neg h1]
 have h1':128 ≤ c:=by omega
 have h2':¬ c < 194:=by omega
 have h3':¬ 244 < c:=by omega
 by_cases h2:c < 224
 · rw [if_pos h2]
   go_enter Tryz.func176,Tryz.ntmps176
   go_wp2
   go_ret
   exact ⟨rfl,rfl⟩
 rw [if_neg h2]
 have h2b:224 ≤ c:=by omega
 by_cases h3:c < 240
 · rw [if_pos h3]
   go_enter Tryz.func176,Tryz.ntmps176
   go_wp2
   go_ret
   exact ⟨rfl,rfl⟩
 rw [if_neg h3]
 have h3b:240 ≤ c:=by omega
 go_enter Tryz.func176,Tryz.ntmps176
 go_wp2
 go_ret
 exact ⟨rfl,rfl⟩
theorem ubounds_any (c:Int) (w:World):Calls Tryz.prog 177 #[.int .u8 c] w fun e w' => e = .returned (.tuple #[.int .u8 (loC c),.int .u8 (hiC c)])∧w = w':=by
 unfold loC hiC
 by_cases h1:c = 224
 · subst h1
   go_enter Tryz.func177,Tryz.ntmps177
   go_wp2
   go_ret2
   exact ⟨rfl,rfl⟩
 by_cases h2:c = 237
 · subst h2
   go_enter Tryz.func177,Tryz.ntmps177
   go_wp2
   go_ret2
   exact ⟨rfl,rfl⟩
 by_cases h3:c = 240
 · subst h3
   go_enter Tryz.func177,Tryz.ntmps177
   go_wp2
   go_ret2
   exact ⟨rfl,rfl⟩
 by_cases h4:c = 244
 · subst h4
   go_enter Tryz.func177,Tryz.ntmps177
   go_wp2
   go_ret2
   exact ⟨rfl,rfl⟩
 rw [if_neg h1,if_neg h3,if_neg h2,if_neg h4]
 go_enter Tryz.func177,Tryz.ntmps177
 go_wp2
 go_ret2
 exact ⟨rfl,rfl⟩
theorem gb_refl (w:World) (r:Option Nat):w.grownBy w r:=⟨rfl,rfl,rfl,Nat.le_refl _,fun _ _ _ => rfl⟩
theorem gb_set {w w':World} {b i:Nat} (h:w.grownBy w' (some b)) (v:Value):w.grownBy (w'.setCell ⟨b,i,none⟩ v) (some b) :=
 ⟨h.os,h.tape,h.output,by rw [show (w'.setCell ⟨b,i,none⟩ v).heap.size = w'.heap.size from by simp [World.setCell]];exact h.size,fun k hk hne => (Below.heap_setCell w' _ v k (by intro e;exact hne (by simp [e]))).trans (h.block k hk hne)⟩
theorem gb_alloc {w w':World} {r:Option Nat} (h:w.grownBy w' r) (o:Obj):w.grownBy (w'.alloc o) r :=
 ⟨h.os,h.tape,h.output,by simp;have:=h.size;omega,fun k hk hne => (Below.heap_alloc w' o k (by have:=h.size;omega)).trans (h.block k hk hne)⟩
theorem gb_trans {a b c:World} {r:Option Nat} (h:a.grownBy b r) (k:b.grownBy c r):a.grownBy c r :=
 ⟨k.os.trans h.os,k.tape.trans h.tape,k.output.trans h.output,Nat.le_trans h.size k.size,fun i hi hne => (k.block i (by have:=h.size;omega) hne).trans (h.block i hi hne)⟩
def DecAt (w:World) (b:Nat) (d:Dk):Prop :=
 ((w.cell? ⟨b,0,none⟩ = some (.int .i32 d.n)∧w.frozen? ⟨b,0,none⟩ = false)∧(w.cell? ⟨b,1,none⟩ = some (.int .i64 d.need)∧w.frozen? ⟨b,1,none⟩ = false)∧(w.cell? ⟨b,2,none⟩ = some (.int .i64 d.hv)∧w.frozen? ⟨b,2,none⟩ = false)∧(w.cell? ⟨b,3,none⟩ = some (.int .u8 d.lo)∧w.frozen? ⟨b,3,none⟩ = false)∧(w.cell? ⟨b,4,none⟩ = some (.int .u8 d.hi)∧w.frozen? ⟨b,4,none⟩ = false))
def OneAt (w':World) (lo:Nat) (v:Value):Option Int→Prop
 | none => v = .slice none 0 0
 | some r => ∃ g,v = .slice (some ⟨g,0,none⟩) 1 1∧lo ≤ g∧w'.heap[g]? = some (.cells #[.int .i32 r] 21 (0,0))
def StepPost (b:Nat) (x:Option Int × Dk) (w:World) (e:Ending) (w':World):Prop:=∃ v,e = .returned v∧OneAt w' w.heap.size v x.1∧DecAt w' b x.2∧w.grownBy w' (some b)
theorem DecAt.lt {w:World} {b:Nat} {d:Dk} (h:DecAt w b d):b < w.heap.size:=lt_of_cell h.1.1
theorem DecAt.grown {w w':World} {b:Nat} {d:Dk} (h:DecAt w b d) (hb:Below w.heap.size w w'):DecAt w' b d:=by
 obtain ⟨h0,h1,h2,h3,h4⟩:=h
 exact ⟨hold hb h0,hold hb h1,hold hb h2,hold hb h3,hold hb h4⟩
theorem DecAt.set0 {w:World} {b:Nat} {d:Dk} (h:DecAt w b d) (x:Int):DecAt (w.setCell ⟨b,0,none⟩ (.int .i32 x)) b { d with n:=x }:=by
 obtain ⟨h0,h1,h2,h3,h4⟩:=h
 exact ⟨set_self h0,hold_set h1 (.inr (by decide)),hold_set h2 (.inr (by decide)),hold_set h3 (.inr (by decide)),hold_set h4 (.inr (by decide))⟩
theorem DecAt.set1 {w:World} {b:Nat} {d:Dk} (h:DecAt w b d) (x:Int):DecAt (w.setCell ⟨b,1,none⟩ (.int .i64 x)) b { d with need:=x }:=by
 obtain ⟨h0,h1,h2,h3,h4⟩:=h
 exact ⟨hold_set h0 (.inr (by decide)),set_self h1,hold_set h2 (.inr (by decide)),hold_set h3 (.inr (by decide)),hold_set h4 (.inr (by decide))⟩
theorem DecAt.set2 {w:World} {b:Nat} {d:Dk} (h:DecAt w b d) (x:Int):DecAt (w.setCell ⟨b,2,none⟩ (.int .i64 x)) b { d with hv:=x }:=by
 obtain ⟨h0,h1,h2,h3,h4⟩:=h
 exact ⟨hold_set h0 (.inr (by decide)),hold_set h1 (.inr (by decide)),set_self h2,hold_set h3 (.inr (by decide)),hold_set h4 (.inr (by decide))⟩
theorem DecAt.set3 {w:World} {b:Nat} {d:Dk} (h:DecAt w b d) (x:Int):DecAt (w.setCell ⟨b,3,none⟩ (.int .u8 x)) b { d with lo:=x }:=by
 obtain ⟨h0,h1,h2,h3,h4⟩:=h
 exact ⟨hold_set h0 (.inr (by decide)),hold_set h1 (.inr (by decide)),hold_set h2 (.inr (by decide)),set_self h3,hold_set h4 (.inr (by decide))⟩
theorem DecAt.set4 {w:World} {b:Nat} {d:Dk} (h:DecAt w b d) (x:Int):DecAt (w.setCell ⟨b,4,none⟩ (.int .u8 x)) b { d with hi:=x }:=by
 obtain ⟨h0,h1,h2,h3,h4⟩:=h
 exact ⟨hold_set h0 (.inr (by decide)),hold_set h1 (.inr (by decide)),hold_set h2 (.inr (by decide)),hold_set h3 (.inr (by decide)),set_self h4⟩
theorem and_masks:∀ f:Fin 256,bits .and .i32 (f.val:Int) 31 = (f.val:Int) % 32∧bits .and .i32 (f.val:Int) 15 = (f.val:Int) % 16∧bits .and .i32 (f.val:Int) 7 = (f.val:Int) % 8:=by decide +kernel
theorem and_mask (c:Int) (h0:0 ≤ c) (h1:c < 256):bits .and .i32 c 31 = c % 32∧bits .and .i32 c 15 = c % 16∧bits .and .i32 c 7 = c % 8:=by
 have:=and_masks ⟨c.toNat,by omega⟩
 rwa [show (((⟨c.toNat,by omega⟩:Fin 256).val:Nat):Int) = c from by show ((c.toNat:Nat):Int) = c;omega] at this
set_option maxHeartbeats 1600000 in
theorem ubegin_any (b:Nat) (d:Dk) (c:Int) (w:World) (hd:DecAt w b d) (h:0 ≤ c∧c < 128 ∨ 194 ≤ c∧c ≤ 244) :
 Calls Tryz.prog 117 #[.pointer (some ⟨b,0,none⟩),.int .u8 c] w (StepPost b (if c < 128 then (some c,d) else (none,leadD c)) w):=by
 have HS:=Hd (fun w => usize_any c h w)
 have HB:=Hd (fun w => ubounds_any c w)
 have HD:=Hd hd
 obtain ⟨h0,h1,h2,h3,h4⟩:=hd
 have c0:=h0.1
 have c1:=h1.1
 have c2:=h2.1
 have c3:=h3.1
 have c4:=h4.1
 have f0:=h0.2
 have f1:=h1.2
 have f2:=h2.2
 have f3:=h3.2
 have f4:=h4.2
 have hw:IntKind.i32.wrap c = c:=IntWalk.i32_in _ (by omega)
 by_cases hA:c < 128
 · rw [if_pos hA]
   rw [show sizeC c = 1 from if_pos hA] at HS
   clear hw h0 h1 h2 h3 h4
   go_enter Tryz.func117,Tryz.ntmps117
   go_wp2_with (go_at_call 176;(with_reducible refine (HS.out _).mono ?_);rintro e w1 ⟨rfl,rfl⟩)
   go_ret
   exact ⟨_,rfl,⟨w.heap.size,rfl,Nat.le_refl _,hp_new rfl⟩,HD.out.grown ((Below.refl _ w).alloc (Nat.le_refl _) _),gb_alloc (gb_refl _ _) _⟩
 · rw [if_neg hA]
   have hc0:¬ c < 0:=by omega
   have hcc:194 ≤ c∧c ≤ 244:=by omega
   have hM:=and_mask c (by omega) (by omega)
   by_cases hB:c < 224
   · rw [show sizeC c = 2 from by unfold sizeC;rw [if_neg hA,if_pos hB]] at HS
     have HL:=Hd (show leadD c = ⟨bits .and .i32 c 31,1,1,loC c,hiC c⟩ from by unfold leadD loC hiC;rw [if_pos hB,hM.1];rw [if_neg (by omega),if_neg (by omega),if_neg (by omega),if_neg (by omega)])
     generalize leadD c = L at HL ⊢
     generalize loC c = lc at HL HB
     generalize hiC c = hc at HL HB
     clear hM
     go_enter Tryz.func117,Tryz.ntmps117
     go_wp2_with (first | (go_at_call 176;(with_reducible refine (HS.out _).mono ?_);rintro e w1 ⟨rfl,rfl⟩) | (go_at_call 177;(with_reducible refine (HB.out _).mono ?_);rintro e w1 ⟨rfl,rfl⟩))
     go_ret
     rw [HL.out]
     exact ⟨_,rfl,rfl,((((HD.out.set0 _).set1 _).set2 _).set3 _).set4 _,gb_set (gb_set (gb_set (gb_set (gb_set (gb_refl _ _) _) _) _) _) _⟩
   by_cases hC:c < 240
   · rw [show sizeC c = 3 from by unfold sizeC;rw [if_neg hA,if_neg hB,if_pos hC]] at HS
     have HL:=Hd (show leadD c = ⟨bits .and .i32 c 15,2,1,loC c,hiC c⟩ from by unfold leadD loC hiC;rw [if_neg hB,if_pos hC,hM.2.1];rw [if_neg (show ¬ c = 240 by omega),if_neg (show ¬ c = 244 by omega)])
     generalize leadD c = L at HL ⊢
     generalize loC c = lc at HL HB
     generalize hiC c = hc at HL HB
     clear hM
     go_enter Tryz.func117,Tryz.ntmps117
     go_wp2_with (first | (go_at_call 176;(with_reducible refine (HS.out _).mono ?_);rintro e w1 ⟨rfl,rfl⟩) | (go_at_call 177;(with_reducible refine (HB.out _).mono ?_);rintro e w1 ⟨rfl,rfl⟩))
     go_ret
     rw [HL.out]
     exact ⟨_,rfl,rfl,((((HD.out.set0 _).set1 _).set2 _).set3 _).set4 _,gb_set (gb_set (gb_set (gb_set (gb_set (gb_refl _ _) _) _) _) _) _⟩
   rw [show sizeC c = 4 from by unfold sizeC;rw [if_neg hA,if_neg hB,if_neg hC]] at HS
   have HL:=Hd (show leadD c = ⟨bits .and .i32 c 7,3,1,loC c,hiC c⟩ from by unfold leadD loC hiC;rw [if_neg hB,if_neg hC,hM.2.2];rw [if_neg (show ¬ c = 224 by omega),if_neg (show ¬ c = 237 by omega)])
   generalize leadD c = L at HL ⊢
   generalize loC c = lc at HL HB
   generalize hiC c = hc at HL HB
   clear hM
   go_enter Tryz.func117,Tryz.ntmps117
   go_wp2_with (first | (go_at_call 176;(with_reducible refine (HS.out _).mono ?_);rintro e w1 ⟨rfl,rfl⟩) | (go_at_call 177;(with_reducible refine (HB.out _).mono ?_);rintro e w1 ⟨rfl,rfl⟩))
   go_ret
   rw [HL.out]
   exact ⟨_,rfl,rfl,((((HD.out.set0 _).set1 _).set2 _).set3 _).set4 _,gb_set (gb_set (gb_set (gb_set (gb_set (gb_refl _ _) _) _) _) _) _⟩
theorem usizeG_any (c:Int) (w:World):Calls Tryz.prog 176 #[.int .u8 c] w fun e w' => e = .returned (.int .i64 (sizeB c))∧w = w':=by
 unfold sizeB
 by_cases h1:c < 128
 · rw [if_pos h1]
   go_enter Tryz.func176,Tryz.ntmps176
   go_wp2
   go_ret
   exact ⟨rfl,rfl⟩
 rw [if_neg h1]
 have h1':128 ≤ c:=by omega
 by_cases h2:c < 194
 · rw [if_pos (.inl h2)]
   go_enter Tryz.func176,Tryz.ntmps176
   go_wp2
   go_ret
   exact ⟨rfl,rfl⟩
 by_cases h3:244 < c
 · rw [if_pos (.inr h3)]
   go_enter Tryz.func176,Tryz.ntmps176
   go_wp2
   go_ret
   exact ⟨rfl,rfl⟩
 rw [if_neg (by omega)]
 by_cases h4:c < 224
 · rw [if_pos h4]
   go_enter Tryz.func176,Tryz.ntmps176
   go_wp2
   go_ret
   exact ⟨rfl,rfl⟩
 rw [if_neg h4]
 have h4':224 ≤ c:=by omega
 by_cases h5:c < 240
 · rw [if_pos h5]
   go_enter Tryz.func176,Tryz.ntmps176
   go_wp2
   go_ret
   exact ⟨rfl,rfl⟩
 rw [if_neg h5]
 have h5':240 ≤ c:=by omega
 go_enter Tryz.func176,Tryz.ntmps176
 go_wp2
 go_ret
 exact ⟨rfl,rfl⟩
section
variable {w:World} {v:Zv} {p:Pz}
theorem ParB.d0 (h:ParB w v p) (x:Int):ParB (w.setCell ⟨v.P,9,none⟩ (.int .i32 x)) v { p with dec:={ p.dec with n:=x } }:=h.put 9 _ rfl rfl
theorem ParB.d1 (h:ParB w v p) (x:Int):ParB (w.setCell ⟨v.P,10,none⟩ (.int .i64 x)) v { p with dec:={ p.dec with need:=x } }:=h.put 10 _ rfl rfl
theorem ParB.d2 (h:ParB w v p) (x:Int):ParB (w.setCell ⟨v.P,11,none⟩ (.int .i64 x)) v { p with dec:={ p.dec with hv:=x } }:=h.put 11 _ rfl rfl
theorem ParB.d3 (h:ParB w v p) (x:Int):ParB (w.setCell ⟨v.P,12,none⟩ (.int .u8 x)) v { p with dec:={ p.dec with lo:=x } }:=h.put 12 _ rfl rfl
theorem ParB.d4 (h:ParB w v p) (x:Int):ParB (w.setCell ⟨v.P,13,none⟩ (.int .u8 x)) v { p with dec:={ p.dec with hi:=x } }:=h.put 13 _ rfl rfl
theorem owns_lit {w:World} {lo n size:Nat} {ty:TypeId} {cs:List Value} (hl:cs.length = n * size) (hlo:lo ≤ w.heap.size) (hn:n ≤ maxLen):(w.alloc (.cells cs.toArray ty)).ownsRow lo ty size (.slice (some ⟨w.heap.size,0,none⟩) n n) n cs :=
 ⟨hl,.inr ⟨w.heap.size,n,_,rfl,hlo,hp_new rfl,Nat.le_refl _,hn,by simp [hl],by rw [← hl];exact List.take_length⟩⟩
def RsAt (w':World) (lo:Nat) (u:Value) (rs:List Int):Prop:=w'.ownsRow lo 21 1 u rs.length (rs.map (.int .i32))
def DecPost (v:Zv) (p:Pz) (x:List Int × Dk) (w:World) (e:Ending) (w':World):Prop:=∃ u,e = .returned u∧RsAt w' w.heap.size u x.1∧ParB w' v { p with dec:=x.2 }∧w.grownBy w' (some v.P)
theorem rs_one {w:World} {r:Int} {lo:Nat} (h:lo ≤ w.heap.size):RsAt (w.alloc (.cells #[.int .i32 r] 21)) lo (.slice (some ⟨w.heap.size,0,none⟩) 1 1) [r]:=owns_lit (n:=1) (cs:=[.int .i32 r]) rfl h (by unfold maxLen;omega)
theorem rs_nil (w:World) (lo:Nat):RsAt w lo (.slice none 0 0) []:=World.ownsRow_nil w lo 21 1
set_option maxHeartbeats 1600000 in
theorem zbegin_any (h:ParB w v p) (c:Int) (hc:0 ≤ c∧c ≤ 255) :
 Calls Tryz.prog 117 #[.pointer (some ⟨v.P,9,none⟩),.int .u8 c] w (DecPost v p (beginD p.dec c) w):=by
 have HS:=Hd (fun w => usizeG_any c w)
 have HB:=Hd (fun w => ubounds_any c w)
 have HD:=Hd h
 obtain ⟨c0,f0⟩:=at_ h 9 (.int .i32 p.dec.n) rfl
 obtain ⟨c1,f1⟩:=at_ h 10 (.int .i64 p.dec.need) rfl
 obtain ⟨c2,f2⟩:=at_ h 11 (.int .i64 p.dec.hv) rfl
 obtain ⟨c3,f3⟩:=at_ h 12 (.int .u8 p.dec.lo) rfl
 obtain ⟨c4,f4⟩:=at_ h 13 (.int .u8 p.dec.hi) rfl
 have hw:IntKind.i32.wrap c = c:=IntWalk.i32_in _ (by omega)
 clear h
 unfold beginD
 by_cases hz:sizeB c = 0
 · rw [if_pos hz]
   rw [hz] at HS
   clear hz
   go_enter Tryz.func117,Tryz.ntmps117
   go_wp2_with (go_at_call 176;(with_reducible refine (HS.out _).mono ?_);rintro e w1 ⟨rfl,rfl⟩)
   go_ret
   exact ⟨_,rfl,rs_one (Nat.le_refl _),HD.out.below ((Below.refl _ w).alloc (Nat.le_refl _) _),gb_alloc (gb_refl _ _) _⟩
 rw [if_neg hz]
 by_cases ho:sizeB c = 1
 · rw [if_pos ho]
   rw [ho] at HS
   clear hz ho
   go_enter Tryz.func117,Tryz.ntmps117
   go_wp2_with (go_at_call 176;(with_reducible refine (HS.out _).mono ?_);rintro e w1 ⟨rfl,rfl⟩)
   go_ret
   exact ⟨_,rfl,rs_one (Nat.le_refl _),HD.out.below ((Below.refl _ w).alloc (Nat.le_refl _) _),gb_alloc (gb_refl _ _) _⟩
 rw [if_neg ho]
 have hM:=and_mask c (by omega) (by omega)
 have hc1:194 ≤ c∧c ≤ 244:=by
  unfold sizeB at hz ho
  constructor
  · rcases Int.lt_or_le c 128 with h | h
    · exact absurd (if_pos h) ho
    · rcases Int.lt_or_le c 194 with h2 | h2
      · exact absurd (by rw [if_neg (by omega),if_pos (.inl h2)]) hz
      · exact h2
  · rcases Int.lt_or_le 244 c with h2 | h2
    · exact absurd (by rw [if_neg (by omega),if_pos (.inr h2)]) hz
    · exact h2
 have hA:¬ c < 128:=by omega
 have hA2:¬ (c < 194 ∨ 244 < c):=by omega
 clear hz ho
 by_cases hB:c < 224
 · rw [show sizeB c = 2 from by unfold sizeB;rw [if_neg hA,if_neg hA2,if_pos hB]] at HS
   have HL:=Hd (show leadD c = ⟨bits .and .i32 c 31,1,1,loC c,hiC c⟩ from by unfold leadD loC hiC;rw [if_pos hB,hM.1];rw [if_neg (by omega),if_neg (by omega),if_neg (by omega),if_neg (by omega)])
   generalize leadD c = L at HL ⊢
   generalize loC c = lc at HL HB
   generalize hiC c = hc at HL HB
   clear hM hA2
   go_enter Tryz.func117,Tryz.ntmps117
   go_wp2_with (first | (go_at_call 176;(with_reducible refine (HS.out _).mono ?_);rintro e w1 ⟨rfl,rfl⟩) | (go_at_call 177;(with_reducible refine (HB.out _).mono ?_);rintro e w1 ⟨rfl,rfl⟩))
   go_ret
   rw [HL.out]
   exact ⟨_,rfl,rs_nil _ _,((((HD.out.d0 _).d1 _).d2 _).d3 _).d4 _,gb_set (gb_set (gb_set (gb_set (gb_set (gb_refl _ _) _) _) _) _) _⟩
 by_cases hC:c < 240
 · rw [show sizeB c = 3 from by unfold sizeB;rw [if_neg hA,if_neg hA2,if_neg hB,if_pos hC]] at HS
   have HL:=Hd (show leadD c = ⟨bits .and .i32 c 15,2,1,loC c,hiC c⟩ from by unfold leadD loC hiC;rw [if_neg hB,if_pos hC,hM.2.1];rw [if_neg (show ¬ c = 240 by omega),if_neg (show ¬ c = 244 by omega)])
   generalize leadD c = L at HL ⊢
   generalize loC c = lc at HL HB
   generalize hiC c = hc at HL HB
   clear hM hA2
   go_enter Tryz.func117,Tryz.ntmps117
   go_wp2_with (first | (go_at_call 176;(with_reducible refine (HS.out _).mono ?_);rintro e w1 ⟨rfl,rfl⟩) | (go_at_call 177;(with_reducible refine (HB.out _).mono ?_);rintro e w1 ⟨rfl,rfl⟩))
   go_ret
   rw [HL.out]
   exact ⟨_,rfl,rs_nil _ _,((((HD.out.d0 _).d1 _).d2 _).d3 _).d4 _,gb_set (gb_set (gb_set (gb_set (gb_set (gb_refl _ _) _) _) _) _) _⟩
 rw [show sizeB c = 4 from by unfold sizeB;rw [if_neg hA,if_neg hA2,if_neg hB,if_neg hC]] at HS
 have HL:=Hd (show leadD c = ⟨bits .and .i32 c 7,3,1,loC c,hiC c⟩ from by unfold leadD loC hiC;rw [if_neg hB,if_neg hC,hM.2.2];rw [if_neg (show ¬ c = 224 by omega),if_neg (show ¬ c = 237 by omega)])
 generalize leadD c = L at HL ⊢
 generalize loC c = lc at HL HB
 generalize hiC c = hc at HL HB
 clear hM hA2
 go_enter Tryz.func117,Tryz.ntmps117
 go_wp2_with (first | (go_at_call 176;(with_reducible refine (HS.out _).mono ?_);rintro e w1 ⟨rfl,rfl⟩) | (go_at_call 177;(with_reducible refine (HB.out _).mono ?_);rintro e w1 ⟨rfl,rfl⟩))
 go_ret
 rw [HL.out]
 exact ⟨_,rfl,rs_nil _ _,((((HD.out.d0 _).d1 _).d2 _).d3 _).d4 _,gb_set (gb_set (gb_set (gb_set (gb_set (gb_refl _ _) _) _) _) _) _⟩
end
section
variable {base:Nat} {w:World} {v:Zv} {p:Pz}
theorem ParB.puts {v':Zv} {p':Pz} (h:ParB w v p) (o:Nat) (vs:List Value) (ho:o + vs.length ≤ 14) (hP:v'.P = v.P) (he:(encPz p v).take o ++ (vs ++ (encPz p v).drop (o + vs.length)) = encPz p' v'):ParB (w.setCells v.P o vs) v' p':=by
 unfold ParB
 rw [hP,← he]
 exact whole_setCells vs o _ w h (by show _ ≤ 14;exact ho)
def PzPost (base:Nat) (w:World) (v:Zv) (p':Pz) (e:Ending) (w':World):Prop:=e = .returned (.tuple #[])∧PzRes base w v p' w'
def noRows (v:Zv):Zv:={ v with r:=fun _ => .slice none 0 0 }
def heldL (wrong:Bool):List Value:=[.int .u8 0,.slice none 0 0,.slice none 0 0,.slice none 0 0,.int .u8 0,.bool wrong,.bool false]
theorem rows_none {v:Zv} {p p':Pz} (h0:p'.head = []) (h1:p'.inter = []) (h2:p'.text = []):∀ k,k < 3→((noRows v).r k = v.r k∧p'.r k = p.r k) ∨ ((noRows v).r k = .slice none 0 0∧p'.r k = []):=fun k hk => .inr ⟨rfl,by
 match k,hk with
 | 0,_ => exact h0
 | 1,_ => exact h1
 | 2,_ => exact h2⟩
theorem ParB.facts (h:ParB w v p):(w.cell? ⟨v.P,0,none⟩ = some (.int .u8 p.pre)∧w.frozen? ⟨v.P,0,none⟩ = false)∧(w.cell? ⟨v.P,1,none⟩ = some (v.r 0)∧w.frozen? ⟨v.P,1,none⟩ = false)∧(w.cell? ⟨v.P,2,none⟩ = some (v.r 1)∧w.frozen? ⟨v.P,2,none⟩ = false)∧(w.cell? ⟨v.P,3,none⟩ = some (v.r 2)∧w.frozen? ⟨v.P,3,none⟩ = false)∧(w.cell? ⟨v.P,4,none⟩ = some (.int .u8 p.last)∧w.frozen? ⟨v.P,4,none⟩ = false)∧(w.cell? ⟨v.P,5,none⟩ = some (.bool p.wrong)∧w.frozen? ⟨v.P,5,none⟩ = false)∧(w.cell? ⟨v.P,6,none⟩ = some (.bool p.cut)∧w.frozen? ⟨v.P,6,none⟩ = false)∧(w.cell? ⟨v.P,7,none⟩ = some (.int .i64 p.most)∧w.frozen? ⟨v.P,7,none⟩ = false)∧(w.cell? ⟨v.P,8,none⟩ = some (.int .i64 p.state)∧w.frozen? ⟨v.P,8,none⟩ = false) :=
 ⟨at_ h 0 _ rfl,at_ h 1 _ rfl,at_ h 2 _ rfl,at_ h 3 _ rfl,at_ h 4 _ rfl,at_ h 5 _ rfl,at_ h 6 _ rfl,at_ h 7 _ rfl,at_ h 8 _ rfl⟩
theorem zspoil_any (h:PzO base w v p):Calls Tryz.prog 273 #[.pointer (some ⟨v.P,0,none⟩)] w (PzPost base w v (spoilP p)):=by
 obtain ⟨⟨c0,f0⟩,⟨c1,f1⟩,⟨c2,f2⟩,⟨c3,f3⟩,⟨c4,f4⟩,⟨c5,f5⟩,⟨c6,f6⟩,⟨c7,f7⟩,⟨c8,f8⟩⟩:=h.blk.facts
 have HO:=Hd h
 clear h
 go_enter Tryz.func273,Tryz.ntmps273
 go_wp2
 go_end0
 exact ⟨rfl,HO.out.reblk (v':=noRows v) (mod_setCellsN (.inl (by simp)) (heldL true) 0 _ (Mod.refl _ _)) rfl (HO.out.blk.puts 0 (heldL true) (by decide) rfl rfl) (rows_none rfl rfl rfl)⟩
theorem zenter_any (h:PzO base w v p) (s:Int):Calls Tryz.prog 67 #[.pointer (some ⟨v.P,0,none⟩),.int .i64 s] w (PzPost base w v (enterP p s)):=by
 obtain ⟨⟨c0,f0⟩,⟨c1,f1⟩,⟨c2,f2⟩,⟨c3,f3⟩,⟨c4,f4⟩,⟨c5,f5⟩,⟨c6,f6⟩,⟨c7,f7⟩,⟨c8,f8⟩⟩:=h.blk.facts
 have HO:=Hd h
 clear h
 go_enter Tryz.func67,Tryz.ntmps67
 go_wp2
 go_end0
 exact ⟨rfl,HO.out.reblk (v':=noRows v) (mod_setCellsN (.inl (by simp)) (heldL false) 0 _ ((Mod.refl _ _).setCell (a:=⟨v.P,8,none⟩) (.inl (by simp)) _)) rfl ((HO.out.blk.put 8 (.int .i64 s) (v':=v) (p':={ p with state:=s }) rfl rfl).puts 0 (heldL false) (by decide) rfl rfl) (rows_none rfl rfl rfl)⟩
theorem info_u8:(Tryz.prog.info? 5).map (fun i => (i.zero,i.size,i.bytes)) = some (some (.int .u8 0),1,1):=by kernel_rfl
theorem PzO.snoc {W w2:World} {k:Nat} (hk:k < 3) {c:Int} {v':Value} (h:PzO base W v p) (hg:W.grownBy w2 (v.r k).ownBlock) (ho:w2.ownsRow base 5 1 v' ((p.r k).length + 1) (bV (p.r k) ++ [.int .u8 c])) (hn:∀ g,v'.ownBlock = some g→(v.r k).ownBlock = some g ∨ W.heap.size ≤ g) :
 PzRes base W v (p.sr (p.r k ++ [c]) k) (w2.setCell ⟨v.P,k + 1,none⟩ v')∧w2.cell? ⟨v.P,k + 1,none⟩ = some (v.r k)∧w2.frozen? ⟨v.P,k + 1,none⟩ = false:=by
 have hb2:ParB w2 v p:=h.blk.keep hg (fun e => h.np ⟨k,hk,e⟩)
 refine ⟨h.grow hk hg (by rw [bV_snoc] at ho;rw [List.length_append];exact ho) hn,?_⟩
 match k,hk with
 | 0,_ => exact at_ hb2 1 _ rfl
 | 1,_ => exact at_ hb2 2 _ rfl
 | 2,_ => exact at_ hb2 3 _ rfl
theorem PzO.bw (h:PzO base w v p):base ≤ w.heap.size:=Nat.le_trans h.hb (Nat.le_of_lt h.blk.lt)
theorem PzRes.keep {p':Pz} {w':World} (h:PzRes base w v p' w'):∃ v',v'.P = v.P∧PzO base w' v' p'∧PzRes base w v p' w':=by
 obtain ⟨v',e,hO,h2⟩:=h
 exact ⟨v',e,hO,v',e,hO,h2⟩
theorem wpList_zsnoc {ops:Array Oper} {rest:List Oper} {o:Oper} {a:Act} {Q:Exit→Act→World→Prop} (hgd:o.guard = none) (s x:Operand) (ho:o.op = .call { callee:=.builtin .append,args:=#[s,x],argTypes:=#[23,23] })
 (HO:PzO base w v p) (k:Nat) (hk:k < 3) (c:Int) {n:Nat} (hN:(p.r k).length = n) (hz:n ≤ 100000) {A:Option Addr} {cap:Nat} (hv:v.r k = .slice A n cap) (hs:a.eval s = .slice A n cap) (hx:a.eval x = .slice (some ⟨w.heap.size,0,none⟩) 1 1)
 (h:∀ A' c' w3,w3.cell? ⟨v.P,k + 1,none⟩ = some (.slice A n cap)→w3.frozen? ⟨v.P,k + 1,none⟩ = false→PzRes base w v (p.sr (p.r k ++ [c]) k) (w3.setCell ⟨v.P,k + 1,none⟩ (.slice A' (n + 1) c'))→wpList Tryz.prog ops Q rest (a.put o.dst (.slice A' (n + 1) c')) w3) :
 wpList Tryz.prog ops Q (o :: rest) a (w.alloc (.cells #[.int .u8 c] 5)):=by
 obtain ⟨i0,hi0,hz0,hz1,hz2⟩:=info_parts info_u8
 have hb:Below w.heap.size w (w.alloc (.cells #[.int .u8 c] 5)):=below_allocs (Below.refl _ _) _
 have hO:=HO.below hb
 have hrow:=hO.row k hk
 rw [hv,hN] at hrow
 refine wpList_append_g hgd s x 23 ho base 5 i0 _ 1 1 Tryz.underlying23 hi0 hz0 hz1 hz2 rfl (by decide) (.slice A n cap) n (bV (p.r k)) hs hrow ⟨w.heap.size,0,none⟩ 1 1 [.int .u8 c] hx rfl (fun j u hj => ?_) (fun u hu => by rw [List.mem_singleton.1 hu];rfl) (by unfold maxLen;omega) (by omega) (Nat.le_trans HO.bw hb.size) (fun v' w3 h1 h2 h3 => ?_)
 · cases j with
   | zero =>
     obtain rfl:Value.int .u8 c = u:=by simpa using hj
     exact (at_ (hp_new rfl) 0 _ rfl).1
   | succ j => simp at hj
 · obtain ⟨A',c',rfl⟩:=row_form h1
   rw [← hv] at h2 h3
   obtain ⟨r1,r2,r3⟩:=hO.snoc hk h2 (by rw [hN];exact h1) h3
   rw [hv] at r2
   exact h A' c' w3 r2 r3 (PzRes.pre hb r1)
set_option maxHeartbeats 1600000 in
theorem zbetween_any (h:PzO base w v p) (hi:p.inter.length ≤ 2) (c:Int):Calls Tryz.prog 178 #[.pointer (some ⟨v.P,0,none⟩),.int .u8 c] w (PzPost base w v (betweenP p c)):=by
 obtain ⟨A,cap,hv⟩:=row_form (h.row 1 (by omega))
 obtain ⟨-,-,⟨c2,f2⟩,-,-,⟨c5,f5⟩,-,-,-⟩:=h.blk.facts
 rw [hv] at c2
 have HO:=Hd h
 have hS:=Hd (zspoil_any h)
 unfold betweenP
 by_cases h2:p.inter.length = 2
 · have hl:(p.r 1).length = 2:=h2
   rw [if_pos h2,show interP (spoilP p) c = spoilP p from if_pos rfl]
   rw [hl] at c2
   clear h hv hi h2 hl
   go_enter Tryz.func178,Tryz.ntmps178
   go_wp2_with (go_at_call 273;(with_reducible refine hS.out.mono ?_);rintro e w1 ⟨rfl,hr⟩;obtain ⟨v1,e1,hO1,hR⟩:=hr.keep;have HR:=Hd hR;have d5:=(at_ hO1.blk 5 (.bool true) rfl).1;rw [e1] at d5;clear hr hR hO1)
   go_end0
   exact ⟨rfl,HR.out⟩
 · rw [if_neg h2]
   have hn2:¬ ((p.r 1).length:Int) = 2:=fun e => h2 (by have e2:((p.inter.length:Nat):Int) = 2:=e;omega)
   have hz:(p.r 1).length ≤ 2:=hi
   generalize hN:(p.r 1).length = n at c2 hn2 hz
   rw [hN] at hv
   clear h hi h2
   unfold interP
   by_cases hw:p.wrong = true
   · rw [if_pos hw]
     rw [hw] at c5
     clear hw hv hN
     go_enter Tryz.func178,Tryz.ntmps178
     go_wp2
     go_end0
     exact ⟨rfl,HO.out.res⟩
   · rw [if_neg hw]
     rw [show p.wrong = false by cases hq:p.wrong <;> simp_all] at c5
     have HV:=Hd hv
     clear hw hv
     go_enter Tryz.func178,Tryz.ntmps178
     go_wp2_with (refine wpList_zsnoc rfl (.tmp 21) (.tmp 23) rfl HO.out 1 (by omega) c hN (by omega) HV.out rfl rfl ?_;intro A' c' w3 d0 d1 hR;have HR:=Hd hR;clear hR)
     go_end0
     exact ⟨rfl,HR.out⟩
set_option maxHeartbeats 1600000 in
theorem znumber_any (h:PzO base w v p) (hi:p.head.length ≤ 256) (c:Int):Calls Tryz.prog 179 #[.pointer (some ⟨v.P,0,none⟩),.int .u8 c] w (PzPost base w v (numberP p c)):=by
 obtain ⟨A,cap,hv⟩:=row_form (h.row 0 (by omega))
 obtain ⟨A1,cap1,hv1⟩:=row_form (h.row 1 (by omega))
 obtain ⟨⟨c0,f0⟩,⟨c1,f1⟩,⟨c2,f2⟩,-,-,⟨c5,f5⟩,-,-,-⟩:=h.blk.facts
 rw [hv] at c1
 rw [hv1] at c2
 have HO:=Hd h
 have hS:=Hd (zspoil_any h)
 have hz:(p.r 0).length ≤ 256:=hi
 have e0:p.head.length = (p.r 0).length:=rfl
 have e1:p.inter.length = (p.r 1).length:=rfl
 unfold numberP
 rw [e0,e1]
 generalize hN:(p.r 0).length = n at c1 hz hv ⊢
 generalize (p.r 1).length = m at c2 ⊢
 clear h hi e0 e1 hv1
 by_cases hw:p.wrong = true
 · rw [if_pos hw]
   rw [hw] at c5
   clear hw hv hN
   go_enter Tryz.func179,Tryz.ntmps179
   go_wp2
   go_end0
   exact ⟨rfl,HO.out.res⟩
 rw [if_neg hw]
 rw [show p.wrong = false by cases hq:p.wrong <;> simp_all] at c5
 clear hw
 by_cases ha:60 ≤ c∧p.pre = 0∧n = 0∧m = 0
 · rw [if_pos ha]
   obtain ⟨a1,a2,rfl,rfl⟩:=ha
   rw [a2] at c0
   have a3:¬ c < 60:=by omega
   clear hv hN
   go_enter Tryz.func179,Tryz.ntmps179
   go_wp2
   go_end0
   exact ⟨rfl,HO.out.one 0 (.int .u8 c) rfl (fun k hk => by match k,hk with | 0,_ => rfl | 1,_ => rfl | 2,_ => rfl)⟩
 rw [if_neg ha]
 by_cases hb:60 ≤ c ∨ 0 < m ∨ n = 256
 · rw [if_pos hb]
   generalize p.pre = q at c0 ha
   clear hv hN
   have ha:=Hd ha
   have hb:=Hd hb
   go_enter Tryz.func179,Tryz.ntmps179
   go_wp2_with (go_at_call 273;(with_reducible refine hS.out.mono ?_);rintro e w1 ⟨rfl,hr⟩;have HR:=Hd hr;clear hr)
   all_goals (go_end0;exact ⟨rfl,HR.out⟩)
 · rw [if_neg hb]
   have b1:c < 60:=by omega
   have b2:¬ 60 ≤ c:=by omega
   have b3:m = 0:=by omega
   have b4:¬ (n:Int) = 256:=by omega
   subst b3
   have HV:=Hd hv
   clear hv ha hb
   go_enter Tryz.func179,Tryz.ntmps179
   go_wp2_with (refine wpList_zsnoc rfl (.tmp 8) (.tmp 10) rfl HO.out 0 (by omega) c hN (by omega) HV.out rfl rfl ?_;intro A' c' w3 d0 d1 hR;have HR:=Hd hR;clear hR)
   go_end0
   exact ⟨rfl,HR.out⟩
set_option maxHeartbeats 1600000 in
theorem zput_any (h:PzO base w v p) (hi:p.text.length ≤ 100000) (c:Int):Calls Tryz.prog 118 #[.pointer (some ⟨v.P,0,none⟩),.int .u8 c] w (PzPost base w v (putPz p c)):=by
 obtain ⟨A,cap,hv⟩:=row_form (h.row 2 (by omega))
 obtain ⟨-,-,-,⟨c3,f3⟩,-,-,⟨c6,f6⟩,⟨c7,f7⟩,-⟩:=h.blk.facts
 rw [hv] at c3
 have HO:=Hd h
 have hz:(p.r 2).length ≤ 100000:=hi
 have e0:p.text.length = (p.r 2).length:=rfl
 unfold putPz
 rw [e0]
 generalize hN:(p.r 2).length = n at c3 hz hv ⊢
 clear h hi e0
 by_cases hw:p.most ≤ (n:Int)
 · rw [if_pos hw]
   clear hv hN
   go_enter Tryz.func118,Tryz.ntmps118
   go_upto_region 0 with fail
   refine wp_region_u 10 (fun w' => Below w.heap.size w w'∧w'.cell? ⟨v.P,3,none⟩ = some (.slice A n cap)∧w'.cell? ⟨v.P,7,none⟩ = some (.int .i64 p.most)) (by kernel_rfl) (by kernel_rfl) ?_ ?_
   · exact ⟨(Below.refl _ _).drew,c3,c7⟩
   simp only [List.take_succ_cons,List.take_zero,List.drop_succ_cons,List.drop_zero]
   repeat (
    (first
     | refine seqU_skip (by rfl) ?_
     | (refine seqU_val ?_ (by rfl) ?_ ?_;rotate_left;(focus (intro w' hS;obtain ⟨_,_,_⟩:=hS;go_simp;first | done | with_reducible rfl))))
    simp only [Act.put,List.setIfInBounds_toArray,List.set_cons_zero,List.set_cons_succ])
   refine seqU_nil (fun w' hS => ?_)
   have HB:=Hd hS.1
   obtain ⟨d6,e6⟩:=at_ (HO.out.below hS.1).blk 6 (.bool p.cut) rfl
   clear hS
   go_wp2
   go_end0
   exact ⟨rfl,PzRes.pre HB.out ((HO.out.below HB.out).one 6 (.bool true) rfl (fun k hk => by match k,hk with | 0,_ => rfl | 1,_ => rfl | 2,_ => rfl))⟩
 · rw [if_neg hw]
   have hw2:(n:Int) < p.most:=by omega
   have HV:=Hd hv
   have HNN:=Hd hN
   clear hv hN
   go_enter Tryz.func118,Tryz.ntmps118
   go_upto_region 0 with fail
   refine wp_region_u 10 (fun w' => Below w.heap.size w w'∧w'.cell? ⟨v.P,3,none⟩ = some (.slice A n cap)∧w'.cell? ⟨v.P,7,none⟩ = some (.int .i64 p.most)) (by kernel_rfl) (by kernel_rfl) ?_ ?_
   · exact ⟨(Below.refl _ _).drew,c3,c7⟩
   simp only [List.take_succ_cons,List.take_zero,List.drop_succ_cons,List.drop_zero]
   repeat (
    (first
     | refine seqU_skip (by rfl) ?_
     | (refine seqU_val ?_ (by rfl) ?_ ?_;rotate_left;(focus (intro w' hS;obtain ⟨_,_,_⟩:=hS;go_simp;first | done | with_reducible rfl))))
    simp only [Act.put,List.setIfInBounds_toArray,List.set_cons_zero,List.set_cons_succ])
   refine seqU_nil (fun w' hS => ?_)
   have HB:=Hd hS.1
   obtain ⟨-,d3,d7⟩:=hS
   go_wp2_with (refine wpList_zsnoc rfl (.tmp 24) (.tmp 26) rfl (HO.out.below HB.out) 2 (by omega) c HNN.out (by omega) HV.out rfl rfl ?_;intro A' c' w3 d0 d1 hR;have HR:=Hd (PzRes.pre HB.out hR);clear hR)
   go_end0
   exact ⟨rfl,HR.out⟩
end
section
variable {base:Nat} {w:World} {v:Sv} {s:Sc}
theorem room_x (hi:ScI s) (hc:2 ≤ s.pg.cols) {n:Int} (hn1:1 ≤ n) (hn2:n ≤ 2):0 ≤ (roomS s n).x∧(roomS s n).x + n ≤ s.pg.cols:=by
 have hx0:=hi.x0
 unfold roomS colsS
 split
 · exact ⟨hx0,by assumption⟩
 split
 · exact ⟨by show 0 ≤ (s.pg.cols:Int) - n;omega,by show (s.pg.cols:Int) - n + n ≤ _;omega⟩
 · unfold onS
   split
   · exact ⟨Int.le_refl _,by show 0 + n ≤ _;omega⟩
   · exact ⟨Int.le_refl _,by show 0 + n ≤ _;omega⟩
set_option maxHeartbeats 3200000 in
theorem sWrite_any (h:ScO base w v s) (hi:ScI s) (ht:s.pg.told.length ≤ 900000) (r:Int):Calls Tryz.prog 181 #[.pointer (some ⟨v.S,0,none⟩),.int .i32 r] w (ScPost base w v (writeS s r)):=by
 have HW:=Hd (fun w => widOf_any r w)
 have hc2:=h.page.cols2
 have hc3:=h.page.cols1000
 have hx0:=hi.x0
 have hx1:=hi.x1
 have HO:=Hd h
 have HI:=Hd hi
 have hwr:writeS s r = if widOf r = 0 then { s with pg:=rowP s.pg s.y (fun l => markL l (s.x - 1) r) } else if widOf r < 1 then s else layS (shoveS (roomS s (widOf r)) (widOf r)) r (widOf r):=rfl
 rw [hwr]
 have hwd:widOf r ≤ 2:=by
  unfold widOf
  split
  · decide
  split
  · decide
  split <;> decide
 generalize hn:widOf r = n at *
 clear h hi hwr hn
 by_cases h0:n = 0
 · subst h0
   rw [if_pos rfl]
   have hwx:IntKind.i64.wrap (s.x - 1) = s.x - 1:=IntWalk.i64_in _ (by omega)
   go_enter Tryz.func181,Tryz.ntmps181
   go_upto_region 2 with (go_at_call 162;refine (HW.out _).mono ?_;rintro e w1 ⟨rfl,hb⟩;have HB1:=Hd hb;clear hb)
   rename World => W1
   have hO1:=HO.out.below HB1.out
   have HMK:Hid (∀ w',Below W1.heap.size W1 w'→Calls Tryz.prog 276 #[.pointer (some ⟨v.q.P,0,none⟩),.int .i64 s.y,.int .i64 (s.x - 1),.int .i32 r] w' (PgPost base w' v.q (rowP s.pg s.y (fun l => markL l (s.x - 1) r)))):=Hd (fun w' hb => pMark_any (hO1.below hb).page s.y (s.x - 1) r)
   obtain ⟨c14,-⟩:=at_ hO1.blk 14 (.pointer (some ⟨v.q.P,0,none⟩)) rfl
   obtain ⟨c16,-⟩:=at_ hO1.blk 16 (.int .i64 s.y) rfl
   obtain ⟨c17,-⟩:=at_ hO1.blk 17 (.int .i64 s.x) rfl
   have HO1:=Hd hO1
   clear hO1
   refine wp_region_u 14 (fun w' => Below W1.heap.size W1 w'∧w'.cell? ⟨v.S,14,none⟩ = some (.pointer (some ⟨v.q.P,0,none⟩))∧w'.cell? ⟨v.S,16,none⟩ = some (.int .i64 s.y)∧w'.cell? ⟨v.S,17,none⟩ = some (.int .i64 s.x)) (by kernel_rfl) (by kernel_rfl) ?_ ?_
   · exact ⟨(Below.refl _ _).drew,c14,c16,c17⟩
   simp only [List.take_succ_cons,List.take_zero,List.drop_succ_cons,List.drop_zero]
   repeat (
    (first
     | refine seqU_skip (by rfl) ?_
     | (refine seqU_val ?_ (by rfl) ?_ ?_;rotate_left;(focus (intro w' hS;obtain ⟨_,_,_,_⟩:=hS;go_simp;first | done | with_reducible rfl))))
    simp only [Act.put,List.setIfInBounds_toArray,List.set_cons_zero,List.set_cons_succ])
   refine seqU_nil (fun w' hS => ?_)
   have HB2:=Hd hS.1
   clear hS c14 c16 c17
   go_wp2_with (go_at_call 276;refine (HMK.out _ HB2.out).mono ?_;rintro e w3 ⟨rfl,hp⟩;have HP3:=Hd hp;clear hp)
   go_end0
   exact ⟨rfl,ScRes.trans ⟨rfl,rfl,rfl,(Mod.of_below HB1.out).then_below HB2.out,fun b hb => .inl hb⟩ ((HO1.out.below HB2.out).paged HP3.out)⟩
 rw [if_neg h0]
 have h0b:(n == 0) = false:=by simpa using h0
 by_cases h1:n < 1
 · rw [if_pos h1]
   go_enter Tryz.func181,Tryz.ntmps181
   go_wp2_with (go_at_call 162;refine (HW.out _).mono ?_;rintro e w1 ⟨rfl,hb⟩;have HB1:=Hd hb;clear hb)
   go_end0
   exact ⟨rfl,HO.out.res_below HB1.out⟩
 rw [if_neg h1]
 have HRM:Hid (∀ w',Below w.heap.size w w'→Calls Tryz.prog 277 #[.pointer (some ⟨v.S,0,none⟩),.int .i64 n] w' (ScPost base w' v (roomS s n))):=Hd (fun w' hb => sRoom_any (HO.out.below hb) HI.out ht n (by omega) hwd)
 obtain ⟨hr0,hr1⟩:=room_x HI.out hc2 (n:=n) (by omega) hwd
 obtain ⟨s1,hs1⟩:∃ s1,roomS s n = s1:=⟨_,rfl⟩
 rw [hs1] at HRM hr0 hr1 ⊢
 have hwx:IntKind.i64.wrap (s1.x + n) = s1.x + n:=IntWalk.i64_in _ (by omega)
 clear hs1
 have hsh:shoveS s1 n = if s1.pen.put = true then { s1 with pg:=rowP s1.pg s1.y (fun l => insertL l s1.x n (backS s1)) } else s1:=by unfold shoveS;cases s1.pen.put <;> rfl
 obtain ⟨s2,hs2⟩:∃ s2,shoveS s1 n = s2:=⟨_,rfl⟩
 have hs2x:s2.x = s1.x∧s2.y = s1.y∧s2.pen = s1.pen:=by rw [← hs2,hsh];split <;> exact ⟨rfl,rfl,rfl⟩
 rw [hs2] at hsh ⊢
 have HX2:=Hd hs2x
 clear hs2x
 have HSH:=Hd hsh
 clear hsh hs2
 cases hput:s1.pen.put
 all_goals
  go_enter Tryz.func181,Tryz.ntmps181
  go_upto_region 5 with (first
   | (go_at_call 162;refine (HW.out _).mono ?_;rintro e w1 ⟨rfl,hb⟩;have HB1:=Hd hb;clear hb)
   | (go_at_call 277;refine (HRM.out _ HB1.out).mono ?_;rintro e w2 ⟨rfl,hs⟩;have HS2:=Hd (ScRes.pre HB1.out hs);clear hs))
  obtain ⟨v2,e1,e2,e3,hO2,hm2,hx2⟩:=HS2.out
  rename World => W2
  have HO2:=Hd hO2
  have HE2:=Hd (show v2.S = v.S∧v2.T = v.T∧v2.q.P = v.q.P∧Mod (scX v) w W2∧∀ b ∈ scX v2,b ∈ scX v ∨ w.heap.size ≤ b from ⟨e1,e2,e3,hm2,hx2⟩)
  obtain ⟨c11,-⟩:=at_ hO2.blk 11 (.bool s1.pen.put) rfl
  rw [e1,hput] at c11
  clear hO2 hm2 hx2 e2 e3 HS2
 have HR7:Hid (ScRes base w v s2 W2):=Hd (by
  have e:s2 = s1:=by rw [HSH.out,hput];rfl
  rw [e]
  exact ScRes.trans HE2.out HO2.out.res)
 go_upto_region 7 with fail
 clear HO2 HE2 c11
 rename World => W7
 rotate_left
 have HBK:Hid (∀ w',Below W2.heap.size W2 w'→Calls Tryz.prog 279 #[.pointer (some ⟨v.S,0,none⟩)] w' fun e w3 => e = .returned (.agg #[.int .i64 s1.pen.at_.bk,.int .i64 s1.pen.at_.bn])∧Below w'.heap.size w' w3):=Hd (fun w' hb => by rw [← e1];exact sBack_any (HO2.out.below hb))
 have HIN:Hid (∀ w',Below W2.heap.size W2 w'→Calls Tryz.prog 278 #[.pointer (some ⟨v2.q.P,0,none⟩),.int .i64 s1.y,.int .i64 s1.x,.int .i64 n,.agg #[.int .i64 s1.pen.at_.bk,.int .i64 s1.pen.at_.bn]] w' (PgPost base w' v2.q (rowP s1.pg s1.y (fun l => insertL l s1.x n ⟨s1.pen.at_.bk,s1.pen.at_.bn⟩)))):=Hd (fun w' hb => pInsert_any (HO2.out.below hb).page s1.y s1.x n ⟨s1.pen.at_.bk,s1.pen.at_.bn⟩)
 obtain ⟨c14,-⟩:=at_ HO2.out.blk 14 (.pointer (some ⟨v2.q.P,0,none⟩)) rfl
 obtain ⟨c16,-⟩:=at_ HO2.out.blk 16 (.int .i64 s1.y) rfl
 obtain ⟨c17,-⟩:=at_ HO2.out.blk 17 (.int .i64 s1.x) rfl
 rw [e1] at c14 c16 c17
 go_upto_region 6 with fail
 clear c11
 refine wp_region_u 15 (fun w' => Below W2.heap.size W2 w'∧w'.cell? ⟨v.S,14,none⟩ = some (.pointer (some ⟨v2.q.P,0,none⟩))∧w'.cell? ⟨v.S,16,none⟩ = some (.int .i64 s1.y)∧w'.cell? ⟨v.S,17,none⟩ = some (.int .i64 s1.x)) (by kernel_rfl) (by kernel_rfl) ?_ ?_
 · exact ⟨(Below.refl _ _).drew,c14,c16,c17⟩
 simp only [List.take_succ_cons,List.take_zero,List.drop_succ_cons,List.drop_zero]
 repeat (
  (first
   | refine seqU_skip (by rfl) ?_
   | ((refine seqU_call 279 #[.pointer (some ⟨v.S,0,none⟩)] (.agg #[.int .i64 s1.pen.at_.bk,.int .i64 s1.pen.at_.bn]) (by rfl) ?_ (fun w' hS => (HBK.out w' hS.1).mono fun e w2 ⟨he,hb⟩ => ⟨he,below_tail hS.1 hb,holda hb hS.2.1,holda hb hS.2.2.1,holda hb hS.2.2.2⟩) ?_;(focus (intro w2;go_simp;done))))
   | (refine seqU_val ?_ (by rfl) ?_ ?_;rotate_left;(focus (intro w' hS;obtain ⟨_,_,_,_⟩:=hS;go_simp;first | done | with_reducible rfl))))
  simp only [Act.put,List.setIfInBounds_toArray,List.set_cons_zero,List.set_cons_succ])
 refine seqU_nil (fun w' hS => ?_)
 have HB3:=Hd hS.1
 clear hS c14 c16 c17
 go_upto_region 7 with (go_at_call 278;refine (HIN.out _ HB3.out).mono ?_;rintro e w4 ⟨rfl,hp⟩;have HP4:=Hd hp;clear hp)
 have HR7:Hid (ScRes base w v s2 w4):=Hd (by
  have e:s2 = { s1 with pg:=rowP s1.pg s1.y (fun l => insertL l s1.x n (backS s1)) }:=by rw [HSH.out,hput];rfl
  rw [e]
  exact ScRes.trans HE2.out (ScRes.pre HB3.out ((HO2.out.below HB3.out).paged HP4.out)))
 clear HO2 HE2 HB3 HP4 HBK HIN
 rename World => W7
 rotate_left
 all_goals
  obtain ⟨v7,f1,f2,f3,hO7,hm7,hx7⟩:=HR7.out
  have HO7:=Hd hO7
  have HE7:=Hd (show v7.S = v.S∧v7.T = v.T∧v7.q.P = v.q.P∧Mod (scX v) w W7∧∀ b ∈ scX v7,b ∈ scX v ∨ w.heap.size ≤ b from ⟨f1,f2,f3,hm7,hx7⟩)
  have HPT:Hid (∀ w',Below W7.heap.size W7 w'→Calls Tryz.prog 198 #[.pointer (some ⟨v7.q.P,0,none⟩),.int .i64 s2.y,.int .i64 s2.x,.int .i32 r,.agg #[.int .i64 s2.pen.at_.fk,.int .i64 s2.pen.at_.fn,.int .i64 s2.pen.at_.bk,.int .i64 s2.pen.at_.bn,.int .i64 s2.pen.at_.fl]] w' (PgPost base w' v7.q (rowP s2.pg s2.y (fun l => putL l s2.x r s2.pen.at_)))):=Hd (fun w' hb => pPut_any (HO7.out.below hb).page s2.y s2.x r s2.pen.at_)
  obtain ⟨c14,-⟩:=at_ hO7.blk 14 (.pointer (some ⟨v7.q.P,0,none⟩)) rfl
  obtain ⟨c16,-⟩:=at_ hO7.blk 16 (.int .i64 s2.y) rfl
  obtain ⟨c17,-⟩:=at_ hO7.blk 17 (.int .i64 s2.x) rfl
  obtain ⟨c0,-⟩:=at_ hO7.blk 0 (.int .i64 s2.pen.at_.fk) rfl
  obtain ⟨c1,-⟩:=at_ hO7.blk 1 (.int .i64 s2.pen.at_.fn) rfl
  obtain ⟨c2,-⟩:=at_ hO7.blk 2 (.int .i64 s2.pen.at_.bk) rfl
  obtain ⟨c3,-⟩:=at_ hO7.blk 3 (.int .i64 s2.pen.at_.bn) rfl
  obtain ⟨c4,-⟩:=at_ hO7.blk 4 (.int .i64 s2.pen.at_.fl) rfl
  rw [f1] at c14 c16 c17 c0 c1 c2 c3 c4
  clear hO7 hm7 hx7 HR7 f2 f3
  refine wp_region_u 18 (fun w' => Below W7.heap.size W7 w'∧w'.cell? ⟨v.S,14,none⟩ = some (.pointer (some ⟨v7.q.P,0,none⟩))∧w'.cell? ⟨v.S,16,none⟩ = some (.int .i64 s2.y)∧w'.cell? ⟨v.S,17,none⟩ = some (.int .i64 s2.x)∧w'.cell? ⟨v.S,0,none⟩ = some (.int .i64 s2.pen.at_.fk)∧w'.cell? ⟨v.S,1,none⟩ = some (.int .i64 s2.pen.at_.fn)∧w'.cell? ⟨v.S,2,none⟩ = some (.int .i64 s2.pen.at_.bk)∧w'.cell? ⟨v.S,3,none⟩ = some (.int .i64 s2.pen.at_.bn)∧w'.cell? ⟨v.S,4,none⟩ = some (.int .i64 s2.pen.at_.fl)) (by kernel_rfl) (by kernel_rfl) ?_ ?_
  · exact ⟨(Below.refl _ _).drew,c14,c16,c17,c0,c1,c2,c3,c4⟩
  simp only [List.take_succ_cons,List.take_zero,List.drop_succ_cons,List.drop_zero]
  repeat (
   (first
    | refine seqU_skip (by rfl) ?_
    | (refine seqU_val ?_ (by rfl) ?_ ?_;rotate_left;(focus (intro w' hS;obtain ⟨_,_,_,_,_,_,_,_,_⟩:=hS;go_simp;first | done | with_reducible rfl))))
   simp only [Act.put,List.setIfInBounds_toArray,List.set_cons_zero,List.set_cons_succ])
  refine seqU_nil (fun w' hS => ?_)
  have HB8:=Hd hS.1
  clear hS c14 c16 c17 c0 c1 c2 c3 c4
  rename World => W8
  go_upto_region 8 with (go_at_call 198;refine (HPT.out _ HB8.out).mono ?_;rintro e w9 ⟨rfl,hp⟩;have HS9:=Hd (ScRes.trans HE7.out (ScRes.pre HB8.out ((HO7.out.below HB8.out).paged hp)));clear hp)
  obtain ⟨v9,g1,g2,g3,hO9,hm9,hx9⟩:=HS9.out
  obtain ⟨d17,df17⟩:=at_ hO9.blk 17 (.int .i64 s2.x) rfl
  obtain ⟨d37,df37⟩:=at_ hO9.blk 37 (.int .i32 s2.last) rfl
  rw [g1] at d17 df17 d37 df37
  rw [HX2.out.1] at d17
  have HO10:=Hd (hO9.put 17 (.int .i64 (s1.x + n)) (s':={ s2 with pg:=rowP s2.pg s2.y (fun l => putL l s2.x r s2.pen.at_),x:=s1.x + n }) rfl rfl rfl)
  have HM10:=Hd (hm9.trans (ScO.mod_put (v:=v9) 17 (.int .i64 (s1.x + n))) hx9)
  have HE10:=Hd (show v9.S = v.S∧v9.T = v.T∧v9.q.P = v.q.P∧∀ b ∈ scX v9,b ∈ scX v ∨ w.heap.size ≤ b from ⟨g1,g2,g3,hx9⟩)
  rw [g1] at HO10 HM10
  clear hO9 hm9 hx9 HS9 HE7 HO7 HPT d37 df37 g2 g3
  go_upto_region 9 with fail
  clear d17 df17
  generalize World.setCell _ _ _ = W10 at HO10 HM10 ⊢
  obtain ⟨d37,df37⟩:=at_ HO10.out.blk 37 (.int .i32 s2.last) rfl
  rw [g1] at d37 df37
  go_wp2
  go_end0
  have hf:layS s2 r n = { s2 with pg:=rowP s2.pg s2.y (fun l => putL l s2.x r s2.pen.at_),x:=s1.x + n,last:=r }:=by unfold layS;rw [HX2.out.1]
  rw [hf]
  have hO11:=HO10.out.put 37 (.int .i32 r) (s':={ s2 with pg:=rowP s2.pg s2.y (fun l => putL l s2.x r s2.pen.at_),x:=s1.x + n,last:=r }) rfl rfl rfl
  have hM11:=HM10.out.trans (ScO.mod_put (v:=v9) 37 (.int .i32 r)) HE10.out.2.2.2
  rw [g1] at hO11 hM11
  exact ⟨rfl,v9,g1,HE10.out.2.1,HE10.out.2.2.1,hO11,hM11,HE10.out.2.2.2⟩
end
section
variable {base:Nat} {w:World} {v:Sv} {s:Sc}
theorem snear_any (n lo hi:Int) (w:World):Calls Tryz.prog 296 #[.int .i64 n,.int .i64 lo,.int .i64 hi] w fun e w' => e = .returned (.int .i64 (nearI n lo hi))∧w = w':=by
 unfold nearI
 go_enter Tryz.func296,Tryz.ntmps296
 go_wp2
 all_goals
  go_ret
  exact ⟨by simp;omega,rfl⟩
end
end Go.Proofs.YtaefcahblmopfaaGreatDoor
