/- Joined by a tool of this claim out of smaller texts. Conditions: as stated. -/
import Derived.Test.YtaefcahblmopfaaGreatDoorTn20
set_option linter.unusedVariables false
set_option linter.unusedSimpArgs false
namespace Go.Proofs.YtaefcahblmopfaaGreatDoor
open Go.RowKit
theorem info_event8 : (Tryz.prog.info? 83).map (·.size) = some 8 := by kernel_rfl
theorem evB_at {b : Nat} {W : World} {cs : List Value} (h : W.heap[b]? = some (.cells cs.toArray 83 (0, 0))) (hl : cs.length = 8) : W.there b 0 8 := fun j hj => by
  have := there_new h j (by rw [List.size_toArray, hl]; exact hj)
  exact this
set_option maxRecDepth 100000 in
set_option maxHeartbeats 3200000 in
theorem whole_says : WholeSays := by
  intro base w v p k c h hok
  obtain ⟨⟨c0, -⟩, ⟨c1, -⟩, -, -, -, -, -, -, -⟩ := h.blk.facts
  obtain ⟨A0, cap0, hv0⟩ := row_form (h.row 0 (by omega))
  obtain ⟨A1, cap1, hv1⟩ := row_form (h.row 1 (by omega))
  obtain ⟨A2, cap2, hv2⟩ := row_form (h.row 2 (by omega))
  have HP := Lib.hid (fun w => pparse_any p.head (fun x hx => hok.head.2 x hx) (by have := hok.head.1; omega) w)
  have HO := Lib.hid h
  obtain ⟨W, hW⟩ : ∃ W, w.alloc (.cells #[.int .i64 0, .int .i32 0, .int .u8 0, .int .u8 0, .slice none 0 0, .string ⟨#[]⟩, .string ⟨#[]⟩, .bool false] 83) = W := ⟨_, rfl⟩
  have hb0 : Below w.heap.size w W := by rw [← hW]; exact below_allocs (Below.refl _ _) _
  have hs0 : W.heap.size = w.heap.size + 1 := by rw [← hW]; exact World.size_alloc _ _
  have hn0 : W.heap[w.heap.size]? = some (.cells #[.int .i64 0, .int .i32 0, .int .u8 0, .int .u8 0, .slice none 0 0, .string ⟨#[]⟩, .string ⟨#[]⟩, .bool false] 83 (0, 0)) := by rw [← hW]; exact hp_new rfl
  have hcv : (convert 23 9 (.slice A0 (p.r 0).length cap0)).run Tryz.prog W = .ok (.string (strOfNums p.head)) W := by rw [← hv0]; exact conv_own ((h.below hb0).row 0 (by omega))
  have d1 := holda hb0 c1
  rw [hv0] at d1
  have HB0 := Lib.hid hb0
  have HN0 := Lib.hid hn0
  have HS0 := Lib.hid hs0
  generalize (p.r 0).length = n0 at d1 hcv
  clear h hok hb0 hn0 hs0 c0 c1 hv0
  go_enter Tryz.func116, Tryz.ntmps116
  go_upto_region 2 with (go_at_call 175; (with_reducible refine (HP.out _).mono ?_); rintro e w2 ⟨A, H, ca, rfl, g1, g2, g3, g4, g5⟩; have HG := Lib.hid (And.intro g1 (And.intro g2 (And.intro g3 g4))); have HB5 := Lib.hid g5; clear g1 g2 g3 g4 g5)
  have HB2 := Lib.hid (below_tail HB0.out HB5.out)
  have hO2 := HO.out.below HB2.out
  obtain ⟨⟨c0, -⟩, -, ⟨c2, -⟩, ⟨c3, -⟩, -, -, ⟨c6, -⟩, -, -⟩ := hO2.blk.facts
  have HCV1 : Hid (∀ w', Below w2.heap.size w2 w' → (convert 23 9 (.slice A1 (p.r 1).length cap1)).run Tryz.prog w' = .ok (.string (strOfNums p.inter)) w') := Lib.hid (fun w' hb => by rw [← hv1]; exact conv_own ((hO2.below hb).row 1 (by omega)))
  have HCV2 : Hid (∀ w', Below w2.heap.size w2 w' → (convert 23 9 (.slice A2 (p.r 2).length cap2)).run Tryz.prog w' = .ok (.string (strOfNums p.text)) w') := Lib.hid (fun w' hb => by rw [← hv2]; exact conv_own ((hO2.below hb).row 2 (by omega)))
  rw [hv1] at c2
  rw [hv2] at c3
  have HN2 := Lib.hid ((HB5.out.block w.heap.size (lt_of_heap HN0.out)).trans HN0.out)
  generalize (p.r 1).length = n1 at c2 HCV1
  generalize (p.r 2).length = n2 at c3 HCV2
  generalize hrb : w.heap.size = rb at HN2 ⊢
  have HRB := Lib.hid hrb
  clear hO2 hv1 hv2 hrb d1 hcv
  refine wp_region_u 25 (fun w' => Below w2.heap.size w2 w' ∧ w'.cell? ⟨v.P, 0, none⟩ = some (.int .u8 p.pre) ∧ w'.cell? ⟨v.P, 2, none⟩ = some (.slice A1 n1 cap1) ∧ w'.cell? ⟨v.P, 3, none⟩ = some (.slice A2 n2 cap2) ∧ w'.cell? ⟨v.P, 6, none⟩ = some (.bool p.cut) ∧ (convert 23 9 (.slice A1 n1 cap1)).run Tryz.prog w' = .ok (.string (strOfNums p.inter)) w' ∧ (convert 23 9 (.slice A2 n2 cap2)).run Tryz.prog w' = .ok (.string (strOfNums p.text)) w') (by kernel_rfl) (by kernel_rfl) ?_ ?_
  · exact ⟨(Below.refl _ _).drew, c0, c2, c3, c6, HCV1.out _ ((Below.refl _ _).drew), HCV2.out _ ((Below.refl _ _).drew)⟩
  simp only [List.take_succ_cons, List.take_zero, List.drop_succ_cons, List.drop_zero]
  repeat (
    (first
     | refine seqU_skip (by rfl) ?_
     | (refine seqU_val ?_ (by rfl) ?_ ?_; rotate_left; (focus (intro w' hS; obtain ⟨_, _, _, _, _, _, _⟩ := hS; go_simp; first | done | with_reducible rfl))))
    simp only [Act.put, List.setIfInBounds_toArray, List.set_cons_zero, List.set_cons_succ])
  refine seqU_nil (fun w' hS => ?_)
  have HBS := Lib.hid hS.1
  have hn3 := (HBS.out.block rb (lt_of_heap HN2.out)).trans HN2.out
  have HN3 := Lib.hid hn3
  have HT := Lib.hid (evB_at (cs := [.int .i64 0, .int .i32 0, .int .u8 0, .int .u8 0, .slice none 0 0, .string ⟨#[]⟩, .string ⟨#[]⟩, .bool false]) hn3 rfl)
  clear hS hn3 c0 c2 c3 c6
  refine wpList_valG (.agg #[.int .i64 k, .int .i32 0, .int .u8 c, .int .u8 p.pre, .slice A H.length ca, .string (strOfNums p.inter), .string (strOfNums p.text), .bool p.cut]) (by rfl) (by go_simp) ?_
  simp only [Act.put, List.setIfInBounds_toArray, List.set_cons_zero, List.set_cons_succ]
  refine wpList_store_mid rfl 83 (.tmp 6) (.tmp 44) rfl (rb) (0) (#[.int .i64 k, .int .i32 0, .int .u8 c, .int .u8 p.pre, .slice A H.length ca, .string (strOfNums p.inter), .string (strOfNums p.text), .bool p.cut]) rfl rfl (HT.out) info_event8 (all_oneCell_toArray (encEx_one ⟨wholeP p k c, A, H, ca⟩)) ?_
  simp only [Act.put]
  have hfin := whole_setCells (b := rb) (t := 83) [.int .i64 k, .int .i32 0, .int .u8 c, .int .u8 p.pre, .slice A H.length ca, .string (strOfNums p.inter), .string (strOfNums p.text), .bool p.cut] 0 [.int .i64 0, .int .i32 0, .int .u8 0, .int .u8 0, .slice none 0 0, .string ⟨#[]⟩, .string ⟨#[]⟩, .bool false] w' HN3.out (Nat.le_refl 8)
  have HF := Lib.hid hfin
  clear hfin
  go_wp2
  have hm : Mod [rb] w' (w'.setCells rb 0 [.int .i64 k, .int .i32 0, .int .u8 c, .int .u8 p.pre, .slice A H.length ca, .string (strOfNums p.inter), .string (strOfNums p.text), .bool p.cut]) := mod_setCellsN (.inl (by simp)) [.int .i64 k, .int .i32 0, .int .u8 c, .int .u8 p.pre, .slice A H.length ca, .string (strOfNums p.inter), .string (strOfNums p.text), .bool p.cut] 0 _ (Mod.refl _ _)
  obtain ⟨g1, g2, g3, g4⟩ := HG.out
  have hlo : w.heap.size ≤ W.heap.size := by have := HS0.out; omega
  refine bodyPost_ret (ret_agg rfl _ _ rb [.int .i64 k, .int .i32 0, .int .u8 c, .int .u8 p.pre, .slice A H.length ca, .string (strOfNums p.inter), .string (strOfNums p.text), .bool p.cut] rfl (range_new HF.out) Tryz.underlying83 rfl info_event8) rfl ⟨⟨wholeP p k c, A, H, ca⟩, rfl, rfl, ⟨g1, g2, g3, ?_⟩, below_setN (below_tail HB2.out HBS.out) (Nat.le_of_eq HRB.out) [.int .i64 k, .int .i32 0, .int .u8 c, .int .u8 p.pre, .slice A H.length ca, .string (strOfNums p.inter), .string (strOfNums p.text), .bool p.cut] 0⟩
  exact ((g4.below HBS.out).mod hm (fun b hb => .inl (by rw [List.mem_singleton.1 hb, ← HRB.out]; have := HS0.out; omega))).weaken hlo
end Go.Proofs.YtaefcahblmopfaaGreatDoor

namespace Go.Proofs.YtaefcahblmopfaaGreatDoor
open Go.RowKit
section
variable {base : Nat} {w : World} {v : Tv} {t : Tm}
theorem TmO.facts (h : TmO base w v t) : w.cell? ⟨v.M, 0, none⟩ = some (.pointer (some ⟨v.z.P, 0, none⟩)) ∧ w.cell? ⟨v.M, 1, none⟩ = some (.pointer (some ⟨v.a.S, 0, none⟩)) ∧ w.cell? ⟨v.M, 2, none⟩ = some (.pointer (some ⟨v.b.S, 0, none⟩)) ∧ (w.cell? ⟨v.M, 3, none⟩ = some (.int .i64 (if t.use then 1 else 0)) ∧ w.frozen? ⟨v.M, 3, none⟩ = false) ∧ (w.cell? ⟨v.M, 4, none⟩ = some (.int .u32 t.modes) ∧ w.frozen? ⟨v.M, 4, none⟩ = false) ∧ (w.cell? ⟨v.M, 5, none⟩ = some (.string t.title) ∧ w.frozen? ⟨v.M, 5, none⟩ = false) ∧ (w.cell? ⟨v.M, 6, none⟩ = some v.ba ∧ w.frozen? ⟨v.M, 6, none⟩ = false) ∧ (w.cell? ⟨v.M, 7, none⟩ = some v.bf ∧ w.frozen? ⟨v.M, 7, none⟩ = false) ∧ (w.cell? ⟨v.M, 8, none⟩ = some v.vc ∧ w.frozen? ⟨v.M, 8, none⟩ = false) :=
  ⟨(at_ h.blk 0 _ rfl).1, (at_ h.blk 1 _ rfl).1, (at_ h.blk 2 _ rfl).1, at_ h.blk 3 _ rfl, at_ h.blk 4 _ rfl, at_ h.blk 5 _ rfl, at_ h.blk 6 _ rfl, at_ h.blk 7 _ rfl, at_ h.blk 8 _ rfl⟩
def TmPost (base : Nat) (w : World) (v : Tv) (t' : Tm) (e : Ending) (w' : World) : Prop := e = .returned (.tuple #[]) ∧ TmRes base w v t' w'
set_option maxRecDepth 100000 in
theorem tScreen_any (h : TmO base w v t) : Calls Tryz.prog 11 #[.pointer (some ⟨v.M, 0, none⟩)] w fun e w' => e = .returned (.pointer (some ⟨(curV v t).S, 0, none⟩)) ∧ Below w.heap.size w w' := by
  obtain ⟨-, c1, c2, ⟨c3, -⟩, -⟩ := h.facts
  unfold curV
  clear h
  by_cases hu : t.use = true
  · rw [if_pos hu] at c3 ⊢
    clear hu
    go_enter Tryz.func11, Tryz.ntmps11
    go_upto_region 3 with fail
    refine wp_region_u 7 (fun w' => Below w.heap.size w w' ∧ w'.cell? ⟨v.M, 2, none⟩ = some (.pointer (some ⟨v.b.S, 0, none⟩)) ∧ w'.cell? ⟨v.M, 3, none⟩ = some (.int .i64 1)) (by kernel_rfl) (by kernel_rfl) ?_ ?_
    · exact ⟨(Below.refl _ _).drew, c2, c3⟩
    simp only [List.take_succ_cons, List.take_zero, List.drop_succ_cons, List.drop_zero]
    repeat (
      (first
       | refine seqU_skip (by rfl) ?_
       | (refine seqU_val ?_ (by rfl) ?_ ?_; rotate_left; (focus (intro w' hS; obtain ⟨_, _, _⟩ := hS; go_simp; first | done | with_reducible rfl))))
      simp only [Act.put, List.setIfInBounds_toArray, List.set_cons_zero, List.set_cons_succ])
    refine seqU_nil (fun w' hS => ?_)
    obtain ⟨hb, d2, d3⟩ := hS
    go_wp2
    go_ret
    exact ⟨rfl, hb⟩
  · rw [if_neg hu] at c3 ⊢
    clear hu
    go_enter Tryz.func11, Tryz.ntmps11
    go_upto_region 3 with fail
    refine wp_region_u 7 (fun w' => Below w.heap.size w w' ∧ w'.cell? ⟨v.M, 1, none⟩ = some (.pointer (some ⟨v.a.S, 0, none⟩)) ∧ w'.cell? ⟨v.M, 3, none⟩ = some (.int .i64 0)) (by kernel_rfl) (by kernel_rfl) ?_ ?_
    · exact ⟨(Below.refl _ _).drew, c1, c3⟩
    simp only [List.take_succ_cons, List.take_zero, List.drop_succ_cons, List.drop_zero]
    repeat (
      (first
       | refine seqU_skip (by rfl) ?_
       | (refine seqU_val ?_ (by rfl) ?_ ?_; rotate_left; (focus (intro w' hS; obtain ⟨_, _, _⟩ := hS; go_simp; first | done | with_reducible rfl))))
      simp only [Act.put, List.setIfInBounds_toArray, List.set_cons_zero, List.set_cons_succ])
    refine seqU_nil (fun w' hS => ?_)
    obtain ⟨hb, d2, d3⟩ := hS
    go_wp2
    go_ret
    exact ⟨rfl, hb⟩
/-- A call of the screen in use, behind Screen. -/
theorem TmO.does {s' : Sc} {w1 w2 : World} (h : TmO base w v t) (hb : Below w.heap.size w w1) (hs : ScRes base w1 (curV v t) s' w2) : TmRes base w v (putT t s') w2 := TmRes.pre hb ((h.below hb).did hs)
set_option maxRecDepth 100000 in
set_option maxHeartbeats 1600000 in
theorem tprint_any (h : TmO base w v t) (hi : ScI (curT t)) (ht : (curT t).pg.told.length ≤ 900000) (k r b p : Int) (A : Option Addr) (n c : Nat) (s1 s2 : ByteArray) (ct : Bool) :
    Calls Tryz.prog 72 #[.pointer (some ⟨v.M, 0, none⟩), .agg #[.int .i64 k, .int .i32 r, .int .u8 b, .int .u8 p, .slice A n c, .string s1, .string s2, .bool ct]] w (TmPost base w v (doT t (fun s => printS s r))) := by
  obtain ⟨W, hW⟩ : ∃ W, w.alloc (.cells #[.int .i64 k, .int .i32 r, .int .u8 b, .int .u8 p, .slice A n c, .string s1, .string s2, .bool ct] 83) = W := ⟨_, rfl⟩
  have hb0 : Below w.heap.size w W := by rw [← hW]; exact below_allocs (Below.refl _ _) _
  have hn0 : W.heap[w.heap.size]? = some (.cells #[.int .i64 k, .int .i32 r, .int .u8 b, .int .u8 p, .slice A n c, .string s1, .string s2, .bool ct] 83 (0, 0)) := by rw [← hW]; exact hp_new rfl
  have d1 := (at_ hn0 1 _ rfl).1
  have HS : Hid (∀ w', Below W.heap.size W w' → Calls Tryz.prog 11 #[.pointer (some ⟨v.M, 0, none⟩)] w' fun e w2 => e = .returned (.pointer (some ⟨(curV v t).S, 0, none⟩)) ∧ Below w'.heap.size w' w2) := Lib.hid (fun w' hb => tScreen_any (h.below (below_tail hb0 hb)))
  have HP : Hid (∀ w', Below W.heap.size W w' → Calls Tryz.prog 121 #[.pointer (some ⟨(curV v t).S, 0, none⟩), .int .i32 r] w' (ScPost base w' (curV v t) (printS (curT t) r))) := Lib.hid (fun w' hb => sPrint_any ((h.below (below_tail hb0 hb)).cur) hi ht r)
  have HO := Lib.hid h
  have HB0 := Lib.hid hb0
  clear h hi ht hb0 hn0
  go_enter Tryz.func72, Tryz.ntmps72
  go_upto_region 1 with fail
  refine wp_region_u 4 (fun w' => Below W.heap.size W w' ∧ w'.cell? ⟨w.heap.size, 1, none⟩ = some (.int .i32 r)) (by kernel_rfl) (by kernel_rfl) ?_ ?_
  · exact ⟨(Below.refl _ _).drew, d1⟩
  simp only [List.take_succ_cons, List.take_zero, List.drop_succ_cons, List.drop_zero]
  repeat (
    (first
     | refine seqU_skip (by rfl) ?_
     | ((refine seqU_call 11 #[.pointer (some ⟨v.M, 0, none⟩)] (.pointer (some ⟨(curV v t).S, 0, none⟩)) (by rfl) ?_ (fun w' hS => (HS.out w' hS.1).mono fun e w2 ⟨he, hb⟩ => ⟨he, below_tail hS.1 hb, holda hb hS.2⟩) ?_; (focus (intro w2; go_simp; done))))
     | (refine seqU_val ?_ (by rfl) ?_ ?_; rotate_left; (focus (intro w' hS; obtain ⟨_, _⟩ := hS; go_simp; first | done | with_reducible rfl))))
    simp only [Act.put, List.setIfInBounds_toArray, List.set_cons_zero, List.set_cons_succ])
  refine seqU_nil (fun w' hS => ?_)
  have HB1 := Lib.hid hS.1
  clear hS
  go_wp2_with (go_at_call 121; (with_reducible refine (HP.out _ HB1.out).mono ?_); rintro e w2 ⟨rfl, hr⟩; have HR := Lib.hid hr; clear hr)
  go_end0
  exact ⟨rfl, HO.out.does (below_tail HB0.out HB1.out) HR.out⟩
theorem TmO.bw (h : TmO base w v t) : base ≤ w.heap.size := Nat.le_trans h.hb (Nat.le_of_lt h.ltM)
/-- The list of changes grew. -/
theorem TmO.grow (h : TmO base w v t) {w2 : World} {L : List Cg} {v' : Value} (hg : w.grownBy w2 v.vc.ownBlock) (ho : w2.ownsRow base 96 10 v' L.length (flat encCg L)) (hn : ∀ g, v'.ownBlock = some g → v.vc.ownBlock = some g ∨ w.heap.size ≤ g) :
    TmRes base w v { t with ch := L } (w2.setCell ⟨v.M, 8, none⟩ v') ∧ w2.cell? ⟨v.M, 8, none⟩ = some v.vc ∧ w2.frozen? ⟨v.M, 8, none⟩ = false := by
  have hm : Mod (v.vc.ownBlock.toList) w w2 := Mod.of_grown hg (fun g e => by simp [e])
  have hX : NoCel w (v.vc.ownBlock.toList) := nocel_ty (l := [96]) (fun b hb => TyAt.own h.ch (Option.mem_toList.1 hb)) (by decide)
  have hd : ∀ (Y : List Nat), (∀ x, v.vc.ownBlock = some x → x ∉ Y) → ∀ b ∈ Y, b ∉ v.vc.ownBlock.toList := fun Y hY b hb hx => hY b (Option.mem_toList.1 hx) hb
  have hb2 := (hm.block v.M h.ltM (fun hx => h.mc (Option.mem_toList.1 hx))).trans h.blk
  have hX2 : NoCel w2 [v.M] := nocel_ty (l := [78]) (fun b hb => by rw [List.mem_singleton.1 hb]; exact ⟨_, _, hb2, by simp⟩) (by decide)
  have hM : Mod [v.M] w2 (w2.setCell ⟨v.M, 8, none⟩ v') := (Mod.refl _ _).setCell (a := ⟨v.M, 8, none⟩) (.inl (by simp)) _
  have one : ∀ {Y : List Nat}, v.M ∉ Y → ∀ b ∈ Y, b ∉ [v.M] := fun hY b hb hx => hY (by rw [← List.mem_singleton.1 hx]; exact hb)
  have hP := h.ltM
  have hvM : v'.ownBlock ≠ some v.M := fun e => by
    rcases hn _ e with h1 | h1
    · exact h.mc h1
    · omega
  refine ⟨⟨{ v with vc := v' }, ⟨rfl, rfl, rfl, rfl, fun x hx => ?_⟩, ⟨?_, h.hb, (h.z.mod hm (hd _ h.cz)).mod hM (one h.mz), (h.a.mod hm hX (hd _ h.ca)).mod hM hX2 (one h.ma), (h.b.mod hm hX (hd _ h.cb)).mod hM hX2 (one h.mb), h.ad,
    owns_mod (owns_mod h.bu hm (fun g hg hx => h.fc g hg (Option.mem_toList.1 hx))) hM (fun g hg hx => h.mf (by rw [← List.mem_singleton.1 hx]; exact hg)), owns_mod ho hM (fun g hg hx => hvM (by rw [← List.mem_singleton.1 hx]; exact hg)), h.ab, h.bz⟩, (hm.mono (fun b hb => mem_tmX.2 (.inr (.inr (.inr (.inr (.inr (Option.mem_toList.1 hb)))))))).trans hM (fun g hg => .inl (mem_tmX.2 (.inl (List.mem_singleton.1 hg))))⟩, at_ hb2 8 _ rfl⟩
  · rcases mem_tmX.1 hx with h1 | h1 | h1 | h1 | h1 | h1
    · exact .inl (mem_tmX.2 (.inl h1))
    · exact .inl (mem_tmX.2 (.inr (.inl h1)))
    · exact .inl (mem_tmX.2 (.inr (.inr (.inl h1))))
    · exact .inl (mem_tmX.2 (.inr (.inr (.inr (.inl h1)))))
    · exact .inl (mem_tmX.2 (.inr (.inr (.inr (.inr (.inl h1))))))
    · rcases hn x h1 with h2 | h2
      · exact .inl (mem_tmX.2 (.inr (.inr (.inr (.inr (.inr h2))))))
      · exact .inr h2
  · have := heap_setCell_eq (o := 8) (v := v') hb2
    rw [List.setIfInBounds_toArray] at this
    exact this
end
end Go.Proofs.YtaefcahblmopfaaGreatDoor

namespace Go.Proofs.YtaefcahblmopfaaGreatDoor
open Go.RowKit
def heldP (p : Pz) : Int := p.head.length + p.inter.length + p.text.length + p.dec.hv
def restB (t : Tm) : Bool := decide (t.pz.state = 0) && decide (heldP t.pz = 0)
section
variable {base : Nat} {w : World} {v : Tv} {t : Tm}
set_option maxRecDepth 100000 in
set_option maxHeartbeats 1600000 in
theorem tdrain0_any (h : TmO base w v t) (ht : t.s0.pg.told = []) : Calls Tryz.prog 44 #[.pointer (some ⟨v.M, 0, none⟩)] w (TmPost base w v t) := by
  have HP := Lib.hid (sPage_any h.a)
  have HS := Lib.hid (pShifts_any h.a.page)
  obtain ⟨-, c1, -⟩ := h.facts
  have HO := Lib.hid h
  have HT := Lib.hid ht
  clear h ht
  go_enter Tryz.func44, Tryz.ntmps44
  go_wp2_with (first
    | (go_at_call 78; (with_reducible refine HP.out.mono ?_); rintro e w1 ⟨rfl, rfl⟩)
    | (go_at_call 84; (with_reducible refine HS.out.mono ?_); rintro e w1 ⟨sv, rfl, ho, hr⟩; rw [HT.out] at ho; obtain ⟨A, c, rfl⟩ := row_form ho; have HR := Lib.hid hr; clear ho hr))
  go_loopw [12] (fun s12 wr => s12 = .int .i64 0 ∧ wr = w1) (fun _ _ => 0)
  case atStart => exact ⟨rfl, rfl⟩
  case round =>
    obtain ⟨rfl, rfl⟩ := hrel
    go_wp2
    go_end0
    have h1 := HO.out.withA (HO.out.a.paged HR.out)
    have e : { t with s0 := { t.s0 with pg := { t.s0.pg with told := [] } } } = t := by rw [← HT.out]
    rw [e] at h1
    exact ⟨rfl, h1⟩
def ChPost (base : Nat) (w : World) (v : Tv) (t : Tm) (e : Ending) (w' : World) : Prop := ∃ A c, e = .returned (.slice A t.ch.length c) ∧ w'.ownsRow base 96 10 (.slice A t.ch.length c) t.ch.length (flat encCg t.ch) ∧ TmRes base w v { t with ch := [] } w'
set_option maxRecDepth 100000 in
set_option maxHeartbeats 1600000 in
theorem tChanges0_any (h : TmO base w v t) (ht : t.s0.pg.told = []) : Calls Tryz.prog 18 #[.pointer (some ⟨v.M, 0, none⟩)] w (ChPost base w v t) := by
  have HD := Lib.hid (tdrain0_any h ht)
  clear h ht
  go_enter Tryz.func18, Tryz.ntmps18
  go_upto_region 4 with (go_at_call 44; (with_reducible refine HD.out.mono ?_); rintro e w1 ⟨rfl, hr⟩; obtain ⟨v1, hV, hO, hm⟩ := hr; have HV := Lib.hid hV; have HO := Lib.hid hO; have HM := Lib.hid hm; clear hV hO hm)
  obtain ⟨-, -, -, -, -, -, -, -, ⟨c8, f8⟩⟩ := HO.out.facts
  rw [HV.out.M] at c8 f8
  obtain ⟨A, c, hvc⟩ := row_form HO.out.ch
  rw [hvc] at c8
  have HC := Lib.hid (show w1.ownsRow base 96 10 (.slice A t.ch.length c) t.ch.length (flat encCg t.ch) from by rw [← hvc]; exact HO.out.ch)
  have HR : Hid (TmRes base w v { t with ch := [] } (w1.setCell ⟨v.M, 8, none⟩ (.slice none 0 0))) := Lib.hid (by
    refine TmRes.trans HV.out HM.out (HO.out.put (t' := { t with ch := [] }) (v' := { v1 with vc := .slice none 0 0 }) rfl rfl rfl rfl HO.out.ad (.inl ⟨rfl, rfl⟩) (.inr ⟨rfl, rfl⟩) rfl rfl rfl (by rw [HV.out.M]; exact (Mod.refl _ _).setCell (a := ⟨v.M, 8, none⟩) (.inl (by simp)) _) ?_)
    have := heap_setCell_eq (o := 8) (v := .slice none 0 0) HO.out.blk
    rw [List.setIfInBounds_toArray] at this
    rw [HV.out.M] at this ⊢
    exact this)
  have HC2 : Hid ((w1.setCell ⟨v.M, 8, none⟩ (.slice none 0 0)).ownsRow base 96 10 (.slice A t.ch.length c) t.ch.length (flat encCg t.ch)) := Lib.hid (owns_mod HC.out ((Mod.refl [v.M] _).setCell (a := ⟨v.M, 8, none⟩) (.inl (by simp)) _) (fun g hg hx => HO.out.mc (by rw [HV.out.M, hvc, ← List.mem_singleton.1 hx]; exact hg)))
  clear hvc
  go_wp2
  go_ret
  exact ⟨A, c, rfl, HC2.out, HR.out⟩
set_option maxRecDepth 100000 in
theorem zState_any {v : Zv} {p : Pz} (h : PzO base w v p) : Calls Tryz.prog 45 #[.pointer (some ⟨v.P, 0, none⟩)] w fun e w' => e = .returned (.int .i64 p.state) ∧ w = w' := by
  obtain ⟨-, -, -, -, -, -, -, -, ⟨c8, -⟩⟩ := h.blk.facts
  clear h
  go_enter Tryz.func45, Tryz.ntmps45
  go_wp2
  go_ret
  exact ⟨rfl, rfl⟩
set_option maxRecDepth 100000 in
set_option maxHeartbeats 1600000 in
theorem zHeld_any {v : Zv} {p : Pz} (h : PzO base w v p) (hok : PzOk p) : Calls Tryz.prog 46 #[.pointer (some ⟨v.P, 0, none⟩)] w fun e w' => e = .returned (.int .i64 (heldP p)) ∧ Below w.heap.size w w' := by
  have HSz : Hid (∀ w', Below w.heap.size w w' → Calls Tryz.prog 85 #[.pointer (some ⟨v.P, 0, none⟩)] w' fun e w2 => e = .returned (.int .i64 ((p.head.length : Int) + p.inter.length + p.text.length)) ∧ Below w'.heap.size w' w2) := Lib.hid (fun w' hb => by
    have h := h.below hb
    obtain ⟨A0, k0, hv0⟩ := row_form (h.row 0 (by omega))
    obtain ⟨A1, k1, hv1⟩ := row_form (h.row 1 (by omega))
    obtain ⟨A2, k2, hv2⟩ := row_form (h.row 2 (by omega))
    obtain ⟨-, ⟨c1, -⟩, ⟨c2, -⟩, ⟨c3, -⟩, -, -, -, -, -⟩ := h.blk.facts
    rw [hv0] at c1
    rw [hv1] at c2
    rw [hv2] at c3
    have z0 : (p.r 0).length ≤ 256 := hok.head.1
    have z1 : (p.r 1).length ≤ 2 := hok.inter.1
    have z2 : (p.r 2).length ≤ 65536 := by have := hok.text.1; have := hok.most; show p.text.length ≤ _; omega
    show Calls _ _ _ w' fun e w2 => e = .returned (.int .i64 (((p.r 0).length : Int) + (p.r 1).length + (p.r 2).length)) ∧ Below w'.heap.size w' w2
    generalize (p.r 0).length = n0 at c1 z0 ⊢
    generalize (p.r 1).length = n1 at c2 z1 ⊢
    generalize (p.r 2).length = n2 at c3 z2 ⊢
    have hw1 : IntKind.i64.wrap ((n0 : Int) + n1) = (n0 : Int) + n1 := IntWalk.i64_in _ (by omega)
    have hw2 : IntKind.i64.wrap ((n0 : Int) + n1 + n2) = (n0 : Int) + n1 + n2 := IntWalk.i64_in _ (by omega)
    clear h hok hb hv0 hv1 hv2
    go_enter Tryz.func85, Tryz.ntmps85
    go_upto_region 1 with fail
    refine wp_region_u 16 (fun w2 => Below w'.heap.size w' w2 ∧ w2.cell? ⟨v.P, 1, none⟩ = some (.slice A0 n0 k0) ∧ w2.cell? ⟨v.P, 2, none⟩ = some (.slice A1 n1 k1) ∧ w2.cell? ⟨v.P, 3, none⟩ = some (.slice A2 n2 k2)) (by kernel_rfl) (by kernel_rfl) ?_ ?_
    · exact ⟨(Below.refl _ _).drew, c1, c2, c3⟩
    simp only [List.take_succ_cons, List.take_zero, List.drop_succ_cons, List.drop_zero]
    repeat (
      (first
       | refine seqU_skip (by rfl) ?_
       | (refine seqU_val ?_ (by rfl) ?_ ?_; rotate_left; (focus (intro w' hS; obtain ⟨_, _, _, _⟩ := hS; go_simp; first | done | with_reducible rfl))))
      simp only [Act.put, List.setIfInBounds_toArray, List.set_cons_zero, List.set_cons_succ])
    refine seqU_nil (fun w' hS => ?_)
    obtain ⟨hb, -⟩ := hS
    go_wp2
    go_ret
    exact ⟨rfl, hb⟩)
  have HLf : Hid (∀ w', Below w.heap.size w w' → Calls Tryz.prog 86 #[.pointer (some ⟨v.P, 9, none⟩)] w' fun e w2 => e = .returned (.int .i64 p.dec.hv) ∧ w' = w2) := Lib.hid (fun w' hb => by
    obtain ⟨c, -⟩ := at_ (h.below hb).blk 11 (.int .i64 p.dec.hv) rfl
    clear h hok hb
    go_enter Tryz.func86, Tryz.ntmps86
    go_wp2
    go_ret
    exact ⟨rfl, rfl⟩)
  have hz : 0 ≤ p.dec.hv ∧ p.dec.hv ≤ 4 := by have := hok.dec.hv; have := hok.dec.need; omega
  have hz2 : (p.head.length : Int) + p.inter.length + p.text.length ≤ 100000 := by have := hok.head.1; have := hok.inter.1; have := hok.text.1; have := hok.most; omega
  have hz3 : 0 ≤ (p.head.length : Int) + p.inter.length + p.text.length := by omega
  unfold heldP
  generalize (p.head.length : Int) + p.inter.length + p.text.length = n at HSz hz2 hz3 ⊢
  generalize p.dec.hv = q at HLf hz ⊢
  have hw1 : IntKind.i64.wrap (n + q) = n + q := IntWalk.i64_in _ (by omega)
  clear h hok
  go_enter Tryz.func46, Tryz.ntmps46
  go_upto_region 3 with fail
  refine wp_region_u 7 (fun w' => Below w.heap.size w w') (by kernel_rfl) (by kernel_rfl) ?_ ?_
  · exact (Below.refl _ _).drew
  simp only [List.take_succ_cons, List.take_zero, List.drop_succ_cons, List.drop_zero]
  repeat (
    (first
     | refine seqU_skip (by rfl) ?_
     | ((refine seqU_call 85 #[.pointer (some ⟨v.P, 0, none⟩)] (.int .i64 n) (by rfl) ?_ (fun w' hS => (HSz.out w' hS).mono fun e w2 ⟨he, hb⟩ => ⟨he, below_tail hS hb⟩) ?_; (focus (intro w2; go_simp; done))))
     | (refine seqU_val ?_ (by rfl) ?_ ?_; rotate_left; (focus (intro w' hS; obtain hS0 := hS; go_simp; first | done | with_reducible rfl))))
    simp only [Act.put, List.setIfInBounds_toArray, List.set_cons_zero, List.set_cons_succ])
  refine seqU_nil (fun w' hS => ?_)
  have HB := Lib.hid hS
  clear hS
  go_wp2_with (go_at_call 86; (with_reducible refine (HLf.out _ HB.out).mono ?_); rintro e w2 ⟨rfl, rfl⟩)
  go_ret
  exact ⟨rfl, HB.out⟩
set_option maxRecDepth 100000 in
set_option maxHeartbeats 1600000 in
theorem tRest_any (h : TmO base w v t) (hok : PzOk t.pz) : Calls Tryz.prog 19 #[.pointer (some ⟨v.M, 0, none⟩)] w fun e w' => e = .returned (.bool (restB t)) ∧ Below w.heap.size w w' := by
  have HS := Lib.hid (zState_any h.z)
  have HH := Lib.hid (zHeld_any h.z hok)
  obtain ⟨c0, -⟩ := h.facts
  clear h hok
  unfold restB
  generalize t.pz.state = q at HS ⊢
  generalize heldP t.pz = n at HH ⊢
  by_cases hq : q = 0
  · subst hq
    by_cases hn : n = 0
    · subst hn
      go_enter Tryz.func19, Tryz.ntmps19
      go_wp2_with (first
        | (go_at_call 45; (with_reducible refine HS.out.mono ?_); rintro e w1 ⟨rfl, rfl⟩)
        | (go_at_call 46; (with_reducible refine HH.out.mono ?_); rintro e w1 ⟨rfl, hb⟩))
      go_ret
      exact ⟨rfl, hb⟩
    · have hn2 : (n == 0) = false := by simpa using hn
      go_enter Tryz.func19, Tryz.ntmps19
      go_wp2_with (first
        | (go_at_call 45; (with_reducible refine HS.out.mono ?_); rintro e w1 ⟨rfl, rfl⟩)
        | (go_at_call 46; (with_reducible refine HH.out.mono ?_); rintro e w1 ⟨rfl, hb⟩))
      go_ret
      exact ⟨by simp [hn], hb⟩
  · have hq2 : (q == 0) = false := by simpa using hq
    clear HH
    go_enter Tryz.func19, Tryz.ntmps19
    go_wp2_with (go_at_call 45; (with_reducible refine HS.out.mono ?_); rintro e w1 ⟨rfl, rfl⟩)
    go_ret
    exact ⟨by simp [hq], Below.refl _ _⟩
end
end Go.Proofs.YtaefcahblmopfaaGreatDoor
