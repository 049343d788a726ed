/- The program's blocks in memory; last, reached, open, newest, reach. Conditions: as stated. -/
import Derived.Test.YtgfaincejebogaaGnA
import Derived.Test.YtgfaincejebogaaBlP
import Derived.Test.YtgfaincejebogaaRegU
import Derived.Deep.CutBlock
import Derived.Deep.DeepCutAuto
import Derived.Deep.QuietTactic
import Derived.BigQuiet
namespace Go.Proofs.Ytgfaincejebogaa
open Go.RowKit

def entHead (E : Ent) : List Value := [.int .i64 E.code, .bool E.has, .bool E.cut, .string E.dir, .string E.line, .int .u64 E.id]
def entCells (E : Ent) : List Value := entHead E ++ (flat encP E.pl ++ [.int .i64 E.ph])
def EntAt (w : World) (b : Nat) (E : Ent) : Prop := w.heap[b]? = some (.cells (entCells E).toArray 68 (0, 0))
theorem get_mid {α : Type} (a b c : List α) (j n : Nat) (hn : a.length = n) (h : j < b.length) : (a ++ (b ++ c))[n + j]? = b[j]? := by
  rw [List.getElem?_append_right (by omega), hn, Nat.add_sub_cancel_left, List.getElem?_append_left h]
theorem set_mid {α : Type} (a b c : List α) (j n : Nat) (v : α) (hn : a.length = n) (h : j < b.length) : (a ++ (b ++ c)).set (n + j) v = a ++ (b.set j v ++ c) := by
  rw [List.set_append_right _ _ (by omega), hn, Nat.add_sub_cancel_left, List.set_append_left _ _ h]
theorem ent_place {E : Ent} {i : Nat} {p : P2} (h : E.pl[i]? = some p) : (entCells E)[6 + i * 2]? = some (.int .i64 p.1) ∧ (entCells E)[6 + i * 2 + 1]? = some (.int .i64 p.2) := by
  have hi := (List.getElem?_eq_some_iff.1 h).1
  have hl : (flat encP E.pl).length = E.pl.length * 2 := flat_len encP_len _
  have f0 := flat_at (enc := encP) (k := 2) encP_len E.pl i p h 0 (by omega)
  have f1 := flat_at (enc := encP) (k := 2) encP_len E.pl i p h 1 (by omega)
  rw [Nat.add_zero] at f0
  unfold entCells
  rw [Nat.add_assoc, get_mid _ _ _ _ 6 rfl (by omega), get_mid _ _ _ _ 6 rfl (by omega), f0, f1]
  exact ⟨rfl, rfl⟩
theorem ent_ph {E : Ent} (h : E.pl.length = 4) : (entCells E)[14]? = some (.int .i64 E.ph) := by
  have hl : (flat encP E.pl).length = E.pl.length * 2 := flat_len encP_len _
  have e6 : (entHead E).length = 6 := rfl
  unfold entCells
  rw [List.getElem?_append_right (by rw [e6]; omega), e6, List.getElem?_append_right (by omega), hl, h]
  rfl
theorem ent_set_place {E : Ent} {i : Nat} (h : i < E.pl.length) (p : P2) : ((entCells E).set (6 + i * 2) (.int .i64 p.1)).set (6 + i * 2 + 1) (.int .i64 p.2) = entCells { E with pl := E.pl.set i p } := by
  have hl : (flat encP E.pl).length = E.pl.length * 2 := flat_len encP_len _
  have hl1 : ((flat encP E.pl).set (i * 2) (.int .i64 p.1)).length = E.pl.length * 2 := by rw [List.length_set, hl]
  unfold entCells
  rw [Nat.add_assoc, set_mid _ _ _ _ 6 _ rfl (by omega), set_mid _ _ _ _ 6 _ rfl (by omega), flat_set E.pl i p h]
  rfl
theorem ent_set_ph {E : Ent} (h : E.pl.length = 4) (n : Nat) : (entCells E).set 14 (.int .i64 n) = entCells { E with ph := n } := by
  have e6 : (entHead E).length = 6 := rfl
  have hl : (flat encP E.pl).length = E.pl.length * 2 := flat_len encP_len _
  unfold entCells
  rw [List.set_append_right _ _ (by rw [e6]; omega), e6, List.set_append_right _ _ (by omega), hl, h]
  rfl
theorem EntAt.place {w : World} {b : Nat} {E : Ent} (h : EntAt w b E) {i : Nat} {p : P2} (hp : E.pl[i]? = some p) : HoldAt w b (6 + i * 2) (.int .i64 p.1) ∧ HoldAt w b (6 + i * 2 + 1) (.int .i64 p.2) := ⟨whole_at h _ _ (ent_place hp).1, whole_at h _ _ (ent_place hp).2⟩
theorem EntAt.phase {w : World} {b : Nat} {E : Ent} (h : EntAt w b E) (h4 : E.pl.length = 4) : HoldAt w b 14 (.int .i64 E.ph) := whole_at h _ _ (ent_ph h4)
theorem EntAt.lt {w : World} {b : Nat} {E : Ent} (h : EntAt w b E) : b < w.heap.size := (Array.getElem?_eq_some_iff.1 h).1
theorem EntAt.mod {X : List Nat} {w w' : World} {b : Nat} {E : Ent} (h : EntAt w b E) (hm : Mod X w w') (hX : b ∉ X) : EntAt w' b E := (hm.block b h.lt hX).trans h
theorem EntAt.below {w w' : World} {b : Nat} {E : Ent} (h : EntAt w b E) (hb : Below w.heap.size w w') : EntAt w' b E := h.mod (Mod.of_below (X := []) hb) (fun h => by cases h)
theorem EntAt.setPlace {w : World} {b : Nat} {E : Ent} (h : EntAt w b E) {i : Nat} (hi : i < E.pl.length) (p : P2) : EntAt ((w.setCell ⟨b, 6 + i * 2, none⟩ (.int .i64 p.1)).setCell ⟨b, 6 + i * 2 + 1, none⟩ (.int .i64 p.2)) b { E with pl := E.pl.set i p } :=
  whole_set (whole_set h _ _ rfl) _ _ (ent_set_place hi p)
theorem EntAt.setPhase {w : World} {b : Nat} {E : Ent} (h : EntAt w b E) (h4 : E.pl.length = 4) (n : Nat) : EntAt (w.setCell ⟨b, 14, none⟩ (.int .i64 n)) b { E with ph := n } := whole_set h _ _ (ent_set_ph h4 n)
theorem at_get {E : Ent} {i : Nat} (h : i < E.pl.length) : E.pl[i]? = some (E.at_ i) := by
  unfold Ent.at_
  rw [List.getD_eq_getElem?_getD, List.getElem?_eq_getElem h]; rfl
set_option maxHeartbeats 800000 in
theorem blright_any (r c : Int) (w : World) :
    Calls Try.prog 24 #[.agg #[.int .i64 r, .int .i64 c]] w fun e w' => e = .returned (.bool (inB r && inB c)) ∧ Below w.heap.size w w' := by
  rcases (show r < 0 ∨ (0 ≤ r ∧ 1099511627776 < r) ∨ (0 ≤ r ∧ r ≤ 1099511627776 ∧ c < 0) ∨ (0 ≤ r ∧ r ≤ 1099511627776 ∧ 0 ≤ c) by omega) with h1 | ⟨h1, h2⟩ | ⟨h1, h2, h3⟩ | ⟨h1, h2, h3⟩
  · have e : (inB r && inB c) = false := by simp [inB]; omega
    rw [e]; clear e
    go_enter Try.func24, Try.ntmps24
    go_wp2
    go_ret
    exact ⟨by simp, below_allocs (Below.refl _ _) _⟩
  · have e : (inB r && inB c) = false := by simp [inB]; omega
    rw [e]; clear e
    go_enter Try.func24, Try.ntmps24
    go_wp2
    go_ret
    exact ⟨by simp, below_allocs (Below.refl _ _) _⟩
  · have e : (inB r && inB c) = false := by simp [inB]; omega
    rw [e]; clear e
    go_enter Try.func24, Try.ntmps24
    go_wp2
    go_ret
    exact ⟨by simp, below_allocs (Below.refl _ _) _⟩
  · have e : (inB r && inB c) = decide (c ≤ 1099511627776) := by simp [inB, h1, h2, h3]
    rw [e]; clear e
    go_enter Try.func24, Try.ntmps24
    go_wp2
    go_ret
    exact ⟨by simp, below_allocs (Below.refl _ _) _⟩
def PosPost1 (w : World) (p : P2) (e : Ending) (w' : World) : Prop := e = .returned (.agg #[.int .i64 p.1, .int .i64 p.2]) ∧ Below w.heap.size w w'
set_option maxRecDepth 100000 in
set_option maxHeartbeats 1600000 in
theorem last_any (b : Nat) (E : Ent) (w : World) (hE : EntAt w b E) (ok : EntOk E) : Calls Try.prog 22 #[.pointer (some ⟨b, 0, none⟩)] w (PosPost1 w E.last) := by
  obtain ⟨h4, hlo, hhi⟩ := ok
  obtain ⟨k, hk⟩ : ∃ k : Nat, E.ph = k + 1 := ⟨E.ph - 1, by omega⟩
  have hkl : k < E.pl.length := by omega
  have hph := (hE.phase h4).1
  obtain ⟨⟨c0, -⟩, c1, -⟩ := hE.place (at_get hkl)
  have hl : E.last = E.at_ k := by unfold Ent.last; rw [hk]; rfl
  have hb := hE.lt
  rw [hl]
  generalize E.at_ k = p at c0 c1 ⊢
  generalize hph2 : E.ph = ph at hph hk
  have hk4 : (k : Int) < 4 := by omega
  have hw : IntKind.i64.wrap ((ph : Int) - 1) = (k : Int) := by rw [IntWalk.i64_in _ (by omega)]; omega
  clear hl hE hph2 hlo hhi h4 hkl hk
  go_enter Try.func22, Try.ntmps22
  go_upto_region 1 with fail
  refine wp_region_u 10 (fun w' => Below (w.alloc (.cells #[.int .i64 0, .int .i64 0] 24)).heap.size (w.alloc (.cells #[.int .i64 0, .int .i64 0] 24)) w' ∧ w'.cell? ⟨b, 14, none⟩ = some (.int .i64 ph) ∧ w'.cell? ⟨b, 6 + k * 2, none⟩ = some (.int .i64 p.1) ∧ w'.cell? ⟨b, 6 + k * 2 + 1, none⟩ = some (.int .i64 p.2)) (by kernel_rfl) (by kernel_rfl) ?_ ?_
  · exact ⟨(Below.refl _ _).drew, by go_simp, by go_simp, by go_simp⟩
  simp only [List.take_succ_cons, List.take_zero, List.drop_succ_cons, List.drop_zero]
  repeat (refine seqU_val ?_ (by rfl) ?_ ?_; rotate_left; · (intro w' hS; obtain ⟨_, _⟩ := hS; go_simp; first | done | with_reducible rfl)
          simp only [Act.put, List.setIfInBounds_toArray, List.set_cons_zero, List.set_cons_succ])
  refine seqU_nil (fun w' hS => ?_)
  have hb1 := hS.1
  clear hS c0 c1 hph
  have hB := below_tail (show Below w.heap.size w _ from by repeat (first | exact Below.refl _ _ | refine below_allocs ?_ _ | refine below_drewNs ?_ _ | refine Below.drew ?_)) hb1; have q0 := at_new (b := w.heap.size) hb1 (by repeat (first | (refine hp_new ?_; simp; done) | refine hp_old ?_ | refine hp_drewN ?_ | refine hp_drew ?_)) 0 (.int .i64 0) rfl; have q1 := at_new (b := w.heap.size) hb1 (by repeat (first | (refine hp_new ?_; simp; done) | refine hp_old ?_ | refine hp_drewN ?_ | refine hp_drew ?_)) 1 (.int .i64 0) rfl
  go_wp2
  have z := lt_of_cell q0.1
  refine bodyPost_ret (v := .agg #[.int .i64 p.1, .int .i64 p.2]) (by simp [results, Try.results22, go_sem, q0, q1]) rfl ⟨rfl, ?_⟩
  repeat (first | exact hB | refine below_set ?_ (by omega) _)
set_option maxRecDepth 100000 in
set_option maxHeartbeats 1600000 in
theorem reached_any (b : Nat) (E : Ent) (w : World) (hE : EntAt w b E) (ok : EntOk E) : Calls Try.prog 30 #[.pointer (some ⟨b, 0, none⟩)] w fun e w' => e = .returned (.slice (some ⟨b, 6, none⟩) E.ph 4) ∧ Below w.heap.size w w' := by
  obtain ⟨h4, hlo, hhi⟩ := ok
  have hph := (hE.phase h4).1
  generalize E.ph = ph at hph hlo hhi ⊢
  have hi4 : (ph : Int) ≤ 4 := by omega
  have hi4' : (ph : Int).toNat = ph := by simp
  clear hE h4
  go_enter Try.func30, Try.ntmps30
  go_wp2_with fail
  refine wp_region_u 8 (fun w' => Below w.heap.size w w' ∧ w'.cell? ⟨b, 14, none⟩ = some (.int .i64 ph)) (by kernel_rfl) (by kernel_rfl) ?_ ?_
  · exact ⟨(Below.refl _ _).drew, hph⟩
  simp only [List.take_succ_cons, List.take_zero, List.drop_succ_cons, List.drop_zero]
  repeat (refine seqU_val ?_ (by rfl) ?_ ?_; rotate_left; · (intro w' hS; obtain ⟨_, _⟩ := hS; go_simp; first | done | with_reducible rfl)
          simp only [Act.put, List.setIfInBounds_toArray, List.set_cons_zero, List.set_cons_succ])
  refine seqU_nil (fun w' hS => ?_)
  have hb1 := hS.1
  clear hS hph
  go_wp2
  go_ret
  exact ⟨rfl, hb1⟩
set_option maxRecDepth 100000 in
set_option maxHeartbeats 1600000 in
theorem open_any (b : Nat) (E : Ent) (x y : Int) (w : World) (hE : EntAt w b E) (h4 : E.pl.length = 4) : Calls Try.prog 26 #[.pointer (some ⟨b, 0, none⟩), .int .i64 x, .int .i64 y] w fun e w' => e = .returned (.bool (decide (x ≤ (E.ph : Int)) && decide ((E.ph : Int) ≤ y))) ∧ w = w' := by
  have hph := (hE.phase h4).1
  generalize E.ph = ph at hph ⊢
  clear hE h4
  by_cases h1 : x ≤ (ph : Int)
  · go_enter Try.func26, Try.ntmps26
    go_wp2
    go_ret
    exact ⟨by simp [h1], rfl⟩
  · have h1' : (ph : Int) < x := by omega
    clear h1
    go_enter Try.func26, Try.ntmps26
    go_wp2
    go_ret
    exact ⟨by simp; omega, rfl⟩
theorem open_nil (x y : Int) (w : World) : Calls Try.prog 26 #[.pointer none, .int .i64 x, .int .i64 y] w fun e w' => e = .returned (.bool false) ∧ w = w' := by
  go_enter Try.func26, Try.ntmps26
  go_wp2
  go_ret
  exact ⟨rfl, rfl⟩
end Go.Proofs.Ytgfaincejebogaa
