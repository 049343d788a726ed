/- Cells: with. Conditions: as stated. -/
import Derived.Test.YtffdblmdelgkaaaGreatCeC
import Derived.Lib.SmallJoins
namespace Go.Proofs.YtffdblmdelgkaaaGreat
open Go.RowKit

theorem info_cellz : (Tryz.prog.info? 109).map (fun i => (i.zero, i.size, i.bytes)) = some (some (.agg #[.int .i32 0, .string ByteArray.empty, .int .i64 0, .int .i64 0, .int .i64 0, .int .i64 0, .int .i64 0, .int .i64 0]), 8, 72) := by kernel_rfl
def WithPost (l : List Cl) (w : World) (e : Ending) (w' : World) : Prop := ∃ g cap, e = .returned (.slice (some ⟨g, 0, none⟩) l.length cap) ∧ CrO w' w.heap.size g cap l ∧ Below w.heap.size w w'
set_option maxRecDepth 100000 in
set_option maxHeartbeats 3200000 in
theorem cwith_any (A : Option Addr) (l : List Cl) (ca : Nat) (f : FuncId) (capt : Array Value) (F : List Cl → List Cl) (w : World) (hl : GrAt encCl 8 w A l) (h0 : 0 < l.length) (hz : l.length ≤ 10000) (hF : (F (mendL l)).length = l.length) (hf : ∀ (args : Array Value) (w : World), (callFunc f args).run Tryz.prog w = .ok (.enter f args) w)
    (hdo : ∀ g cap w', CrO w' w.heap.size g cap (mendL l) → Below w.heap.size w w' → Calls Tryz.prog f (#[.slice (some ⟨g, 0, none⟩) l.length cap] ++ capt) w' (MendPost w.heap.size g cap (F (mendL l)) w')) :
    Calls Tryz.prog 114 #[.slice A l.length ca, .func (.func f) #[] capt] w (WithPost (mendL (F (mendL l))) w) := by
  obtain ⟨j0, hj, gz0, gz1, gz2⟩ := info_parts info_cellz
  obtain ⟨b, off, rfl, -⟩ := hl h0
  have HN := Lib.hid (hl.news encCl_len)
  have HFL := Lib.hid (flat_len encCl_len l)
  have HDO := Lib.hid hdo
  clear hl hdo
  go_enter Tryz.func114, Tryz.ntmps114
  go_upto_region 1 with fail
  refine wp_region_lit ?_
  refine wpList_valG (.slice (some ⟨b, off, none⟩) l.length ca) (by rfl) (by rfl) ?_
  simp only [Act.put, List.setIfInBounds_toArray, List.set_cons_zero, List.set_cons_succ]
  refine wpList_append_own _ rfl (.const (.slice none 0 0)) (.tmp 6) _ rfl w.heap.size 109 j0 (.agg #[.int .i32 0, .string ByteArray.empty, .int .i64 0, .int .i64 0, .int .i64 0, .int .i64 0, .int .i64 0, .int .i64 0]) 8 72 Tryz.underlying48 hj gz0 gz1 gz2 rfl (by decide) _ _ _ rfl (World.ownsRow_nil _ _ _ _) ⟨b, off, none⟩ l.length ca (flat encCl l) rfl HFL.out HN.out (flat_one encCl_one l) (by simp only [maxLen]; omega) (by omega) (by simp <;> omega) ?_
  intro v1 w1 hown1 hg1 _
  rw [Nat.zero_add] at hown1
  obtain ⟨g, cap, hv⟩ := Go.Joins.ownsRow_form hown1 (by omega)
  subst hv
  have hB1 : Below w.heap.size w w1 := (Below.refl _ _).grown hg1 (Nat.le_refl _) (fun k hk => by cases hk)
  have C1 : CrO w1 w.heap.size g cap l := by unfold CrO; simpa using hown1
  have HB1 := Lib.hid hB1
  have HM1 := Lib.hid (cmend_any w.heap.size g cap l w1 C1 hz)
  have HM2 : Hid (∀ w', CrO w' w.heap.size g cap (F (mendL l)) → Calls Tryz.prog 142 #[.slice (some ⟨g, 0, none⟩) l.length cap] w' (MendPost w.heap.size g cap (mendL (F (mendL l))) w')) := Lib.hid (fun w' h => by
    have := cmend_any w.heap.size g cap (F (mendL l)) w' h (by rw [hF]; exact hz)
    rwa [hF] at this)
  have hgb := C1.lt
  clear hown1 hg1 hB1 C1
  go_wp2_with (first
    | (go_at_call 142; first
        | (have hpv := HC3.out; clear hpv; refine (HM2.out _ HC3.out).mono ?_; rintro e w4 ⟨rfl, hc4, hm4⟩; have HC4 := Lib.hid hc4; have HB4 := Lib.hid (HB3.out.trans (hm4.below (B := w.heap.size) (fun x hx => by rw [List.mem_singleton.1 hx]; exact hgb.1) HB3.out.size)); clear hc4 hm4)
        | (refine HM1.out.mono ?_; rintro e w2 ⟨rfl, hc2, hm2⟩; have HC2 := Lib.hid hc2; have HB2 := Lib.hid (HB1.out.trans (hm2.below (B := w.heap.size) (fun x hx => by rw [List.mem_singleton.1 hx]; exact hgb.1) HB1.out.size)); clear hc2 hm2))
    | (refine (HDO.out g cap _ HC2.out HB2.out).mono ?_; rintro e w3 ⟨rfl, hc3, hm3⟩; have HC3 := Lib.hid hc3; have HB3 := Lib.hid (HB2.out.trans (hm3.below (B := w.heap.size) (fun x hx => by rw [List.mem_singleton.1 hx]; exact hgb.1) HB2.out.size)); clear hc3 hm3))
  go_ret
  exact ⟨g, cap, by rw [mendL_len, hF]; rfl, HC4.out, HB4.out⟩
end Go.Proofs.YtffdblmdelgkaaaGreat
