/- Slices of numbers; the document's Next and Ahead, and how far two rows are from each other. Conditions: none. -/
import Derived.Test.YtfadcmjdlfobhaaJuPl2
import Derived.Test.YtfadcmjdlfobhaaSoR
import Derived.Deep.QuietTactic
import Derived.BigQuiet
import Derived.IntWalk
import Derived.Lib.SmallJoins
import Derived.Deep.LoopGhost
import Derived.Deep.DeepCutAuto
namespace Go.Proofs.Ytfadcmjdlfobhaa
open Go.RowKit

def okI (x : Int) : Prop := -9223372036854775808 ≤ x ∧ x ≤ 9223372036854775807
def IntsAt (w : World) (A : Option Addr) (l : List Int) : Prop := 0 < l.length → ∃ b off, A = some ⟨b, off, none⟩ ∧ ∀ i x, l[i]? = some x → w.cell? ⟨b, off + i, none⟩ = some (.int .i64 x)
theorem IntsAt.below {w w1 : World} {A : Option Addr} {l : List Int} (h : IntsAt w A l) (hb : Below w.heap.size w w1) : IntsAt w1 A l := fun hl => by
  obtain ⟨b, off, e, hc⟩ := h hl
  exact ⟨b, off, e, fun i x hx => holda hb (hc i x hx)⟩
theorem IntsAt.at_ {w : World} {A : Option Addr} {l : List Int} (h : IntsAt w A l) {i : Nat} (hi : i < l.length) : ∃ b off x, A = some ⟨b, off, none⟩ ∧ l[i]? = some x ∧ w.cell? ⟨b, off + i, none⟩ = some (.int .i64 x) := by
  obtain ⟨b, off, hA, hc⟩ := h (by omega)
  exact ⟨b, off, l[i], hA, List.getElem?_eq_getElem hi, hc i _ (List.getElem?_eq_getElem hi)⟩
def vals (xs : List Int) : List Value := xs.map (Value.int .i64)
theorem vals_snoc (xs : List Int) (x : Int) : vals xs ++ [Value.int .i64 x] = vals (xs ++ [x]) := by simp [vals]
theorem vals_len (xs : List Int) : (vals xs).length = xs.length := by simp [vals]
theorem vals_one (xs : List Int) : ∀ u ∈ vals xs, u.oneCell' = true := fun u hu => by
  obtain ⟨x, _, rfl⟩ := List.mem_map.1 hu; rfl
theorem info_int : (Try.prog.info? 3).map (fun i => (i.zero, i.size, i.bytes)) = some (some (.int .i64 0), 1, 8) := by kernel_rfl
theorem IntsAt.news {w : World} {ad : Addr} {l : List Int} (h : IntsAt w (some ad) l) : ∀ j u, (vals l)[j]? = some u → w.cell? (ad.add j) = some u := by
  intro j u hj
  have hlt := (List.getElem?_eq_some_iff.1 hj).1
  rw [vals_len] at hlt
  obtain ⟨b, off, e, hc⟩ := h (by omega)
  obtain rfl : ad = ⟨b, off, none⟩ := by simpa using e
  rw [add_lit', hc j _ (List.getElem?_eq_getElem hlt), ← hj]
  simp [vals, hlt]
theorem ints_of_owns {w : World} {base : Nat} {e : TypeId} {v : Value} {n : Nat} {l : List Int} (h : w.ownsRow base e 1 v n (vals l)) (hn : n = l.length) :
    ∃ (A : Option Addr) (c : Nat), v = .slice A l.length c ∧ l.length ≤ c ∧ (A = none → c = 0) ∧ c ≤ 9223372036854775807 ∧ IntsAt w A l := by
  subst hn
  rcases h.2 with ⟨rfl, h0⟩ | ⟨g, cap, cur, rfl, _, _, hcap, hmax, _, _⟩
  · have e0 : l = [] := List.length_eq_zero_iff.1 h0
    subst e0
    exact ⟨none, 0, rfl, Nat.le_refl _, fun _ => rfl, Nat.zero_le _, fun h => absurd h (by simp)⟩
  · refine ⟨some ⟨g, 0, none⟩, cap, rfl, hcap, fun e => (by cases e), hmax, fun _ => ⟨g, 0, rfl, fun i x hi => ?_⟩⟩
    have hlt := (List.getElem?_eq_some_iff.1 hi).1
    rw [Nat.zero_add, h.cellAt _ (by omega)]
    simp [vals, hi]
theorem nxt_take {l : List Int} {a : Int} {k : Nat} {x : Int} (h : l[k]? = some x) : nxt (l.take (k + 1)) a = bestN a (nxt (l.take k) a) x := by
  have hk := List.getElem?_eq_some_iff.1 h
  rw [List.take_succ_eq_append_getElem hk.1, nxt_snoc, hk.2]
theorem ahd_take {l : List Int} {a : Int} {k : Nat} {x : Int} (h : l[k]? = some x) : ahd (l.take (k + 1)) a = bestA a (ahd (l.take k) a) x := by
  have hk := List.getElem?_eq_some_iff.1 h
  rw [List.take_succ_eq_append_getElem hk.1, ahd_snoc, hk.2]
def optI (o : Option Int) : Value := .tuple #[.int .i64 (o.getD 0), .bool o.isSome]
/-- Two numbers of 64 bits, one from the other, as numbers without a sign. -/
theorem u64_wrap (n : Int) : IntKind.u64.wrap n = n % 18446744073709551616 := by simp [IntKind.wrap, IntKind.signed, IntKind.bits]
theorem u64_sub {a b : Int} (h : b ≤ a) (ha : okI a) (hb : okI b) : IntKind.u64.wrap (IntKind.u64.wrap a - IntKind.u64.wrap b) = a - b := by
  unfold okI at ha hb
  rw [u64_wrap, u64_wrap, u64_wrap]
  omega
end Go.Proofs.Ytfadcmjdlfobhaa
