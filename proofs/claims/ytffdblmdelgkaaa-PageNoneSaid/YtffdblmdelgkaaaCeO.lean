/- A scalar's bytes: the walks. Cells: Mark. Cells: Mark: the walk. Cells: Mark; cells whose marks are short. Conditions: as stated. -/
import Derived.Test.YtffdblmdelgkaaaCeJ
import Derived.Test.YtffdblmdelgkaaaPgQ
import Derived.Laws.BytesArg
import Derived.Laws.BitsAllLaws
namespace Go.Proofs.Ytffdblmdelgkaaa
open Go.RowKit

def tailV (r : Int) : Nat → Int
  | 0 => 128 + r % 64
  | 1 => 128 + r / 64 % 64
  | _ => 128 + r / 4096 % 64
theorem or_lead (h i : Nat) (x : Int) (hh : h < 256) (hx0 : 0 ≤ x) (hx1 : x < 256) (hd : h % 2 ^ i = 0) (hx : x.toNat < 2 ^ i) : bits .or .u8 (h : Int) x = h + x := by
  rw [u8_or _ _ (by omega) (by omega) hx0 hx1, Int.toNat_natCast, nat_join i _ _ hd hx]
  omega
end Go.Proofs.Ytffdblmdelgkaaa

namespace Go.Proofs.Ytffdblmdelgkaaa
open Go.RowKit

def markO (o : List Cl) (x r : Int) : List Cl :=
  match o[x.toNat]? with
  | none => o
  | some c =>
    if x < 0 ∨ c.r = 0 ∨ widOf r ≠ 0 ∨ 32 < (c.more ++ putB r).size then o
    else
      let m := c.more ++ putB r
      let o1 := if c.half = 1 then o.modify (x.toNat + 1) (withMore m) else if c.half = 2 then o.modify (x.toNat - 1) (withMore m) else o
      o1.modify x.toNat (withMore m)
theorem markO_len (o : List Cl) (x r : Int) : (markO o x r).length = o.length := by
  unfold markO
  split
  · rfl
  split
  · rfl
  · simp only [List.length_modify]
    split
    · simp
    split <;> simp
theorem markL_O (l : List Cl) (x r : Int) : mendL (markO (mendL l) x r) = markL l x r := by
  unfold markO markL
  simp only []
  cases (mendL l)[x.toNat]? with
  | none => exact mendL_idem l
  | some c =>
    simp only []
    split
    · exact mendL_idem l
    · rfl
/-- What is true of each cell of a mended row: a left half has one behind it, a right half one ahead. -/
theorem mend_halves : ∀ (l : List Cl) (k : Nat) (c : Cl), (mendL l)[k]? = some c → (c.half = 1 → k + 1 < (mendL l).length) ∧ (c.half = 2 → 1 ≤ k)
  | [], k, c, h => by simp [mendL] at h
  | [d], k, c, h => by
    rw [mendL_one] at h ⊢
    split at h
    · next hd =>
      have : k = 0 := by have := (List.getElem?_eq_some_iff.1 h).1; simpa using this
      subst this
      simp at h
      subst h
      exact ⟨fun e => by omega, fun e => by omega⟩
    · have : k = 0 := by have := (List.getElem?_eq_some_iff.1 h).1; simpa using this
      subst this
      simp at h
      subst h
      exact ⟨fun e => by simp [emptyC, emptyA, mkCl] at e, fun e => by simp [emptyC, emptyA, mkCl] at e⟩
  | d :: e :: l, k, c, h => by
    rw [mendL_cons] at h ⊢
    split at h
    · next hd =>
      rw [if_pos hd]
      match k with
      | 0 =>
        simp at h
        subst h
        exact ⟨fun e => by omega, fun e => by omega⟩
      | k + 1 =>
        have := mend_halves (e :: l) k c (by simpa using h)
        exact ⟨fun h => by have := this.1 h; simp; omega, fun h => by omega⟩
    · next hd =>
      rw [if_neg hd]
      split at h
      · next hp =>
        rw [if_pos hp]
        match k with
        | 0 =>
          simp at h
          subst h
          refine ⟨fun e => by simp, fun e => ?_⟩
          unfold pairB at hp
          simp only [Bool.and_eq_true, decide_eq_true_eq] at hp
          omega
        | 1 =>
          simp at h
          subst h
          refine ⟨fun e => ?_, fun e => by omega⟩
          unfold pairB at hp
          simp only [Bool.and_eq_true, decide_eq_true_eq] at hp
          omega
        | k + 2 =>
          have := mend_halves l k c (by simpa using h)
          exact ⟨fun h => by have := this.1 h; simp; omega, fun h => by omega⟩
      · next hp =>
        rw [if_neg hp]
        match k with
        | 0 =>
          simp at h
          subst h
          exact ⟨fun e => by simp [emptyC, emptyA, mkCl] at e, fun e => by simp [emptyC, emptyA, mkCl] at e⟩
        | k + 1 =>
          have := mend_halves (e :: l) k c (by simpa using h)
          exact ⟨fun h => by have := this.1 h; simp; omega, fun h => by omega⟩
theorem CrO.more {w : World} {base g cap : Nat} {l : List Cl} (h : CrO w base g cap l) {i : Nat} (hi : i < l.length) (m : ByteArray) :
    CrO (w.setCell ⟨g, i * 8 + 1, none⟩ (.string m)) base g cap (l.modify i (withMore m)) := by
  have h1 := owns_set1 h (i * 8 + 1) (.string m)
  have hc : l[i]? = some l[i] := List.getElem?_eq_getElem hi
  rw [flat_set1 encCl_len l i l[i] (withMore m l[i]) 1 (.string m) hc (by decide) rfl] at h1
  unfold CrO
  rw [List.length_modify, show l.modify i (withMore m) = l.set i (withMore m l[i]) from by
    haveI : Inhabited Cl := ⟨zeroC⟩
    rw [List.modify_eq_set]; simp [hc]]
  exact h1
end Go.Proofs.Ytffdblmdelgkaaa

namespace Go.Proofs.Ytffdblmdelgkaaa
open Go.RowKit

theorem putB_size (r : Int) : (putB r).size ≤ 32 := by
  unfold putB
  split
  · split
    · exact (by decide : 1 ≤ 32)
    split
    · exact (by decide : 2 ≤ 32)
    split
    · exact (by decide : 3 ≤ 32)
    · exact (by decide : 4 ≤ 32)
  · exact Nat.zero_le _
theorem CrO.holdMore {w : World} {base g cap : Nat} {l : List Cl} (h : CrO w base g cap l) {i : Nat} {c : Cl} (hc : l[i]? = some c) : w.cell? ⟨g, i * 8 + 1, none⟩ = some (.string c.more) ∧ w.frozen? ⟨g, i * 8 + 1, none⟩ = false :=
  owns_hold h (i := i * 8 + 1) (by rw [flat_at2 encCl_len l i c 1 hc (by decide)]; rfl)
theorem CrO.len {w : World} {base g cap : Nat} {l : List Cl} {n : Nat} (h : CrO w base g cap l) (hn : l.length = n) : w.ownsRow base 79 8 (.slice (some ⟨g, 0, none⟩) n cap) n (flat encCl l) := by subst hn; exact h
end Go.Proofs.Ytffdblmdelgkaaa

namespace Go.Proofs.Ytffdblmdelgkaaa
open Go.RowKit

/-- Cells with no more than 32 bytes of marks each. -/
def Fine (l : List Cl) : Prop := ∀ c ∈ l, c.more.size ≤ 32
theorem fine_empty (c : Cl) : (emptyC c).more.size ≤ 32 := Nat.zero_le _
theorem Fine.mend : ∀ {l : List Cl}, Fine l → Fine (mendL l)
  | [], h => h
  | [c], h => by
    rw [mendL_one]
    split
    · exact h
    · intro d hd; rw [List.mem_singleton.1 hd]; exact fine_empty c
  | c :: d :: l, h => by
    rw [mendL_cons]
    have hc := h c (by simp)
    have hd := h d (by simp)
    have h1 : Fine (d :: l) := fun x hx => h x (by simp [List.mem_cons.1 hx])
    have h2 : Fine l := fun x hx => h x (by simp [hx])
    have i1 := Fine.mend h1
    have i2 := Fine.mend h2
    split
    · intro x hx
      rcases List.mem_cons.1 hx with rfl | hx
      · exact hc
      · exact i1 x hx
    split
    · intro x hx
      rcases List.mem_cons.1 hx with rfl | hx
      · exact hc
      rcases List.mem_cons.1 hx with rfl | hx
      · exact hd
      · exact i2 x hx
    · intro x hx
      rcases List.mem_cons.1 hx with rfl | hx
      · exact fine_empty c
      · exact i1 x hx
theorem Fine.set {l : List Cl} (h : Fine l) (i : Nat) {c : Cl} (hc : c.more.size ≤ 32) : Fine (l.set i c) := fun x hx => by
  rcases List.mem_or_eq_of_mem_set hx with hx | rfl
  · exact h x hx
  · exact hc
theorem Fine.append {l m : List Cl} (h : Fine l) (h2 : Fine m) : Fine (l ++ m) := fun x hx => by
  rcases List.mem_append.1 hx with hx | hx
  · exact h x hx
  · exact h2 x hx
theorem Fine.take {l : List Cl} (h : Fine l) (n : Nat) : Fine (l.take n) := fun x hx => h x (List.mem_of_mem_take hx)
theorem Fine.drop {l : List Cl} (h : Fine l) (n : Nat) : Fine (l.drop n) := fun x hx => h x (List.mem_of_mem_drop hx)
theorem fine_rep (n : Nat) (b : Col) : Fine (List.replicate n (blankC b)) := fun x hx => by rw [(List.mem_replicate.1 hx).2]; exact Nat.zero_le _
theorem Fine.wipe {l : List Cl} (h : Fine l) (off n : Nat) (b : Col) : Fine (wipeO l off n b) := ((h.take _).append (fine_rep _ _)).append (h.drop _)
theorem Fine.put {l : List Cl} (h : Fine l) (x r : Int) (a : Atr) : Fine (putL l x r a) := by
  rw [← putL_O]
  refine Fine.mend ?_
  unfold putO
  have hz : ∀ hf, (mkCl r ByteArray.empty hf a).more.size ≤ 32 := fun _ => Nat.zero_le _
  split
  · exact h.mend.set _ (hz _)
  split
  · exact (h.mend.set _ (hz _)).set _ (hz _)
  · exact h.mend
theorem Fine.close {l : List Cl} (h : Fine l) : Fine (closeL l) := (h.mend.set _ (show padC.more.size ≤ 32 from Nat.zero_le _)).mend
theorem Fine.erase {l : List Cl} (h : Fine l) (x y : Int) (b : Col) : Fine (eraseL l x y b) := by
  unfold eraseL
  rw [wipeL_O]
  unfold eraseO
  split
  · exact (h.mend.wipe _ _ _).mend
  · exact h.mend.mend
theorem Fine.insert {l : List Cl} (h : Fine l) (x n : Int) (b : Col) : Fine (insertL l x n b) := by
  rw [← insertL_O]
  refine Fine.mend ?_
  unfold insertO
  split
  · exact h.mend
  · exact ((h.mend.take _).append ((h.mend.drop _).take _)).wipe _ _ _
theorem Fine.delete {l : List Cl} (h : Fine l) (x n : Int) (b : Col) : Fine (deleteL l x n b) := by
  rw [← deleteL_O]
  refine Fine.mend ?_
  unfold deleteO
  split
  · exact h.mend
  · exact (((h.mend.take _).append (h.mend.drop _)).append (h.mend.drop _)).wipe _ _ _
theorem mem_modify' {α : Type} {f : α → α} {y : α} {l : List α} {i : Nat} (h : y ∈ l.modify i f) : y ∈ l ∨ ∃ x, y = f x := by
  rcases mem_modify h with h | ⟨x, -, e⟩
  · exact .inl h
  · exact .inr ⟨x, e⟩
theorem Fine.mod {l : List Cl} (h : Fine l) (i : Nat) {m : ByteArray} (hm : m.size ≤ 32) : Fine (l.modify i (withMore m)) := fun x hx => by
  rcases mem_modify' hx with hx | ⟨y, rfl⟩
  · exact h x hx
  · exact hm
theorem Fine.mark {l : List Cl} (h : Fine l) (x r : Int) : Fine (markL l x r) := by
  rw [← markL_O]
  refine Fine.mend ?_
  unfold markO
  split
  · exact h.mend
  · split
    · exact h.mend
    · next hc =>
      have hm := Nat.not_lt.1 (fun hh => hc (.inr (.inr (.inr hh))))
      simp only []
      refine Fine.mod ?_ _ hm
      split
      · exact h.mend.mod _ hm
      split
      · exact h.mend.mod _ hm
      · exact h.mend
end Go.Proofs.Ytffdblmdelgkaaa
