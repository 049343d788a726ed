/- Both stores of points in memory; the document's Places at equal rows. Conditions: as stated. -/
import Derived.Test.YtfadcmjdlfobhaaPsP
import Derived.Test.YtfadcmjdlfobhaaRegN
namespace Go.Proofs.Ytfadcmjdlfobhaa
open Go.RowKit Go.Sort

/-- Both stores, apart, in memory from B on. -/
def Sts (B p q : Nat) (most : Int) (L : List P2) (next : Int) (M : List PA) (w : World) : Prop :=
  ∃ F G, PtSt w p F most L ∧ PrSt w q G most next M ∧ (∀ g ∈ F, g ∉ G) ∧ (∀ g ∈ F, B ≤ g) ∧ (∀ g ∈ G, B ≤ g)
theorem Sts.below {B p q : Nat} {most next : Int} {L : List P2} {M : List PA} {w w' : World} (h : Sts B p q most L next M w) (hb : Below w.heap.size w w') : Sts B p q most L next M w' := by
  obtain ⟨F, G, h1, h2, h3⟩ := h
  exact ⟨F, G, h1.below hb, h2.below hb, h3⟩
/-- Besides, both stay clear of block x. -/
def StsX (B p q : Nat) (most : Int) (L : List P2) (next : Int) (M : List PA) (x : Nat) (w : World) : Prop :=
  ∃ F G, PtSt w p F most L ∧ PrSt w q G most next M ∧ (∀ g ∈ F, g ∉ G) ∧ (∀ g ∈ F, B ≤ g) ∧ (∀ g ∈ G, B ≤ g) ∧ x ∉ F ∧ x ∉ G ∧ x < w.heap.size
theorem StsX.forget {B p q x : Nat} {most next : Int} {L : List P2} {M : List PA} {w : World} (h : StsX B p q most L next M x w) : Sts B p q most L next M w := by
  obtain ⟨F, G, h1, h2, h3, h4, h5, -⟩ := h
  exact ⟨F, G, h1, h2, h3, h4, h5⟩
theorem Sts.fresh {B p q : Nat} {most next : Int} {L : List P2} {M : List PA} {w : World} (h : Sts B p q most L next M w) (o : Obj) : StsX B p q most L next M w.heap.size (w.alloc o) := by
  obtain ⟨F, G, h1, h2, h3, h4, h5⟩ := h
  have hb := below_allocs (Below.refl w.heap.size w) o
  exact ⟨F, G, h1.below hb, h2.below hb, h3, h4, h5, fun hx => by have := h1.lt _ hx; omega, fun hx => by have := h2.lt _ hx; omega, by simp⟩
def PtKeep (x : Nat) (w w' : World) : Prop := ∀ o v, w.cell? ⟨x, o, none⟩ = some v → w'.cell? ⟨x, o, none⟩ = some v
def PtRes (B p q : Nat) (most : Int) (L : List P2) (next : Int) (M : List PA) (x : Nat) (w0 w : World) (e : Ending) (w' : World) : Prop :=
  e = .returned (.tuple #[]) ∧ StsX B p q most L next M x w' ∧ Below B w0 w' ∧ PtKeep x w w'
theorem StsX.pt {B p q x : Nat} {most next : Int} {L L' : List P2} {M : List PA} {w : World} {f : FuncId} {args : Array Value} {w0 : World} (hB : B ≤ w.heap.size) (h : StsX B p q most L next M x w) (hw : Below B w0 w)
    (hc : ∀ F, PtSt w p F most L → Calls Try.prog f args w (PtPost w p F most L')) : Calls Try.prog f args w (PtRes B p q most L' next M x w0 w) := by
  obtain ⟨F, G, h1, h2, h3, h4, h5, h6, h7, h8⟩ := h
  refine (hc F h1).mono fun e w' ⟨he, F', k1, k2, k3⟩ => ⟨he, ⟨F', G, k1, h2.mod k2 (fun g hg hF => h3 g hF hg), fun g hg hG => ?_, fun g hg => ?_, h5, fun hx => ?_, h7, Nat.lt_of_lt_of_le h8 k2.size⟩, hw.trans (k2.below h4 hB), fun o v hv => k2.cell h6 hv⟩
  · rcases k3 g hg with h | h
    · exact h3 g h hG
    · have := h2.lt g hG; omega
  · rcases k3 g hg with h | h
    · exact h4 g h
    · omega
  · rcases k3 x hx with h | h
    · exact h6 h
    · omega
theorem StsX.pr {B p q x : Nat} {most next next' : Int} {L : List P2} {M M' : List PA} {w : World} {f : FuncId} {args : Array Value} {w0 : World} (hB : B ≤ w.heap.size) (h : StsX B p q most L next M x w) (hw : Below B w0 w)
    (hc : ∀ G, PrSt w q G most next M → Calls Try.prog f args w (PrPost w q G most next' M')) : Calls Try.prog f args w (PtRes B p q most L next' M' x w0 w) := by
  obtain ⟨F, G, h1, h2, h3, h4, h5, h6, h7, h8⟩ := h
  refine (hc G h2).mono fun e w' ⟨he, G', k1, k2, k3⟩ => ⟨he, ⟨F, G', h1.mod k2 (fun g hg hG => h3 g hg hG), k1, fun g hg hG => ?_, h4, fun g hg => ?_, h6, fun hx => ?_, Nat.lt_of_lt_of_le h8 k2.size⟩, hw.trans (k2.below h5 hB), fun o v hv => k2.cell h7 hv⟩
  · rcases k3 g hG with h | h
    · exact h3 g hg h
    · have := h1.lt g hg; omega
  · rcases k3 g hg with h | h
    · exact h5 g h
    · omega
  · rcases k3 x hx with h | h
    · exact h7 h
    · omega
theorem Sts.size {B p q : Nat} {most next : Int} {L : List P2} {M : List PA} {w : World} (h : Sts B p q most L next M w) : B ≤ w.heap.size := by
  obtain ⟨F, G, h1, -, -, h4, -⟩ := h
  have := h1.lt p h1.mem
  have := h4 p h1.mem
  omega
/-- What binds both behind N steps. -/
def Bo (B p q most N : Nat) (L : List P2) (w0 w : World) : Prop :=
  ∃ next M, Sts B p q most L next M w ∧ Below B w0 w ∧ Pts most next L M ∧ ColsIn L ∧ L.length ≤ most ∧ 0 ≤ next ∧ next ≤ N
theorem Bo.below {B p q most N : Nat} {L : List P2} {w0 w w' : World} (h : Bo B p q most N L w0 w) (hb : Below w.heap.size w w') (hB : B ≤ w.heap.size) : Bo B p q most N L w0 w' := by
  obtain ⟨next, M, h1, h2, h3⟩ := h
  exact ⟨next, M, h1.below hb, h2.trans (hb.mono hB), h3⟩
theorem Bo.size {B p q most N : Nat} {L : List P2} {w0 w : World} (h : Bo B p q most N L w0 w) : B ≤ w.heap.size := by
  obtain ⟨next, M, ⟨F, G, h1, -, -, h4, -⟩, -⟩ := h
  have := h1.lt p h1.mem
  have := h4 p h1.mem
  omega
/-- Two rows of places are the same. -/
def TruePost (w : World) (e : Ending) (w' : World) : Prop := e = .returned (.bool true) ∧ Below w.heap.size w w'
set_option maxRecDepth 100000 in
set_option maxHeartbeats 1600000 in
theorem Places_same (X Y : Option Addr) (L : List P2) (cx cy : Nat) (w : World) (hX : GrAt encP 2 w X L) (hY : GrAt encP 2 w Y L) (hz : L.length ≤ 1000000) :
    Calls Try.prog 18 #[.slice X L.length cx, .slice Y L.length cy] w (TruePost w) := by
  have HX := Lib.hid hX
  have HY := Lib.hid hY
  clear hX hY
  go_enter Try.func18, Try.ntmps18
  go_wp2_with fail
  go_loopw [5] (fun s5 wr => ∃ i : Nat, i ≤ L.length ∧ s5 = .int .i64 i ∧ Below w.heap.size w wr) (fun s5 _ => L.length - (intOf s5).toNat)
  case atStart => exact ⟨0, Nat.zero_le _, rfl, Below.refl _ _⟩
  case round =>
    obtain ⟨i, hi, rfl, hB⟩ := hrel
    by_cases hlt : i < L.length
    rotate_left
    · obtain rfl : i = L.length := by omega
      have HB := Lib.hid hB
      clear hB
      go_wp2
      go_ret
      exact ⟨rfl, HB.out⟩
    · obtain ⟨b, off, x, rfl, hx, cx⟩ := (HX.out.below hB).at_ hlt
      obtain ⟨b', off', y, rfl, hy, cy⟩ := (HY.out.below hB).at_ hlt
      obtain rfl : x = y := Option.some.inj (hx.symm.trans hy)
      obtain ⟨x1, x2⟩ := x
      have c0 : wr.cell? ⟨b, off + i * 2, none⟩ = some (.int .i64 x1) := cx 0 _ rfl
      have c1 : wr.cell? ⟨b, off + i * 2 + 1, none⟩ = some (.int .i64 x2) := cx 1 _ rfl
      have d0 : wr.cell? ⟨b', off' + i * 2, none⟩ = some (.int .i64 x1) := cy 0 _ rfl
      have d1 : wr.cell? ⟨b', off' + i * 2 + 1, none⟩ = some (.int .i64 x2) := cy 1 _ rfl
      have HB := Lib.hid hB
      clear cx cy hx hy hB
      go_wp2_with fail
      go_quiet (fail)
      go_wp2
      go_roundw
      case rel => exact ⟨i + 1, by omega, by go_num, below_drewNs HB.out nq⟩
      case measure => simp [intOf]; omega
end Go.Proofs.Ytfadcmjdlfobhaa
