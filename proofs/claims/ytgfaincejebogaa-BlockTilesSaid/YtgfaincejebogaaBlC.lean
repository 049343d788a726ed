/- The program's blocks: New, start. Conditions: as stated. -/
import Derived.Test.YtgfaincejebogaaBlB
namespace Go.Proofs.Ytgfaincejebogaa
open Go.RowKit

def BlPost (w : World) (p : Nat) (v : Value) (L : List (Nat × Ent)) (most : Int) (S : Bs) (e : Ending) (w' : World) : Prop :=
  e = .returned (.tuple #[]) ∧ ∃ v' L', BlO w' p v' L' most S.ids S.dir ∧ L'.map (·.2) = S.es ∧ Mod (foot p v L) w w' ∧ ∀ g ∈ foot p v' L', g ∈ foot p v L ∨ w.heap.size ≤ g
theorem info_ptr : (Try.prog.info? 61).map (fun i => (i.zero, i.size, i.bytes)) = some (some (.pointer none), 1, 8) := by kernel_rfl
theorem blNew_ok (most : Int) (w : World) (h1 : 1 ≤ most) (h2 : most ≤ 10000) : Calls Try.prog 14 #[.int .i64 most] w fun e w' =>
    e = .returned (.tuple #[.pointer (some ⟨w.heap.size, 0, none⟩), .int .i64 0]) ∧ BlO w' w.heap.size (.slice none 0 0) [] most 0 ByteArray.empty ∧ Below w.heap.size w w' := by
  go_enter Try.func14, Try.ntmps14
  go_wp2
  go_ret2
  exact ⟨rfl, ⟨at_ (hp_new rfl) 0 _ rfl, (at_ (hp_new rfl) 1 _ rfl).1, at_ (hp_new rfl) 2 _ rfl, at_ (hp_new rfl) 3 _ rfl, .inl ⟨rfl, rfl⟩, (fun x hx => by cases hx), List.nodup_nil⟩, below_allocs (Below.refl _ _) _⟩
theorem reachE_ok {E : Ent} {phase : Nat} {p : P2} (h4 : E.pl.length = 4) (h : E.ph ≤ phase) (h1 : 1 ≤ phase) (h2 : phase ≤ 4) : EntOk (reachE E phase p) := by
  unfold reachE
  exact ⟨by rw [reachN_len, h4], by rw [reachN_ph]; omega, by rw [reachN_ph]; omega⟩
theorem own_type {w : World} {base g b : Nat} {v : Value} {ps : List Value} {E : Ent} (h : OwnsAt w base 61 v ps) (hE : EntAt w b E) (hg : v.ownBlock = some g) : g ≠ b := by
  rintro rfl
  rcases h with ⟨rfl, -⟩ | ⟨g', o, cap, cur, rfl, -, e3, -⟩
  · simp [Value.ownBlock] at hg
  · simp [Value.ownBlock] at hg
    subst hg
    unfold EntAt at hE
    rw [e3] at hE
    injection hE with hE
    injection hE with _ ht
    exact absurd ht (by decide)
theorem map_ptr_append (L : List (Nat × Ent)) (x : Nat × Ent) : (L.map fun x => Value.pointer (some ⟨x.1, 0, none⟩)) ++ [.pointer (some ⟨x.1, 0, none⟩)] = (L ++ [x]).map fun x => Value.pointer (some ⟨x.1, 0, none⟩) := by simp
/-- One more block, its row laid into the store. -/
theorem BlO.push {w w5 : World} {p b : Nat} {v v1 : Value} {L : List (Nat × Ent)} {most ids : Int} {dir : ByteArray} {E : Ent} {o : Obj} (h : BlO w p v L most ids dir) (hE : EntAt w b E) (hok : EntOk E) (hpb : p < b) (hbL : b ∉ L.map (·.1)) (hbv : v.ownBlock ≠ some b)
    (hg : (w.alloc o).grownBy w5 v.ownBlock) (ho : OwnsAt w5 (p + 1) 61 v1 ((L.map fun x => .pointer (some ⟨x.1, 0, none⟩)) ++ [.pointer (some ⟨b, 0, none⟩)])) :
    BlO (w5.setCell ⟨p, 0, none⟩ v1) p v1 (L ++ [(b, E)]) most ids dir ∧ Mod (p :: v.ownBlock.toList) w (w5.setCell ⟨p, 0, none⟩ v1) ∧ HoldAt w5 p 0 v := by
  have hm : Mod v.ownBlock.toList w w5 := (Mod.of_below (below_allocs (Below.refl _ _) o)).trans (Mod.of_grown (X := v.ownBlock.toList) hg (fun g hg => by rw [hg]; simp)) (fun g hg => .inl hg)
  have hpv : p ∉ v.ownBlock.toList := fun hx => by
    have := (h.own.lt p (by simpa [Option.mem_toList] using hx)).1
    omega
  have hv1 : ∀ g, v1.ownBlock = some g → g ≠ p := fun g hg => by have := (ho.lt g hg).1; omega
  have h0 := hm.hold hpv h.row
  have hm2 : Mod (p :: v.ownBlock.toList) w (w5.setCell ⟨p, 0, none⟩ v1) := (hm.mono (fun g hg => by simp [hg])).setCell (.inl (by simp)) _
  have other : ∀ i u, i ≠ 0 → HoldAt w p i u → HoldAt (w5.setCell ⟨p, 0, none⟩ v1) p i u := fun i u hi hu => by
    have hu' := hm.hold hpv hu
    exact ⟨(World.cell?_setCell_other _ _ _ _ (fun e => by injection e with e1 e2; omega)).trans hu'.1, by rw [World.frozen?_setCell]; exact hu'.2⟩
  have hE5 : ∀ x E', EntAt w x E' → p < x → v.ownBlock ≠ some x → EntAt (w5.setCell ⟨p, 0, none⟩ v1) x E' := fun x E' hx hpx hvx => by
    refine hx.mod hm2 (fun hmem => ?_)
    rcases List.mem_cons.1 hmem with rfl | hmem
    · omega
    · exact hvx (by simpa [Option.mem_toList] using hmem)
  have hown := ho.setCell (b := p) (i := 0) hv1 v1
  refine ⟨⟨set_self h0, ?_, other 2 _ (by decide) h.ids, other 3 _ (by decide) h.dir, by rw [← map_ptr_append]; exact hown, fun x hx => ?_, ?_⟩, hm2, h0⟩
  · exact (World.cell?_setCell_other _ _ _ _ (fun e => by injection e with e1 e2; omega)).trans (hm.cell hpv h.most)
  · rcases List.mem_append.1 hx with hx | hx
    · obtain ⟨k1, k2, k3, k4⟩ := h.ents x hx
      have k5 := hE5 _ _ k1 k3 k4
      exact ⟨k5, k2, k3, fun e => own_type hown k5 e rfl⟩
    · rw [List.mem_singleton.1 hx]
      have k5 := hE5 b E hE hpb hbv
      exact ⟨k5, hok, hpb, fun e => own_type hown k5 e rfl⟩
  · rw [List.map_append, List.nodup_append]
    refine ⟨h.nodup, by simp, fun a ha b' hb' => ?_⟩
    rw [List.mem_singleton.1 hb']
    rintro rfl
    exact hbL ha
end Go.Proofs.Ytgfaincejebogaa
