/- Joined by a tool of this claim out of smaller texts. Conditions: as stated. -/
import Derived.Test.YtaefcahblmopfaaGreatDoorTn15
import Derived.Lib.AppendStr
set_option linter.unusedVariables false
set_option linter.unusedSimpArgs false
namespace Go.Proofs.YtaefcahblmopfaaGreatDoor
open Go.RowKit
def encCg (c : Cg) : List Value := [.bool c.told, .int .i64 c.sg.kind, .int .i64 c.sg.code, .bool c.sg.has, .string c.sg.text, .int .i64 c.row, .int .i64 c.col, .int .i64 c.sh.k, .int .i64 c.sh.a, .int .i64 c.sh.n]
theorem encCg_one : ∀ c, ∀ v ∈ encCg c, v.oneCell' = true := fun c v hv => by
  simp only [encCg, List.mem_cons, List.not_mem_nil, or_false] at hv
  rcases hv with rfl | rfl | rfl | rfl | rfl | rfl | rfl | rfl | rfl | rfl <;> rfl
/-- Where a terminal lies. -/
structure Tv where
  M : Nat
  z : Zv
  a : Sv
  b : Sv
  ba : Value
  bf : Value
  vc : Value
def encTm (t : Tm) (v : Tv) : List Value := [.pointer (some ⟨v.z.P, 0, none⟩), .pointer (some ⟨v.a.S, 0, none⟩), .pointer (some ⟨v.b.S, 0, none⟩), .int .i64 (if t.use then 1 else 0), .int .u32 t.modes, .string t.title, v.ba, v.bf, v.vc]
structure TmO (base : Nat) (w : World) (v : Tv) (t : Tm) : Prop where
  blk : w.heap[v.M]? = some (.cells (encTm t v).toArray 78 (0, 0))
  hb : base ≤ v.M
  z : PzO base w v.z t.pz
  a : ScO base w v.a t.s0
  b : ScO base w v.b t.s1
  ad : v.ba = .pointer none ∨ v.ba = .pointer (some ⟨v.M, 6, none⟩)
  bu : w.ownsRow base 5 1 v.bf t.rep.length (Lib.byteCells t.rep)
  ch : w.ownsRow base 96 10 v.vc t.ch.length (flat encCg t.ch)
  ab : ∀ x ∈ scX v.a, x ∉ scX v.b
  bz : ∀ x, v.bf.ownBlock = some x → x ∉ zvX v.z
def tmX (v : Tv) : List Nat := v.M :: (zvX v.z ++ (scX v.a ++ (scX v.b ++ (v.bf.ownBlock.toList ++ v.vc.ownBlock.toList))))
/-- A block of cells of one of these types. -/
def TyAt (w : World) (b : Nat) (l : List TypeId) : Prop := ∃ cur ty, w.heap[b]? = some (.cells cur ty (0, 0)) ∧ ty ∈ l
theorem TyAt.apart {w : World} {b : Nat} {l1 l2 : List TypeId} (h1 : TyAt w b l1) (h2 : TyAt w b l2) (hd : ∀ t ∈ l1, t ∉ l2) : False := by
  obtain ⟨c1, t1, e1, m1⟩ := h1
  obtain ⟨c2, t2, e2, m2⟩ := h2
  rw [e1, Option.some.injEq, Obj.cells.injEq] at e2
  exact hd t1 m1 (by rw [e2.2.1]; exact m2)
theorem TyAt.own {w : World} {base n size : Nat} {e : TypeId} {v : Value} {xs : List Value} (h : w.ownsRow base e size v n xs) {g : Nat} (hg : v.ownBlock = some g) : TyAt w g [e] := by
  obtain ⟨cur, hc⟩ := own_block h hg
  exact ⟨_, _, hc, by simp⟩
def scTy : List TypeId := [128, 179, 206, 175, 52, 94, 225]
theorem ScO.ty {base : Nat} {w : World} {v : Sv} {s : Sc} (h : ScO base w v s) : ∀ b ∈ scX v, TyAt w b scTy := fun b hb => by
  unfold scTy
  rcases List.mem_cons.1 hb with rfl | hb
  · exact ⟨_, _, h.blk, by simp⟩
  rcases List.mem_append.1 hb with hb | hb
  · obtain ⟨cur, ty, h1, h2⟩ := h.tabs.types b hb
    exact ⟨_, _, h1, by rcases h2 with rfl | rfl <;> simp⟩
  · obtain ⟨cur, ty, h1, h2⟩ := h.page.types b hb
    exact ⟨_, _, h1, by rcases h2 with rfl | rfl | rfl | rfl <;> simp⟩
theorem PzO.ty {base : Nat} {w : World} {v : Zv} {p : Pz} (h : PzO base w v p) : ∀ b ∈ zvX v, TyAt w b [134, 5] := fun b hb => by
  obtain ⟨cur, ty, h1, h2⟩ := h.types b hb
  exact ⟨_, _, h1, by rcases h2 with rfl | rfl <;> simp⟩
theorem nocel_ty {w : World} {X : List Nat} {l : List TypeId} (h : ∀ b ∈ X, TyAt w b l) (hl : 65 ∉ l) : NoCel w X := fun b hb cs f he => by
  obtain ⟨cur, ty, h1, h2⟩ := h b hb
  rw [he, Option.some.injEq, Obj.cells.injEq] at h1
  exact hl (by rw [h1.2.1]; exact h2)
section
variable {base : Nat} {w : World} {v : Tv} {t : Tm}
theorem TmO.tyM (h : TmO base w v t) : TyAt w v.M [78] := ⟨_, _, h.blk, by simp⟩
theorem TmO.tyX (h : TmO base w v t) : ∀ b ∈ tmX v, TyAt w b (78 :: 134 :: 5 :: 96 :: scTy) := fun b hb => by
  have up : ∀ {l : List TypeId}, TyAt w b l → (∀ t ∈ l, t ∈ 78 :: 134 :: 5 :: 96 :: scTy) → TyAt w b (78 :: 134 :: 5 :: 96 :: scTy) := fun ⟨c, t, h1, h2⟩ hl => ⟨c, t, h1, hl t h2⟩
  unfold tmX at hb
  rcases List.mem_cons.1 hb with rfl | hb
  · exact up h.tyM (by decide)
  rcases List.mem_append.1 hb with hb | hb
  · exact up (h.z.ty b hb) (by decide)
  rcases List.mem_append.1 hb with hb | hb
  · exact up (h.a.ty b hb) (by decide)
  rcases List.mem_append.1 hb with hb | hb
  · exact up (h.b.ty b hb) (by decide)
  rcases List.mem_append.1 hb with hb | hb
  · exact up (TyAt.own h.bu (Option.mem_toList.1 hb)) (by decide)
  · exact up (TyAt.own h.ch (Option.mem_toList.1 hb)) (by decide)
theorem TmO.lt (h : TmO base w v t) : ∀ b ∈ tmX v, base ≤ b ∧ b < w.heap.size := fun b hb => by
  unfold tmX at hb
  rcases List.mem_cons.1 hb with rfl | hb
  · exact ⟨h.hb, (Array.getElem?_eq_some_iff.1 h.blk).1⟩
  rcases List.mem_append.1 hb with hb | hb
  · exact h.z.lt b hb
  rcases List.mem_append.1 hb with hb | hb
  · exact h.a.lt b hb
  rcases List.mem_append.1 hb with hb | hb
  · exact h.b.lt b hb
  rcases List.mem_append.1 hb with hb | hb
  · exact h.bu.lt b (Option.mem_toList.1 hb)
  · exact h.ch.lt b (Option.mem_toList.1 hb)
theorem mem_tmX {x : Nat} : x ∈ tmX v ↔ x = v.M ∨ x ∈ zvX v.z ∨ x ∈ scX v.a ∨ x ∈ scX v.b ∨ v.bf.ownBlock = some x ∨ v.vc.ownBlock = some x := by
  unfold tmX
  simp only [List.mem_cons, List.mem_append, Option.mem_toList]
theorem TmO.mod {X : List Nat} {w' : World} (h : TmO base w v t) (hm : Mod X w w') (hX : NoCel w X) (hd : ∀ b ∈ tmX v, b ∉ X) : TmO base w' v t :=
  ⟨(hm.block v.M (Array.getElem?_eq_some_iff.1 h.blk).1 (hd _ (mem_tmX.2 (.inl rfl)))).trans h.blk, h.hb, h.z.mod hm (fun b hb => hd b (mem_tmX.2 (.inr (.inl hb)))), h.a.mod hm hX (fun b hb => hd b (mem_tmX.2 (.inr (.inr (.inl hb))))), h.b.mod hm hX (fun b hb => hd b (mem_tmX.2 (.inr (.inr (.inr (.inl hb)))))), h.ad,
   owns_mod h.bu hm (fun g hg => hd g (mem_tmX.2 (.inr (.inr (.inr (.inr (.inl hg))))))), owns_mod h.ch hm (fun g hg => hd g (mem_tmX.2 (.inr (.inr (.inr (.inr (.inr hg))))))), h.ab, h.bz⟩
theorem TmO.below {w' : World} (h : TmO base w v t) (hb : Below w.heap.size w w') : TmO base w' v t := h.mod (Mod.of_below (X := []) hb) (NoCel.nil w) (fun _ _ h => by cases h)
/-- Where a terminal's parts lie now: blocks that it had, or new ones. -/
structure TmV (w : World) (v v' : Tv) : Prop where
  M : v'.M = v.M
  z : v'.z.P = v.z.P
  a : v'.a.S = v.a.S
  b : v'.b.S = v.b.S
  x : ∀ x ∈ tmX v', x ∈ tmX v ∨ w.heap.size ≤ x
/-- What a terminal's method leaves. -/
def TmRes (base : Nat) (w : World) (v : Tv) (t' : Tm) (w' : World) : Prop := ∃ v', TmV w v v' ∧ TmO base w' v' t' ∧ Mod (tmX v) w w'
theorem TmO.res (h : TmO base w v t) : TmRes base w v t w := ⟨v, ⟨rfl, rfl, rfl, rfl, fun _ hb => .inl hb⟩, h, Mod.refl _ _⟩
theorem TmRes.trans {w1 w2 : World} {v1 : Tv} {t2 : Tm} (h1 : TmV w v v1) (hm : Mod (tmX v) w w1) (h2 : TmRes base w1 v1 t2 w2) : TmRes base w v t2 w2 := by
  obtain ⟨v2, k, a4, a5⟩ := h2
  refine ⟨v2, ⟨k.M.trans h1.M, k.z.trans h1.z, k.a.trans h1.a, k.b.trans h1.b, fun x hx => ?_⟩, a4, hm.trans a5 h1.x⟩
  rcases k.x x hx with h | h
  · exact h1.x x h
  · exact .inr (Nat.le_trans hm.size h)
theorem TmRes.pre {w1 w2 : World} {t2 : Tm} (hb : Below w.heap.size w w1) (h2 : TmRes base w1 v t2 w2) : TmRes base w v t2 w2 := TmRes.trans ⟨rfl, rfl, rfl, rfl, fun _ hb => .inl hb⟩ (Mod.of_below hb) h2
/-- Types keep the parts apart. -/
theorem TmO.za (h : TmO base w v t) : ∀ x ∈ zvX v.z, x ∉ scX v.a := fun x h1 h2 => (h.z.ty x h1).apart (h.a.ty x h2) (by decide)
theorem TmO.zb (h : TmO base w v t) : ∀ x ∈ zvX v.z, x ∉ scX v.b := fun x h1 h2 => (h.z.ty x h1).apart (h.b.ty x h2) (by decide)
theorem TmO.fa (h : TmO base w v t) : ∀ x, v.bf.ownBlock = some x → x ∉ scX v.a := fun x h1 h2 => (TyAt.own h.bu h1).apart (h.a.ty x h2) (by decide)
theorem TmO.fb (h : TmO base w v t) : ∀ x, v.bf.ownBlock = some x → x ∉ scX v.b := fun x h1 h2 => (TyAt.own h.bu h1).apart (h.b.ty x h2) (by decide)
theorem TmO.fc (h : TmO base w v t) : ∀ x, v.bf.ownBlock = some x → v.vc.ownBlock ≠ some x := fun x h1 h2 => (TyAt.own h.bu h1).apart (TyAt.own h.ch h2) (by decide)
theorem TmO.ca (h : TmO base w v t) : ∀ x, v.vc.ownBlock = some x → x ∉ scX v.a := fun x h1 h2 => (TyAt.own h.ch h1).apart (h.a.ty x h2) (by decide)
theorem TmO.cb (h : TmO base w v t) : ∀ x, v.vc.ownBlock = some x → x ∉ scX v.b := fun x h1 h2 => (TyAt.own h.ch h1).apart (h.b.ty x h2) (by decide)
theorem TmO.cz (h : TmO base w v t) : ∀ x, v.vc.ownBlock = some x → x ∉ zvX v.z := fun x h1 h2 => (TyAt.own h.ch h1).apart (h.z.ty x h2) (by decide)
theorem TmO.mz (h : TmO base w v t) : v.M ∉ zvX v.z := fun h2 => h.tyM.apart (h.z.ty _ h2) (by decide)
theorem TmO.ma (h : TmO base w v t) : v.M ∉ scX v.a := fun h2 => h.tyM.apart (h.a.ty _ h2) (by decide)
theorem TmO.mb (h : TmO base w v t) : v.M ∉ scX v.b := fun h2 => h.tyM.apart (h.b.ty _ h2) (by decide)
theorem TmO.mf (h : TmO base w v t) : v.bf.ownBlock ≠ some v.M := fun h2 => h.tyM.apart (TyAt.own h.bu h2) (by decide)
theorem TmO.mc (h : TmO base w v t) : v.vc.ownBlock ≠ some v.M := fun h2 => h.tyM.apart (TyAt.own h.ch h2) (by decide)
theorem TmO.ltM (h : TmO base w v t) : v.M < w.heap.size := (Array.getElem?_eq_some_iff.1 h.blk).1
/-- The parser is another one. -/
theorem TmO.withZ {p' : Pz} {w' : World} (h : TmO base w v t) (hp : PzRes base w v.z p' w') : TmRes base w v { t with pz := p' } w' := by
  obtain ⟨z', e1, hO, hm, hx⟩ := hp
  refine ⟨{ v with z := z' }, ⟨rfl, e1, rfl, rfl, fun x hx2 => ?_⟩, ⟨?_, h.hb, hO, h.a.mod hm h.z.nocel (fun b hb hz => h.za b hz hb), h.b.mod hm h.z.nocel (fun b hb hz => h.zb b hz hb), h.ad, owns_mod h.bu hm h.bz, owns_mod h.ch hm h.cz, h.ab, fun x h1 h2 => ?_⟩, hm.mono (fun b hb => mem_tmX.2 (.inr (.inl hb)))⟩
  · rcases mem_tmX.1 hx2 with h1 | h1 | h1
    · exact .inl (mem_tmX.2 (.inl h1))
    · exact (hx x h1).imp (fun h => mem_tmX.2 (.inr (.inl h))) id
    · exact .inl (mem_tmX.2 (.inr (.inr h1)))
  · have := (hm.block v.M h.ltM h.mz).trans h.blk
    rw [this]
    unfold encTm
    rw [e1]
  · rcases hx x h2 with h3 | h3
    · exact h.bz x h1 h3
    · have := (h.bu.lt x h1).2; omega
/-- The first screen is another one. -/
theorem TmO.withA {s' : Sc} {w' : World} (h : TmO base w v t) (hp : ScRes base w v.a s' w') : TmRes base w v { t with s0 := s' } w' := by
  obtain ⟨a', e1, e2, e3, hO, hm, hx⟩ := hp
  have hc : NoCel w (scX v.a) := nocel_ty h.a.ty (by decide)
  refine ⟨{ v with a := a' }, ⟨rfl, rfl, e1, rfl, fun x hx2 => ?_⟩, ⟨?_, h.hb, h.z.mod hm h.za, hO, h.b.mod hm hc (fun b hb hz => h.ab b hz hb), h.ad, owns_mod h.bu hm h.fa, owns_mod h.ch hm h.ca, fun x h1 h2 => ?_, h.bz⟩, hm.mono (fun b hb => mem_tmX.2 (.inr (.inr (.inl hb))))⟩
  · rcases mem_tmX.1 hx2 with h1 | h1 | h1 | h1
    · exact .inl (mem_tmX.2 (.inl h1))
    · exact .inl (mem_tmX.2 (.inr (.inl h1)))
    · exact (hx x h1).imp (fun h => mem_tmX.2 (.inr (.inr (.inl h)))) id
    · exact .inl (mem_tmX.2 (.inr (.inr (.inr h1))))
  · have := (hm.block v.M h.ltM h.ma).trans h.blk
    rw [this]
    unfold encTm
    rw [e1]
  · rcases hx x h1 with h3 | h3
    · exact h.ab x h3 h2
    · have := (h.b.lt x h2).2; omega
/-- The other screen is another one. -/
theorem TmO.withB {s' : Sc} {w' : World} (h : TmO base w v t) (hp : ScRes base w v.b s' w') : TmRes base w v { t with s1 := s' } w' := by
  obtain ⟨a', e1, e2, e3, hO, hm, hx⟩ := hp
  have hc : NoCel w (scX v.b) := nocel_ty h.b.ty (by decide)
  refine ⟨{ v with b := a' }, ⟨rfl, rfl, rfl, e1, fun x hx2 => ?_⟩, ⟨?_, h.hb, h.z.mod hm h.zb, h.a.mod hm hc h.ab, hO, h.ad, owns_mod h.bu hm h.fb, owns_mod h.ch hm h.cb, fun x h1 h2 => ?_, h.bz⟩, hm.mono (fun b hb => mem_tmX.2 (.inr (.inr (.inr (.inl hb)))))⟩
  · rcases mem_tmX.1 hx2 with h1 | h1 | h1 | h1 | h1
    · exact .inl (mem_tmX.2 (.inl h1))
    · exact .inl (mem_tmX.2 (.inr (.inl h1)))
    · exact .inl (mem_tmX.2 (.inr (.inr (.inl h1))))
    · exact (hx x h1).imp (fun h => mem_tmX.2 (.inr (.inr (.inr (.inl h))))) id
    · exact .inl (mem_tmX.2 (.inr (.inr (.inr (.inr h1)))))
  · have := (hm.block v.M h.ltM h.mb).trans h.blk
    rw [this]
    unfold encTm
    rw [e1]
  · rcases hx x h2 with h3 | h3
    · exact h.ab x h1 h3
    · have := (h.a.lt x h1).2; omega
/-- Where the screen in use lies. -/
def curV (v : Tv) (t : Tm) : Sv := if t.use then v.b else v.a
theorem TmO.cur (h : TmO base w v t) : ScO base w (curV v t) (curT t) := by
  unfold curV curT
  by_cases hu : t.use = true
  · rw [if_pos hu, if_pos hu]; exact h.b
  · rw [if_neg hu, if_neg hu]; exact h.a
theorem TmO.did {s' : Sc} {w' : World} (h : TmO base w v t) (hp : ScRes base w (curV v t) s' w') : TmRes base w v (putT t s') w' := by
  unfold curV at hp
  unfold putT
  by_cases hu : t.use = true
  · rw [if_pos hu] at hp ⊢; exact h.withB hp
  · rw [if_neg hu] at hp ⊢; exact h.withA hp
/-- A cell of the terminal's own block is another; the builder's and the changes' are what they were, or nothing. -/
theorem TmO.put {t' : Tm} {v' : Tv} {w' : World} (h : TmO base w v t) (hM : v'.M = v.M) (hz : v'.z = v.z) (ha : v'.a = v.a) (hb : v'.b = v.b) (had : v'.ba = .pointer none ∨ v'.ba = .pointer (some ⟨v.M, 6, none⟩)) (hf : (v'.bf = v.bf ∧ t'.rep = t.rep) ∨ (v'.bf = .slice none 0 0 ∧ t'.rep = [])) (hc : (v'.vc = v.vc ∧ t'.ch = t.ch) ∨ (v'.vc = .slice none 0 0 ∧ t'.ch = []))
    (ez : t'.pz = t.pz) (ea : t'.s0 = t.s0) (eb : t'.s1 = t.s1) (hm : Mod [v.M] w w') (hw : w'.heap[v.M]? = some (.cells (encTm t' v').toArray 78 (0, 0))) : TmRes base w v t' w' := by
  have hX : NoCel w [v.M] := nocel_ty (l := [78]) (fun b hb => by rw [List.mem_singleton.1 hb]; exact h.tyM) (by decide)
  have hf2 : ∀ x, v'.bf.ownBlock = some x → v.bf.ownBlock = some x := fun x hx => by
    rcases hf with ⟨e, -⟩ | ⟨e, -⟩
    · rw [← e]; exact hx
    · rw [e] at hx; cases hx
  have hc2 : ∀ x, v'.vc.ownBlock = some x → v.vc.ownBlock = some x := fun x hx => by
    rcases hc with ⟨e, -⟩ | ⟨e, -⟩
    · rw [← e]; exact hx
    · rw [e] at hx; cases hx
  refine ⟨v', ⟨hM, by rw [hz], by rw [ha], by rw [hb], fun x hx => .inl ?_⟩, ⟨by rw [hM]; exact hw, by rw [hM]; exact h.hb, ?_, ?_, ?_, by rw [hM]; exact had, ?_, ?_, by rw [ha, hb]; exact h.ab, fun x hx => by rw [hz]; exact h.bz x (hf2 x hx)⟩, hm.mono (fun b hb => mem_tmX.2 (.inl (List.mem_singleton.1 hb)))⟩
  · rcases mem_tmX.1 hx with h1 | h1 | h1 | h1 | h1 | h1
    · exact mem_tmX.2 (.inl (h1.trans hM))
    · exact mem_tmX.2 (.inr (.inl (by rw [← hz]; exact h1)))
    · exact mem_tmX.2 (.inr (.inr (.inl (by rw [← ha]; exact h1))))
    · exact mem_tmX.2 (.inr (.inr (.inr (.inl (by rw [← hb]; exact h1)))))
    · exact mem_tmX.2 (.inr (.inr (.inr (.inr (.inl (hf2 x h1))))))
    · exact mem_tmX.2 (.inr (.inr (.inr (.inr (.inr (hc2 x h1))))))
  · rw [hz, ez]; exact h.z.mod hm (fun b hb hx => h.mz (by rw [← List.mem_singleton.1 hx]; exact hb))
  · rw [ha, ea]; exact h.a.mod hm hX (fun b hb hx => h.ma (by rw [← List.mem_singleton.1 hx]; exact hb))
  · rw [hb, eb]; exact h.b.mod hm hX (fun b hb hx => h.mb (by rw [← List.mem_singleton.1 hx]; exact hb))
  · rcases hf with ⟨e1, e2⟩ | ⟨e1, e2⟩
    · rw [e1, e2]; exact owns_mod h.bu hm (fun g hg hx => h.mf (by rw [← List.mem_singleton.1 hx]; exact hg))
    · rw [e1, e2]; exact World.ownsRow_nil w' base 5 1
  · rcases hc with ⟨e1, e2⟩ | ⟨e1, e2⟩
    · rw [e1, e2]; exact owns_mod h.ch hm (fun g hg hx => h.mc (by rw [← List.mem_singleton.1 hx]; exact hg))
    · rw [e1, e2]; exact World.ownsRow_nil w' base 96 10
end
end Go.Proofs.YtaefcahblmopfaaGreatDoor

namespace Go.Proofs.YtaefcahblmopfaaGreatDoor
open Go.RowKit
def loC (c : Int) : Int := if c = 224 then 160 else if c = 240 then 144 else 128
def hiC (c : Int) : Int := if c = 237 then 159 else if c = 244 then 143 else 191
theorem ubounds_any (c : Int) (w : World) : Calls Tryz.prog 177 #[.int .u8 c] w fun e w' => e = .returned (.tuple #[.int .u8 (loC c), .int .u8 (hiC c)]) ∧ w = w' := by
  unfold loC hiC
  by_cases h1 : c = 224
  · subst h1
    go_enter Tryz.func177, Tryz.ntmps177
    go_wp2
    go_ret2
    exact ⟨rfl, rfl⟩
  by_cases h2 : c = 237
  · subst h2
    go_enter Tryz.func177, Tryz.ntmps177
    go_wp2
    go_ret2
    exact ⟨rfl, rfl⟩
  by_cases h3 : c = 240
  · subst h3
    go_enter Tryz.func177, Tryz.ntmps177
    go_wp2
    go_ret2
    exact ⟨rfl, rfl⟩
  by_cases h4 : c = 244
  · subst h4
    go_enter Tryz.func177, Tryz.ntmps177
    go_wp2
    go_ret2
    exact ⟨rfl, rfl⟩
  rw [if_neg h1, if_neg h3, if_neg h2, if_neg h4]
  go_enter Tryz.func177, Tryz.ntmps177
  go_wp2
  go_ret2
  exact ⟨rfl, rfl⟩
theorem gb_refl (w : World) (r : Option Nat) : w.grownBy w r := ⟨rfl, rfl, rfl, Nat.le_refl _, fun _ _ _ => rfl⟩
theorem gb_set {w w' : World} {b i : Nat} (h : w.grownBy w' (some b)) (v : Value) : w.grownBy (w'.setCell ⟨b, i, none⟩ v) (some b) :=
  ⟨h.os, h.tape, h.output, by rw [show (w'.setCell ⟨b, i, none⟩ v).heap.size = w'.heap.size from by simp [World.setCell]]; exact h.size, fun k hk hne => (Below.heap_setCell w' _ v k (by intro e; exact hne (by simp [e]))).trans (h.block k hk hne)⟩
theorem gb_alloc {w w' : World} {r : Option Nat} (h : w.grownBy w' r) (o : Obj) : w.grownBy (w'.alloc o) r :=
  ⟨h.os, h.tape, h.output, by simp; have := h.size; omega, fun k hk hne => (Below.heap_alloc w' o k (by have := h.size; omega)).trans (h.block k hk hne)⟩
theorem gb_trans {a b c : World} {r : Option Nat} (h : a.grownBy b r) (k : b.grownBy c r) : a.grownBy c r :=
  ⟨k.os.trans h.os, k.tape.trans h.tape, k.output.trans h.output, Nat.le_trans h.size k.size, fun i hi hne => (k.block i (by have := h.size; omega) hne).trans (h.block i hi hne)⟩
theorem and_masks : ∀ f : Fin 256, bits .and .i32 (f.val : Int) 31 = (f.val : Int) % 32 ∧ bits .and .i32 (f.val : Int) 15 = (f.val : Int) % 16 ∧ bits .and .i32 (f.val : Int) 7 = (f.val : Int) % 8 := by decide +kernel
theorem and_mask (c : Int) (h0 : 0 ≤ c) (h1 : c < 256) : bits .and .i32 c 31 = c % 32 ∧ bits .and .i32 c 15 = c % 16 ∧ bits .and .i32 c 7 = c % 8 := by
  have := and_masks ⟨c.toNat, by omega⟩
  rwa [show (((⟨c.toNat, by omega⟩ : Fin 256).val : Nat) : Int) = c from by show ((c.toNat : Nat) : Int) = c; omega] at this
end Go.Proofs.YtaefcahblmopfaaGreatDoor

namespace Go.Proofs.YtaefcahblmopfaaGreatDoor
open Go.RowKit
theorem usizeG_any (c : Int) (w : World) : Calls Tryz.prog 176 #[.int .u8 c] w fun e w' => e = .returned (.int .i64 (sizeB c)) ∧ w = w' := by
  unfold sizeB
  by_cases h1 : c < 128
  · rw [if_pos h1]
    go_enter Tryz.func176, Tryz.ntmps176
    go_wp2
    go_ret
    exact ⟨rfl, rfl⟩
  rw [if_neg h1]
  have h1' : 128 ≤ c := by omega
  by_cases h2 : c < 194
  · rw [if_pos (.inl h2)]
    go_enter Tryz.func176, Tryz.ntmps176
    go_wp2
    go_ret
    exact ⟨rfl, rfl⟩
  by_cases h3 : 244 < c
  · rw [if_pos (.inr h3)]
    go_enter Tryz.func176, Tryz.ntmps176
    go_wp2
    go_ret
    exact ⟨rfl, rfl⟩
  rw [if_neg (by omega)]
  by_cases h4 : c < 224
  · rw [if_pos h4]
    go_enter Tryz.func176, Tryz.ntmps176
    go_wp2
    go_ret
    exact ⟨rfl, rfl⟩
  rw [if_neg h4]
  have h4' : 224 ≤ c := by omega
  by_cases h5 : c < 240
  · rw [if_pos h5]
    go_enter Tryz.func176, Tryz.ntmps176
    go_wp2
    go_ret
    exact ⟨rfl, rfl⟩
  rw [if_neg h5]
  have h5' : 240 ≤ c := by omega
  go_enter Tryz.func176, Tryz.ntmps176
  go_wp2
  go_ret
  exact ⟨rfl, rfl⟩
section
variable {w : World} {v : Zv} {p : Pz}
theorem ParB.d0 (h : ParB w v p) (x : Int) : ParB (w.setCell ⟨v.P, 9, none⟩ (.int .i32 x)) v { p with dec := { p.dec with n := x } } := h.put 9 _ rfl rfl
theorem ParB.d1 (h : ParB w v p) (x : Int) : ParB (w.setCell ⟨v.P, 10, none⟩ (.int .i64 x)) v { p with dec := { p.dec with need := x } } := h.put 10 _ rfl rfl
theorem ParB.d2 (h : ParB w v p) (x : Int) : ParB (w.setCell ⟨v.P, 11, none⟩ (.int .i64 x)) v { p with dec := { p.dec with hv := x } } := h.put 11 _ rfl rfl
theorem ParB.d3 (h : ParB w v p) (x : Int) : ParB (w.setCell ⟨v.P, 12, none⟩ (.int .u8 x)) v { p with dec := { p.dec with lo := x } } := h.put 12 _ rfl rfl
theorem ParB.d4 (h : ParB w v p) (x : Int) : ParB (w.setCell ⟨v.P, 13, none⟩ (.int .u8 x)) v { p with dec := { p.dec with hi := x } } := h.put 13 _ rfl rfl
/-- A row that was just laid is somebody's own. -/
theorem owns_lit {w : World} {lo n size : Nat} {ty : TypeId} {cs : List Value} (hl : cs.length = n * size) (hlo : lo ≤ w.heap.size) (hn : n ≤ maxLen) : (w.alloc (.cells cs.toArray ty)).ownsRow lo ty size (.slice (some ⟨w.heap.size, 0, none⟩) n n) n cs :=
  ⟨hl, .inr ⟨w.heap.size, n, _, rfl, hlo, hp_new rfl, Nat.le_refl _, hn, by simp [hl], by rw [← hl]; exact List.take_length⟩⟩
/-- Scalars that were read, in memory of the call's own. -/
def RsAt (w' : World) (lo : Nat) (u : Value) (rs : List Int) : Prop := w'.ownsRow lo 21 1 u rs.length (rs.map (.int .i32))
def DecPost (v : Zv) (p : Pz) (x : List Int × Dk) (w : World) (e : Ending) (w' : World) : Prop := ∃ u, e = .returned u ∧ RsAt w' w.heap.size u x.1 ∧ ParB w' v { p with dec := x.2 } ∧ w.grownBy w' (some v.P)
theorem rs_one {w : World} {r : Int} {lo : Nat} (h : lo ≤ w.heap.size) : RsAt (w.alloc (.cells #[.int .i32 r] 21)) lo (.slice (some ⟨w.heap.size, 0, none⟩) 1 1) [r] := owns_lit (n := 1) (cs := [.int .i32 r]) rfl h (by unfold maxLen; omega)
theorem rs_nil (w : World) (lo : Nat) : RsAt w lo (.slice none 0 0) [] := World.ownsRow_nil w lo 21 1
set_option maxRecDepth 100000 in
set_option maxHeartbeats 1600000 in
theorem zbegin_any (h : ParB w v p) (c : Int) (hc : 0 ≤ c ∧ c ≤ 255) :
    Calls Tryz.prog 117 #[.pointer (some ⟨v.P, 9, none⟩), .int .u8 c] w (DecPost v p (beginD p.dec c) w) := by
  have HS := Lib.hid (fun w => usizeG_any c w)
  have HB := Lib.hid (fun w => ubounds_any c w)
  have HD := Lib.hid h
  obtain ⟨c0, f0⟩ := at_ h 9 (.int .i32 p.dec.n) rfl
  obtain ⟨c1, f1⟩ := at_ h 10 (.int .i64 p.dec.need) rfl
  obtain ⟨c2, f2⟩ := at_ h 11 (.int .i64 p.dec.hv) rfl
  obtain ⟨c3, f3⟩ := at_ h 12 (.int .u8 p.dec.lo) rfl
  obtain ⟨c4, f4⟩ := at_ h 13 (.int .u8 p.dec.hi) rfl
  have hw : IntKind.i32.wrap c = c := IntWalk.i32_in _ (by omega)
  clear h
  unfold beginD
  by_cases hz : sizeB c = 0
  · rw [if_pos hz]
    rw [hz] at HS
    clear hz
    go_enter Tryz.func117, Tryz.ntmps117
    go_wp2_with (go_at_call 176; (with_reducible refine (HS.out _).mono ?_); rintro e w1 ⟨rfl, rfl⟩)
    go_ret
    exact ⟨_, rfl, rs_one (Nat.le_refl _), HD.out.below ((Below.refl _ w).alloc (Nat.le_refl _) _), gb_alloc (gb_refl _ _) _⟩
  rw [if_neg hz]
  by_cases ho : sizeB c = 1
  · rw [if_pos ho]
    rw [ho] at HS
    clear hz ho
    go_enter Tryz.func117, Tryz.ntmps117
    go_wp2_with (go_at_call 176; (with_reducible refine (HS.out _).mono ?_); rintro e w1 ⟨rfl, rfl⟩)
    go_ret
    exact ⟨_, rfl, rs_one (Nat.le_refl _), HD.out.below ((Below.refl _ w).alloc (Nat.le_refl _) _), gb_alloc (gb_refl _ _) _⟩
  rw [if_neg ho]
  have hM := and_mask c (by omega) (by omega)
  have hc1 : 194 ≤ c ∧ c ≤ 244 := by
    unfold sizeB at hz ho
    constructor
    · rcases Int.lt_or_le c 128 with h | h
      · exact absurd (if_pos h) ho
      · rcases Int.lt_or_le c 194 with h2 | h2
        · exact absurd (by rw [if_neg (by omega), if_pos (.inl h2)]) hz
        · exact h2
    · rcases Int.lt_or_le 244 c with h2 | h2
      · exact absurd (by rw [if_neg (by omega), if_pos (.inr h2)]) hz
      · exact h2
  have hA : ¬ c < 128 := by omega
  have hA2 : ¬ (c < 194 ∨ 244 < c) := by omega
  clear hz ho
  by_cases hB : c < 224
  · rw [show sizeB c = 2 from by unfold sizeB; rw [if_neg hA, if_neg hA2, if_pos hB]] at HS
    have HL := Lib.hid (show leadD c = ⟨bits .and .i32 c 31, 1, 1, loC c, hiC c⟩ from by unfold leadD loC hiC; rw [if_pos hB, hM.1]; rw [if_neg (by omega), if_neg (by omega), if_neg (by omega), if_neg (by omega)])
    generalize leadD c = L at HL ⊢
    generalize loC c = lc at HL HB
    generalize hiC c = hc at HL HB
    clear hM hA2
    go_enter Tryz.func117, Tryz.ntmps117
    go_wp2_with (first | (go_at_call 176; (with_reducible refine (HS.out _).mono ?_); rintro e w1 ⟨rfl, rfl⟩) | (go_at_call 177; (with_reducible refine (HB.out _).mono ?_); rintro e w1 ⟨rfl, rfl⟩))
    go_ret
    rw [HL.out]
    exact ⟨_, rfl, rs_nil _ _, ((((HD.out.d0 _).d1 _).d2 _).d3 _).d4 _, gb_set (gb_set (gb_set (gb_set (gb_set (gb_refl _ _) _) _) _) _) _⟩
  by_cases hC : c < 240
  · rw [show sizeB c = 3 from by unfold sizeB; rw [if_neg hA, if_neg hA2, if_neg hB, if_pos hC]] at HS
    have HL := Lib.hid (show leadD c = ⟨bits .and .i32 c 15, 2, 1, loC c, hiC c⟩ from by unfold leadD loC hiC; rw [if_neg hB, if_pos hC, hM.2.1]; rw [if_neg (show ¬ c = 240 by omega), if_neg (show ¬ c = 244 by omega)])
    generalize leadD c = L at HL ⊢
    generalize loC c = lc at HL HB
    generalize hiC c = hc at HL HB
    clear hM hA2
    go_enter Tryz.func117, Tryz.ntmps117
    go_wp2_with (first | (go_at_call 176; (with_reducible refine (HS.out _).mono ?_); rintro e w1 ⟨rfl, rfl⟩) | (go_at_call 177; (with_reducible refine (HB.out _).mono ?_); rintro e w1 ⟨rfl, rfl⟩))
    go_ret
    rw [HL.out]
    exact ⟨_, rfl, rs_nil _ _, ((((HD.out.d0 _).d1 _).d2 _).d3 _).d4 _, gb_set (gb_set (gb_set (gb_set (gb_set (gb_refl _ _) _) _) _) _) _⟩
  rw [show sizeB c = 4 from by unfold sizeB; rw [if_neg hA, if_neg hA2, if_neg hB, if_neg hC]] at HS
  have HL := Lib.hid (show leadD c = ⟨bits .and .i32 c 7, 3, 1, loC c, hiC c⟩ from by unfold leadD loC hiC; rw [if_neg hB, if_neg hC, hM.2.2]; rw [if_neg (show ¬ c = 224 by omega), if_neg (show ¬ c = 237 by omega)])
  generalize leadD c = L at HL ⊢
  generalize loC c = lc at HL HB
  generalize hiC c = hc at HL HB
  clear hM hA2
  go_enter Tryz.func117, Tryz.ntmps117
  go_wp2_with (first | (go_at_call 176; (with_reducible refine (HS.out _).mono ?_); rintro e w1 ⟨rfl, rfl⟩) | (go_at_call 177; (with_reducible refine (HB.out _).mono ?_); rintro e w1 ⟨rfl, rfl⟩))
  go_ret
  rw [HL.out]
  exact ⟨_, rfl, rs_nil _ _, ((((HD.out.d0 _).d1 _).d2 _).d3 _).d4 _, gb_set (gb_set (gb_set (gb_set (gb_set (gb_refl _ _) _) _) _) _) _⟩
end
end Go.Proofs.YtaefcahblmopfaaGreatDoor

namespace Go.Proofs.YtaefcahblmopfaaGreatDoor
open Go.RowKit
section
variable {base : Nat} {w : World} {v : Zv} {p : Pz}
theorem ParB.puts {v' : Zv} {p' : Pz} (h : ParB w v p) (o : Nat) (vs : List Value) (ho : o + vs.length ≤ 14) (hP : v'.P = v.P) (he : (encPz p v).take o ++ (vs ++ (encPz p v).drop (o + vs.length)) = encPz p' v') : ParB (w.setCells v.P o vs) v' p' := by
  unfold ParB
  rw [hP, ← he]
  exact whole_setCells vs o _ w h (by show _ ≤ 14; exact ho)
def PzPost (base : Nat) (w : World) (v : Zv) (p' : Pz) (e : Ending) (w' : World) : Prop := e = .returned (.tuple #[]) ∧ PzRes base w v p' w'
def noRows (v : Zv) : Zv := { v with r := fun _ => .slice none 0 0 }
def heldL (wrong : Bool) : List Value := [.int .u8 0, .slice none 0 0, .slice none 0 0, .slice none 0 0, .int .u8 0, .bool wrong, .bool false]
theorem rows_none {v : Zv} {p p' : Pz} (h0 : p'.head = []) (h1 : p'.inter = []) (h2 : p'.text = []) : ∀ k, k < 3 → ((noRows v).r k = v.r k ∧ p'.r k = p.r k) ∨ ((noRows v).r k = .slice none 0 0 ∧ p'.r k = []) := fun k hk => .inr ⟨rfl, by
  match k, hk with
  | 0, _ => exact h0
  | 1, _ => exact h1
  | 2, _ => exact h2⟩
theorem ParB.facts (h : ParB w v p) : (w.cell? ⟨v.P, 0, none⟩ = some (.int .u8 p.pre) ∧ w.frozen? ⟨v.P, 0, none⟩ = false) ∧ (w.cell? ⟨v.P, 1, none⟩ = some (v.r 0) ∧ w.frozen? ⟨v.P, 1, none⟩ = false) ∧ (w.cell? ⟨v.P, 2, none⟩ = some (v.r 1) ∧ w.frozen? ⟨v.P, 2, none⟩ = false) ∧ (w.cell? ⟨v.P, 3, none⟩ = some (v.r 2) ∧ w.frozen? ⟨v.P, 3, none⟩ = false) ∧ (w.cell? ⟨v.P, 4, none⟩ = some (.int .u8 p.last) ∧ w.frozen? ⟨v.P, 4, none⟩ = false) ∧ (w.cell? ⟨v.P, 5, none⟩ = some (.bool p.wrong) ∧ w.frozen? ⟨v.P, 5, none⟩ = false) ∧ (w.cell? ⟨v.P, 6, none⟩ = some (.bool p.cut) ∧ w.frozen? ⟨v.P, 6, none⟩ = false) ∧ (w.cell? ⟨v.P, 7, none⟩ = some (.int .i64 p.most) ∧ w.frozen? ⟨v.P, 7, none⟩ = false) ∧ (w.cell? ⟨v.P, 8, none⟩ = some (.int .i64 p.state) ∧ w.frozen? ⟨v.P, 8, none⟩ = false) :=
  ⟨at_ h 0 _ rfl, at_ h 1 _ rfl, at_ h 2 _ rfl, at_ h 3 _ rfl, at_ h 4 _ rfl, at_ h 5 _ rfl, at_ h 6 _ rfl, at_ h 7 _ rfl, at_ h 8 _ rfl⟩
set_option maxRecDepth 100000 in
theorem zspoil_any (h : PzO base w v p) : Calls Tryz.prog 273 #[.pointer (some ⟨v.P, 0, none⟩)] w (PzPost base w v (spoilP p)) := by
  obtain ⟨⟨c0, f0⟩, ⟨c1, f1⟩, ⟨c2, f2⟩, ⟨c3, f3⟩, ⟨c4, f4⟩, ⟨c5, f5⟩, ⟨c6, f6⟩, ⟨c7, f7⟩, ⟨c8, f8⟩⟩ := h.blk.facts
  have HO := Lib.hid h
  clear h
  go_enter Tryz.func273, Tryz.ntmps273
  go_wp2
  go_end0
  exact ⟨rfl, HO.out.reblk (v' := noRows v) (mod_setCellsN (.inl (by simp)) (heldL true) 0 _ (Mod.refl _ _)) rfl (HO.out.blk.puts 0 (heldL true) (by decide) rfl rfl) (rows_none rfl rfl rfl)⟩
set_option maxRecDepth 100000 in
theorem zenter_any (h : PzO base w v p) (s : Int) : Calls Tryz.prog 67 #[.pointer (some ⟨v.P, 0, none⟩), .int .i64 s] w (PzPost base w v (enterP p s)) := by
  obtain ⟨⟨c0, f0⟩, ⟨c1, f1⟩, ⟨c2, f2⟩, ⟨c3, f3⟩, ⟨c4, f4⟩, ⟨c5, f5⟩, ⟨c6, f6⟩, ⟨c7, f7⟩, ⟨c8, f8⟩⟩ := h.blk.facts
  have HO := Lib.hid h
  clear h
  go_enter Tryz.func67, Tryz.ntmps67
  go_wp2
  go_end0
  exact ⟨rfl, HO.out.reblk (v' := noRows v) (mod_setCellsN (.inl (by simp)) (heldL false) 0 _ ((Mod.refl _ _).setCell (a := ⟨v.P, 8, none⟩) (.inl (by simp)) _)) rfl ((HO.out.blk.put 8 (.int .i64 s) (v' := v) (p' := { p with state := s }) rfl rfl).puts 0 (heldL false) (by decide) rfl rfl) (rows_none rfl rfl rfl)⟩
theorem info_u8 : (Tryz.prog.info? 5).map (fun i => (i.zero, i.size, i.bytes)) = some (some (.int .u8 0), 1, 1) := by kernel_rfl
/-- A byte is put behind a row, and the row laid in its cell. -/
theorem PzO.snoc {W w2 : World} {k : Nat} (hk : k < 3) {c : Int} {v' : Value} (h : PzO base W v p) (hg : W.grownBy w2 (v.r k).ownBlock) (ho : w2.ownsRow base 5 1 v' ((p.r k).length + 1) (bV (p.r k) ++ [.int .u8 c])) (hn : ∀ g, v'.ownBlock = some g → (v.r k).ownBlock = some g ∨ W.heap.size ≤ g) :
    PzRes base W v (p.sr (p.r k ++ [c]) k) (w2.setCell ⟨v.P, k + 1, none⟩ v') ∧ w2.cell? ⟨v.P, k + 1, none⟩ = some (v.r k) ∧ w2.frozen? ⟨v.P, k + 1, none⟩ = false := by
  have hb2 : ParB w2 v p := h.blk.keep hg (fun e => h.np ⟨k, hk, e⟩)
  refine ⟨h.grow hk hg (by rw [bV_snoc] at ho; rw [List.length_append]; exact ho) hn, ?_⟩
  match k, hk with
  | 0, _ => exact at_ hb2 1 _ rfl
  | 1, _ => exact at_ hb2 2 _ rfl
  | 2, _ => exact at_ hb2 3 _ rfl
theorem PzO.bw (h : PzO base w v p) : base ≤ w.heap.size := Nat.le_trans h.hb (Nat.le_of_lt h.blk.lt)
theorem PzRes.keep {p' : Pz} {w' : World} (h : PzRes base w v p' w') : ∃ v', v'.P = v.P ∧ PzO base w' v' p' ∧ PzRes base w v p' w' := by
  obtain ⟨v', e, hO, h2⟩ := h
  exact ⟨v', e, hO, v', e, hO, h2⟩
/-- A byte, in a block of its own, is put behind a row. -/
theorem wpList_zsnoc {ops : Array Oper} {rest : List Oper} {o : Oper} {a : Act} {Q : Exit → Act → World → Prop} (hgd : o.guard = none) (s x : Operand) (ho : o.op = .call { callee := .builtin .append, args := #[s, x], argTypes := #[23, 23] })
    (HO : PzO base w v p) (k : Nat) (hk : k < 3) (c : Int) {n : Nat} (hN : (p.r k).length = n) (hz : n ≤ 100000) {A : Option Addr} {cap : Nat} (hv : v.r k = .slice A n cap) (hs : a.eval s = .slice A n cap) (hx : a.eval x = .slice (some ⟨w.heap.size, 0, none⟩) 1 1)
    (h : ∀ A' c' w3, w3.cell? ⟨v.P, k + 1, none⟩ = some (.slice A n cap) → w3.frozen? ⟨v.P, k + 1, none⟩ = false → PzRes base w v (p.sr (p.r k ++ [c]) k) (w3.setCell ⟨v.P, k + 1, none⟩ (.slice A' (n + 1) c')) → wpList Tryz.prog ops Q rest (a.put o.dst (.slice A' (n + 1) c')) w3) :
    wpList Tryz.prog ops Q (o :: rest) a (w.alloc (.cells #[.int .u8 c] 5)) := by
  obtain ⟨i0, hi0, hz0, hz1, hz2⟩ := info_parts info_u8
  have hb : Below w.heap.size w (w.alloc (.cells #[.int .u8 c] 5)) := below_allocs (Below.refl _ _) _
  have hO := HO.below hb
  have hrow := hO.row k hk
  rw [hv, hN] at hrow
  refine wpList_append_g hgd s x 23 ho base 5 i0 _ 1 1 Tryz.underlying23 hi0 hz0 hz1 hz2 rfl (by decide) (.slice A n cap) n (bV (p.r k)) hs hrow ⟨w.heap.size, 0, none⟩ 1 1 [.int .u8 c] hx rfl (fun j u hj => ?_) (fun u hu => by rw [List.mem_singleton.1 hu]; rfl) (by unfold maxLen; omega) (by omega) (Nat.le_trans HO.bw hb.size) (fun v' w3 h1 h2 h3 => ?_)
  · cases j with
    | zero =>
      obtain rfl : Value.int .u8 c = u := by simpa using hj
      exact (at_ (hp_new rfl) 0 _ rfl).1
    | succ j => simp at hj
  · obtain ⟨A', c', rfl⟩ := row_form h1
    rw [← hv] at h2 h3
    obtain ⟨r1, r2, r3⟩ := hO.snoc hk h2 (by rw [hN]; exact h1) h3
    rw [hv] at r2
    exact h A' c' w3 r2 r3 (PzRes.pre hb r1)
set_option maxRecDepth 100000 in
set_option maxHeartbeats 1600000 in
theorem zbetween_any (h : PzO base w v p) (hi : p.inter.length ≤ 2) (c : Int) : Calls Tryz.prog 178 #[.pointer (some ⟨v.P, 0, none⟩), .int .u8 c] w (PzPost base w v (betweenP p c)) := by
  obtain ⟨A, cap, hv⟩ := row_form (h.row 1 (by omega))
  obtain ⟨-, -, ⟨c2, f2⟩, -, -, ⟨c5, f5⟩, -, -, -⟩ := h.blk.facts
  rw [hv] at c2
  have HO := Lib.hid h
  have hS := Lib.hid (zspoil_any h)
  unfold betweenP
  by_cases h2 : p.inter.length = 2
  · have hl : (p.r 1).length = 2 := h2
    rw [if_pos h2, show interP (spoilP p) c = spoilP p from if_pos rfl]
    rw [hl] at c2
    clear h hv hi h2 hl
    go_enter Tryz.func178, Tryz.ntmps178
    go_wp2_with (go_at_call 273; (with_reducible refine hS.out.mono ?_); rintro e w1 ⟨rfl, hr⟩; obtain ⟨v1, e1, hO1, hR⟩ := hr.keep; have HR := Lib.hid hR; have d5 := (at_ hO1.blk 5 (.bool true) rfl).1; rw [e1] at d5; clear hr hR hO1)
    go_end0
    exact ⟨rfl, HR.out⟩
  · rw [if_neg h2]
    have hn2 : ¬ ((p.r 1).length : Int) = 2 := fun e => h2 (by have e2 : ((p.inter.length : Nat) : Int) = 2 := e; omega)
    have hz : (p.r 1).length ≤ 2 := hi
    generalize hN : (p.r 1).length = n at c2 hn2 hz
    rw [hN] at hv
    clear h hi h2
    unfold interP
    by_cases hw : p.wrong = true
    · rw [if_pos hw]
      rw [hw] at c5
      clear hw hv hN
      go_enter Tryz.func178, Tryz.ntmps178
      go_wp2
      go_end0
      exact ⟨rfl, HO.out.res⟩
    · rw [if_neg hw]
      rw [show p.wrong = false by cases hq : p.wrong <;> simp_all] at c5
      have HV := Lib.hid hv
      clear hw hv
      go_enter Tryz.func178, Tryz.ntmps178
      go_wp2_with (refine wpList_zsnoc rfl (.tmp 21) (.tmp 23) rfl HO.out 1 (by omega) c hN (by omega) HV.out rfl rfl ?_; intro A' c' w3 d0 d1 hR; have HR := Lib.hid hR; clear hR)
      go_end0
      exact ⟨rfl, HR.out⟩
set_option maxRecDepth 100000 in
set_option maxHeartbeats 1600000 in
theorem znumber_any (h : PzO base w v p) (hi : p.head.length ≤ 256) (c : Int) : Calls Tryz.prog 179 #[.pointer (some ⟨v.P, 0, none⟩), .int .u8 c] w (PzPost base w v (numberP p c)) := by
  obtain ⟨A, cap, hv⟩ := row_form (h.row 0 (by omega))
  obtain ⟨A1, cap1, hv1⟩ := row_form (h.row 1 (by omega))
  obtain ⟨⟨c0, f0⟩, ⟨c1, f1⟩, ⟨c2, f2⟩, -, -, ⟨c5, f5⟩, -, -, -⟩ := h.blk.facts
  rw [hv] at c1
  rw [hv1] at c2
  have HO := Lib.hid h
  have hS := Lib.hid (zspoil_any h)
  have hz : (p.r 0).length ≤ 256 := hi
  have e0 : p.head.length = (p.r 0).length := rfl
  have e1 : p.inter.length = (p.r 1).length := rfl
  unfold numberP
  rw [e0, e1]
  generalize hN : (p.r 0).length = n at c1 hz hv ⊢
  generalize (p.r 1).length = m at c2 ⊢
  clear h hi e0 e1 hv1
  by_cases hw : p.wrong = true
  · rw [if_pos hw]
    rw [hw] at c5
    clear hw hv hN
    go_enter Tryz.func179, Tryz.ntmps179
    go_wp2
    go_end0
    exact ⟨rfl, HO.out.res⟩
  rw [if_neg hw]
  rw [show p.wrong = false by cases hq : p.wrong <;> simp_all] at c5
  clear hw
  by_cases ha : 60 ≤ c ∧ p.pre = 0 ∧ n = 0 ∧ m = 0
  · rw [if_pos ha]
    obtain ⟨a1, a2, rfl, rfl⟩ := ha
    rw [a2] at c0
    have a3 : ¬ c < 60 := by omega
    clear hv hN
    go_enter Tryz.func179, Tryz.ntmps179
    go_wp2
    go_end0
    exact ⟨rfl, HO.out.one 0 (.int .u8 c) rfl (fun k hk => by match k, hk with | 0, _ => rfl | 1, _ => rfl | 2, _ => rfl)⟩
  rw [if_neg ha]
  by_cases hb : 60 ≤ c ∨ 0 < m ∨ n = 256
  · rw [if_pos hb]
    generalize p.pre = q at c0 ha
    clear hv hN
    have ha := Lib.hid ha
    have hb := Lib.hid hb
    go_enter Tryz.func179, Tryz.ntmps179
    go_wp2_with (go_at_call 273; (with_reducible refine hS.out.mono ?_); rintro e w1 ⟨rfl, hr⟩; have HR := Lib.hid hr; clear hr)
    all_goals (go_end0; exact ⟨rfl, HR.out⟩)
  · rw [if_neg hb]
    have b1 : c < 60 := by omega
    have b2 : ¬ 60 ≤ c := by omega
    have b3 : m = 0 := by omega
    have b4 : ¬ (n : Int) = 256 := by omega
    subst b3
    have HV := Lib.hid hv
    clear hv ha hb
    go_enter Tryz.func179, Tryz.ntmps179
    go_wp2_with (refine wpList_zsnoc rfl (.tmp 8) (.tmp 10) rfl HO.out 0 (by omega) c hN (by omega) HV.out rfl rfl ?_; intro A' c' w3 d0 d1 hR; have HR := Lib.hid hR; clear hR)
    go_end0
    exact ⟨rfl, HR.out⟩
set_option maxRecDepth 100000 in
set_option maxHeartbeats 1600000 in
theorem zput_any (h : PzO base w v p) (hi : p.text.length ≤ 100000) (c : Int) : Calls Tryz.prog 118 #[.pointer (some ⟨v.P, 0, none⟩), .int .u8 c] w (PzPost base w v (putPz p c)) := by
  obtain ⟨A, cap, hv⟩ := row_form (h.row 2 (by omega))
  obtain ⟨-, -, -, ⟨c3, f3⟩, -, -, ⟨c6, f6⟩, ⟨c7, f7⟩, -⟩ := h.blk.facts
  rw [hv] at c3
  have HO := Lib.hid h
  have hz : (p.r 2).length ≤ 100000 := hi
  have e0 : p.text.length = (p.r 2).length := rfl
  unfold putPz
  rw [e0]
  generalize hN : (p.r 2).length = n at c3 hz hv ⊢
  clear h hi e0
  by_cases hw : p.most ≤ (n : Int)
  · rw [if_pos hw]
    clear hv hN
    go_enter Tryz.func118, Tryz.ntmps118
    go_upto_region 0 with fail
    refine wp_region_u 10 (fun w' => Below w.heap.size w w' ∧ w'.cell? ⟨v.P, 3, none⟩ = some (.slice A n cap) ∧ w'.cell? ⟨v.P, 7, none⟩ = some (.int .i64 p.most)) (by kernel_rfl) (by kernel_rfl) ?_ ?_
    · exact ⟨(Below.refl _ _).drew, c3, c7⟩
    simp only [List.take_succ_cons, List.take_zero, List.drop_succ_cons, List.drop_zero]
    repeat (
      (first
       | refine seqU_skip (by rfl) ?_
       | (refine seqU_val ?_ (by rfl) ?_ ?_; rotate_left; (focus (intro w' hS; obtain ⟨_, _, _⟩ := hS; go_simp; first | done | with_reducible rfl))))
      simp only [Act.put, List.setIfInBounds_toArray, List.set_cons_zero, List.set_cons_succ])
    refine seqU_nil (fun w' hS => ?_)
    have HB := Lib.hid hS.1
    obtain ⟨d6, e6⟩ := at_ (HO.out.below hS.1).blk 6 (.bool p.cut) rfl
    clear hS
    go_wp2
    go_end0
    exact ⟨rfl, PzRes.pre HB.out ((HO.out.below HB.out).one 6 (.bool true) rfl (fun k hk => by match k, hk with | 0, _ => rfl | 1, _ => rfl | 2, _ => rfl))⟩
  · rw [if_neg hw]
    have hw2 : (n : Int) < p.most := by omega
    have HV := Lib.hid hv
    have HNN := Lib.hid hN
    clear hv hN
    go_enter Tryz.func118, Tryz.ntmps118
    go_upto_region 0 with fail
    refine wp_region_u 10 (fun w' => Below w.heap.size w w' ∧ w'.cell? ⟨v.P, 3, none⟩ = some (.slice A n cap) ∧ w'.cell? ⟨v.P, 7, none⟩ = some (.int .i64 p.most)) (by kernel_rfl) (by kernel_rfl) ?_ ?_
    · exact ⟨(Below.refl _ _).drew, c3, c7⟩
    simp only [List.take_succ_cons, List.take_zero, List.drop_succ_cons, List.drop_zero]
    repeat (
      (first
       | refine seqU_skip (by rfl) ?_
       | (refine seqU_val ?_ (by rfl) ?_ ?_; rotate_left; (focus (intro w' hS; obtain ⟨_, _, _⟩ := hS; go_simp; first | done | with_reducible rfl))))
      simp only [Act.put, List.setIfInBounds_toArray, List.set_cons_zero, List.set_cons_succ])
    refine seqU_nil (fun w' hS => ?_)
    have HB := Lib.hid hS.1
    obtain ⟨-, d3, d7⟩ := hS
    go_wp2_with (refine wpList_zsnoc rfl (.tmp 24) (.tmp 26) rfl (HO.out.below HB.out) 2 (by omega) c HNN.out (by omega) HV.out rfl rfl ?_; intro A' c' w3 d0 d1 hR; have HR := Lib.hid (PzRes.pre HB.out hR); clear hR)
    go_end0
    exact ⟨rfl, HR.out⟩
end
end Go.Proofs.YtaefcahblmopfaaGreatDoor
