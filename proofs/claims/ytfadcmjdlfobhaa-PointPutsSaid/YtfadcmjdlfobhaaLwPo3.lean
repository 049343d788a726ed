/- PointPuts: the walk of the law. Conditions: as stated. -/
import Derived.Test.YtfadcmjdlfobhaaPsD
namespace Go.Proofs.Ytfadcmjdlfobhaa
open Go.RowKit Go.Sort

theorem gr_take {α : Type} {enc : α → List Value} {k : Nat} {w : World} {A : Option Addr} {l : List α} (h : GrAt enc k w A l) (n : Nat) : GrAt enc k w A (l.take n) := fun hl => by
  rw [List.length_take] at hl
  obtain ⟨b, off, e, hc⟩ := h (by omega)
  refine ⟨b, off, e, fun i x hx j v hv => hc i x ?_ j v hv⟩
  rw [List.getElem?_take] at hx
  split at hx
  · exact hx
  · cases hx
theorem Bo.mono {B p q mo N N' : Nat} {L : List P2} {w0 w : World} (h : Bo B p q mo N L w0 w) (hN : N ≤ N') : Bo B p q mo N' L w0 w := by
  obtain ⟨next, M, h1, h2, h3, h4, h5, h6, h7⟩ := h
  exact ⟨next, M, h1, h2, h3, h4, h5, h6, by omega⟩
def BothPut (B p q mo N : Nat) (L P : List P2) (w0 : World) (F : List Nat) (w2 : World) : Prop :=
  ∃ next M G, PtSt w2 p F mo (putL L P) ∧ PrSt w2 q G mo next M ∧ (∀ g ∈ F, g ∉ G) ∧ (∀ g ∈ F, B ≤ g) ∧ (∀ g ∈ G, B ≤ g) ∧ Below B w0 w2 ∧ Pts mo next L M ∧ ColsIn L ∧ L.length ≤ mo ∧ 0 ≤ next ∧ next ≤ N
/-- Others are put in both. -/
theorem bo_put {B p q mo N : Nat} {L P : List P2} {w0 w : World} {PA : Option Addr} {cb : Nat} (h : Bo B p q mo N L w0 w) (hP : GrAt encP 2 w0 PA P) (hB : B = w0.heap.size) (hz : P.length ≤ 1000) :
    Calls Try.prog 25 #[.pointer (some ⟨p, 0, none⟩), .slice PA P.length cb] w fun e w' => e = .returned (.int .i64 (if okPut L P then 0 else 1)) ∧ ∃ F, BothPut B p q mo N L P w0 F w' := by
  subst hB
  obtain ⟨next, M, ⟨F, G, h1, h2, h3, h4, h5⟩, hw, hp, hc, hl, hn0, hn⟩ := h
  refine (PtPut_any p F mo L PA P cb w h1 (hP.below hw) (by omega)).mono fun e w' ⟨he, k1, k2⟩ => ⟨he, F, next, M, G, k1, h2.mod k2 (fun g hg hF => h3 g hF hg), h3, h4, h5, hw.trans (k2.below h4 hw.size), hp, hc, hl, hn0, hn⟩
theorem bo_rput {B p q mo N : Nat} {L P : List P2} {w0 w : World} {PA : Option Addr} {cb : Nat} {F : List Nat} (h : BothPut B p q mo N L P w0 F w) (hP : GrAt encP 2 w0 PA P) (hB : B = w0.heap.size) (hz : P.length ≤ 1000) (hmo : mo ≤ N) :
    Calls Try.prog 26 #[.pointer (some ⟨q, 0, none⟩), .slice PA P.length cb] w fun e w' => e = .returned (.bool (okPut L P)) ∧ Bo B p q mo N (putL L P) w0 w' := by
  subst hB
  obtain ⟨next, M, G, h1, h2, h3, h4, h5, hw, hp, hc, hl, hn0, hn⟩ := h
  refine (PrPut_any q G mo next M PA P cb w h2 (hP.below hw) ?_ hz).mono fun e w' hpp => ?_
  · intro b off e hpos hg
    obtain ⟨b', off', e', hc'⟩ := hP hpos
    rw [e] at e'
    simp only [Option.some.injEq, Addr.mk.injEq, and_true] at e'
    obtain ⟨rfl, rfl⟩ := e'
    have := lt_of_cell (hc' 0 P[0] (List.getElem?_eq_getElem hpos) 0 _ rfl)
    have := h5 b hg
    omega
  · unfold PrPutPost at hpp
    rw [okPut_pts hp] at hpp
    by_cases hok : okPut L P = true
    · rw [if_pos hok] at hpp
      obtain ⟨he, G', k1, k2, k3⟩ := hpp
      have hlen := putL_len (L := L) (P := P)
      have hPl : P.length = L.length := by unfold putL at hlen; rw [if_pos hok] at hlen; exact hlen
      refine ⟨by rw [hok]; exact he, _, _, ⟨F, G', h1.mod k2 (fun g hg hG => h3 g hg hG), k1, fun g hg hG => ?_, h4, fun g hg => ?_⟩, hw.trans (k2.below h5 hw.size), pts_putL hp hok, putL_cols hc, by rw [hlen]; exact hl, by omega, by omega⟩
      · rcases k3 g hG with h | h
        · exact h3 g hg h
        · have := h1.lt g hg; omega
      · rcases k3 g hg with h | h
        · exact h5 g h
        · have := hw.size; omega
    · rw [if_neg hok] at hpp
      have hf : okPut L P = false := by simpa using hok
      have e2 : putL L P = L := by unfold putL; rw [if_neg hok]
      rw [e2] at h1 ⊢
      exact ⟨by rw [hf]; exact hpp.1, next, M, ⟨F, G, h1.below hpp.2, h2.below hpp.2, h3, h4, h5⟩, hw.trans (hpp.2.mono hw.size), hp, hc, hl, hn0, hn⟩
set_option maxRecDepth 100000 in
set_option maxHeartbeats 3200000 in
theorem PointPuts_walk (m : Int) (A : Option Addr) (l : List Ov) (ca : Nat) (PA : Option Addr) (pl : List P2) (cp : Nat) (w : World) (h0 : 0 ≤ m) (h1 : m ≤ 255) (hz : l.length ≤ 9223372036854775807) (hl : GrAt encO 6 w A l)
    (hz2 : pl.length ≤ 9223372036854775807) (hpl : GrAt encP 2 w PA pl) (hcp : pl.length ≤ cp) :
    Calls Try.prog 5 #[.int .u8 m, .slice A l.length ca, .slice PA pl.length cp] w (TruePost w) := by
  have HL := Lib.hid hl
  have HPL := Lib.hid hpl
  have HAW := Lib.hid (fun w => awake20 w)
  clear hl hpl
  by_cases hbig : 60 < l.length
  · go_enter Try.func5, Try.ntmps5
    go_wp2_with (go_at_call 14; refine (HAW.out _).mono ?_; rintro e w1 ⟨rfl, hb1⟩)
    go_ret
    exact ⟨rfl, hb1⟩
  by_cases hbig2 : 60 < pl.length
  · go_enter Try.func5, Try.ntmps5
    go_wp2_with (go_at_call 14; refine (HAW.out _).mono ?_; rintro e w1 ⟨rfl, hb1⟩)
    go_ret
    exact ⟨rfl, hb1⟩
  · obtain ⟨mo, hmo⟩ : ∃ mo : Nat, (mo : Int) = 1 + m % 30 := ⟨(1 + m % 30).toNat, by omega⟩
    have HMD := Lib.hid (fun w => made20 m h0 h1 mo hmo w)
    have hmo1 : 1 ≤ mo := by omega
    have hmo2 : mo ≤ 30 := by omega
    clear hmo h0 h1
    go_enter Try.func5, Try.ntmps5
    go_wp2_with (first
      | (go_at_call 14; refine (HAW.out _).mono ?_; rintro e w1 ⟨rfl, hb1⟩; have HB1 := Lib.hid hb1; have HP1 := Lib.hid (HPL.out.below hb1); clear hb1)
      | (go_at_call 15; refine (HMD.out _).mono ?_; rintro e w2 ⟨p, q, rfl, hbo⟩; have HBO := Lib.hid hbo; clear hbo))
    go_loopw [2, 9] (fun s2 s9 wr => ∃ (i k : Nat) (L : List P2), i ≤ l.length ∧ s9 = .int .i64 i ∧ k ≤ pl.length ∧ s2 = .slice PA k cp ∧ Bo w1.heap.size p q mo (i + 40) L w1 wr) (fun _ s9 _ => l.length - (intOf s9).toNat)
    case atStart => exact ⟨0, pl.length, [], Nat.zero_le _, rfl, Nat.le_refl _, rfl, HBO.out.mono (by omega)⟩
    case round =>
      obtain ⟨i, kk, L, hi, rfl, hkk, rfl, hbo⟩ := hrel
      have hB : Below w.heap.size w wr := below_tail HB1.out (by obtain ⟨_, _, _, hb, _⟩ := hbo; exact hb)
      have HBO2 := Lib.hid hbo
      clear hbo
      by_cases hlt : i < l.length
      rotate_left
      · obtain rfl : i = l.length := by omega
        have HB := Lib.hid hB
        have HA := Lib.hid (HBO2.out.answers hmo2 (by omega))
        have HSL := Lib.hid (sortP_len L)
        have hL30 : L.length ≤ 30 := by obtain ⟨_, _, _, _, _, _, h, _⟩ := HBO2.out; omega
        clear hB
        go_wp2_with (first
          | (go_at_call 19; (with_reducible refine (HA.out.list _ (Below.refl _ _)).mono ?_); rintro e w4 ⟨v, rfl, ⟨⟨X1, x1, rfl⟩, hg1⟩, hb4⟩; have HG1 := Lib.hid hg1; clear hg1)
          | (go_at_call 20; (with_reducible refine (HA.out.rlist _ hb4).mono ?_); rintro e w5 ⟨v, rfl, ⟨⟨X2, x2, rfl⟩, hg2⟩, hb5⟩; have HG2 := Lib.hid hg2; have hb45 := below_tail hb4 hb5; have HG1' := Lib.hid (GrV.pers _ _ _ _ HG1.out hb5); clear hg2)
          | (go_at_call 18; (with_reducible refine (places_rows L.length (sortP L) X1 X2 x1 x2 _ HG1'.out HG2.out HSL.out (by omega)).mono ?_); rintro e w6 ⟨rfl, hb6⟩; have hb46 := below_tail hb45 hb6)
          | (go_at_call 21; (with_reducible refine (HA.out.places _ hb46).mono ?_); rintro e w7 ⟨v, rfl, ⟨⟨X3, x3, rfl⟩, hg3⟩, hb7⟩; have HG3 := Lib.hid hg3; have hb47 := below_tail hb46 hb7; clear hg3)
          | (go_at_call 22; (with_reducible refine (HA.out.rplaces _ hb47).mono ?_); rintro e w8 ⟨v, rfl, ⟨⟨X4, x4, rfl⟩, hg4⟩, hb8⟩; have HG4 := Lib.hid hg4; have hb48 := below_tail hb47 hb8; have HG3' := Lib.hid (GrV.pers _ _ _ _ HG3.out hb8); clear hg4)
          | (go_at_call 18; (with_reducible refine (places_rows L.length L X3 X4 x3 x4 _ HG3'.out HG4.out rfl (by omega)).mono ?_); rintro e w9 ⟨rfl, hb9⟩))
        go_ret
        exact ⟨rfl, below_tail HB.out (below_tail hb48 hb9)⟩
      · obtain ⟨b, off, o, rfl, ho, co⟩ := (HL.out.below hB).at_ hlt
        have HD := Lib.hid (does20 _ p q mo (i + 40) L w1 wr o HBO2.out hmo1 hmo2 (by omega))
        obtain ⟨mvb, r, c, k, a, n⟩ := o
        have c0 : wr.cell? ⟨b, off + i * 6, none⟩ = some (.bool mvb) := co 0 _ rfl
        have c1 := co 1 _ rfl
        have c2 := co 2 _ rfl
        have c3 := co 3 _ rfl
        have c4 := co 4 _ rfl
        have c5 := co 5 _ rfl
        generalize stepL mo L _ = L2 at HD
        clear co ho hB HBO2 HBO
        go_upto_region 10 with (go_at_call 16; refine HD.out.mono ?_; rintro e w3 ⟨rfl, hbo⟩; have HB3 := Lib.hid hbo; clear hbo)
        obtain ⟨A3, ca3, hq2⟩ := (HB3.out.answers hmo2 (by omega)).cell
        have hL30 : L2.length ≤ 30 := by obtain ⟨_, _, _, _, _, _, h, _⟩ := HB3.out; omega
        have HW0 := Lib.hid (show w1.heap.size = w1.heap.size from rfl)
        clear c0 c1 c2 c3 c4 c5
        by_cases hmid : (i : Int) = (l.length : Int) / 2
        rotate_left
        · have hmid' : ((i : Int) == (l.length : Int) / 2) = false := by simpa using hmid
          clear hmid
          go_wp2_with fail
          go_roundw
          case rel => exact ⟨i + 1, kk, L2, by omega, by go_num, hkk, rfl, HB3.out.mono (by omega)⟩
          case measure => simp [intOf]; omega
        · have hmid' : ((i : Int) == (l.length : Int) / 2) = true := by simpa using hmid
          clear hmid
          have HPUT : Hid (∀ k : Nat, k ≤ pl.length → Calls Try.prog 25 #[.pointer (some ⟨p, 0, none⟩), .slice PA k cp] w3 fun e w' => e = .returned (.int .i64 (if okPut L2 (pl.take k) then 0 else 1)) ∧ ∃ F, BothPut w1.heap.size p q mo (i + 40 + 1) L2 (pl.take k) w1 F w') := Lib.hid (fun k hk => by
            have e : (pl.take k).length = k := by simp; omega
            have := bo_put (cb := cp) HB3.out (gr_take HP1.out k) rfl (by omega)
            rw [e] at this
            exact this)
          have HRPUT : Hid (∀ (k : Nat) (F : List Nat) (w' : World), k ≤ pl.length → BothPut w1.heap.size p q mo (i + 40 + 1) L2 (pl.take k) w1 F w' → Calls Try.prog 26 #[.pointer (some ⟨q, 0, none⟩), .slice PA k cp] w' fun e w'' => e = .returned (.bool (okPut L2 (pl.take k))) ∧ Bo w1.heap.size p q mo (i + 40 + 1) (putL L2 (pl.take k)) w1 w'') := Lib.hid (fun k F w' hk h => by
            have e : (pl.take k).length = k := by simp; omega
            have := bo_rput (cb := cp) h (gr_take HP1.out k) rfl (by omega) (by omega)
            rw [e] at this
            exact this)
          clear HD HW0
          by_cases hkn : L2.length < kk
          · obtain ⟨k2, hk2e⟩ : ∃ k2 : Nat, k2 = L2.length + kk % 2 := ⟨_, rfl⟩
            have hk2 : k2 ≤ kk := by omega
            have hk2c : k2 ≤ cp := by omega
            have hwr : IntKind.i64.wrap ((L2.length : Int) + (kk : Int) % 2) = (k2 : Int) := by rw [IntWalk.i64_in _ (by omega)]; omega
            have HP2 := Lib.hid (HPUT.out k2 (by omega))
            have HR2 := Lib.hid (fun F w' => HRPUT.out k2 F w' (by omega))
            clear HPUT HRPUT hk2e
            generalize okPut L2 (pl.take k2) = ok at HP2 HR2
            cases ok <;> (
              go_wp2_with (first
                | (go_at_call 25; refine HP2.out.mono ?_; rintro e w4 ⟨rfl, F, hbp⟩; have HBP := Lib.hid hbp; clear hbp)
                | (go_at_call 26; refine (HR2.out _ _ HBP.out).mono ?_; rintro e w5 ⟨rfl, hbo⟩; have HB5 := Lib.hid hbo; clear hbo))
              go_roundw
              case rel => exact ⟨i + 1, k2, _, by omega, by go_num, by omega, rfl, HB5.out.mono (by omega)⟩
              case measure => simp [intOf]; omega)
          · have HP2 := Lib.hid (HPUT.out kk hkk)
            have HR2 := Lib.hid (fun F w' => HRPUT.out kk F w' hkk)
            clear HPUT HRPUT
            generalize okPut L2 (pl.take kk) = ok at HP2 HR2
            cases ok <;> (
              go_wp2_with (first
                | (go_at_call 25; refine HP2.out.mono ?_; rintro e w4 ⟨rfl, F, hbp⟩; have HBP := Lib.hid hbp; clear hbp)
                | (go_at_call 26; refine (HR2.out _ _ HBP.out).mono ?_; rintro e w5 ⟨rfl, hbo⟩; have HB5 := Lib.hid hbo; clear hbo))
              go_roundw
              case rel => exact ⟨i + 1, kk, _, by omega, by go_num, hkk, rfl, HB5.out.mono (by omega)⟩
              case measure => simp [intOf]; omega)
end Go.Proofs.Ytfadcmjdlfobhaa
