/- FrameOwn: the walk of the law. -/
import Derived.Test.YtimjadjopemefaaSame
import Derived.Test.YtimjadjopemefaaFrameTorn
import Derived.Test.YtimjadjopemefaaSto
set_option linter.unusedVariables false
set_option linter.unusedSimpArgs false
namespace Go.Proofs.Ytimjadjopemefaa
open Go.RowKit
attribute [local go_sem] str_size str_get str_toList str_append str_extract

/-- Frames that are whole. -/
theorem scan_frames (m : List (List UInt8)) (h : ∀ l ∈ m, l.length ≤ 65536) : scanOf (framesOf m) = (m, (framesOf m).length) := by
  have := torn m h (framesOf m).length m.length (Nat.le_refl _) (Nat.le_refl _) (by rw [List.take_of_length_le (Nat.le_refl _)]; exact Nat.le_refl _) (fun l hl => by rw [List.getElem?_eq_none (Nat.le_refl _)] at hl; cases hl)
  rwa [List.take_of_length_le (Nat.le_refl _), List.take_of_length_le (Nat.le_refl _)] at this

theorem Loads.grown {w w' : World} {base : Nat} {v : Value} {ls : List (List UInt8)} {row : Option Nat} (h : Loads w base v ls) (hg : w.grownBy w' row) (hne : ∀ i, row = some i → i < base) : Loads w' base v ls := by
  obtain ⟨vs, hr, hf⟩ := h.row
  refine ⟨vs, hr.same fun g e hl => hg.block g hl (fun e2 => ?_), fun i u l h1 h2 => ?_⟩
  · have h3 := (hr.lt g e).1
    have h4 := hne g e2.symm
    omega
  · obtain ⟨A, rfl, hc, hA⟩ := hf i u l h1 h2
    have hq : ∀ ad, A = some ad → some ad.block ≠ row := fun ad e e2 => by
      have h3 := (hA ad e).1
      have h4 := hne _ e2.symm
      omega
    exact ⟨A, rfl, hc.grown hg (.inr hq), fun ad e => ⟨(hA ad e).1, (hA ad e).2.same (hg.block _ (hA ad e).2.lt (hq ad e))⟩⟩

set_option maxHeartbeats 1000000 in
set_option maxRecDepth 100000 in
theorem frameOwn_walk (A : Option Addr) (n0 c : Nat) (ls : List (List UInt8)) (w : World) (w0 : n0 = ls.length ∧ Cells w A (strs ls) ∧ ∀ l ∈ ls, l.length ≤ 9223372036854775807) :
    Calls Try.prog 10 #[.slice A n0 c] w fun e w' => e = .returned (.bool true) ∧ Below w.heap.size w w' := by
  obtain ⟨rfl, hc, hs⟩ := w0
  obtain ⟨ms, hms⟩ : ∃ ms, ms = loadsOf ls := ⟨_, rfl⟩
  have hml : ms.length ≤ 12 := by rw [hms]; exact loadsOf_len ls
  have hm3 : ∀ l ∈ ms, l.length ≤ 300 := by rw [hms]; exact loadsOf_small ls
  have hfl : (framesOf ms).length ≤ 3696 := by
    have h1 := framesOf_len 300 ms hm3
    have h2 : ms.length * (8 + 300) ≤ 12 * (8 + 300) := Nat.mul_le_mul hml (Nat.le_refl _)
    omega
  have hsc := scan_frames ms (fun l hl => Nat.le_trans (hm3 l hl) (by decide))
  obtain ⟨b, hb⟩ : ∃ b, b = framesOf ms := ⟨_, rfl⟩
  rw [← hb] at hfl hsc
  have HM3 := Lib.hid hm3
  have HMS := Lib.hid hms
  have HB := Lib.hid hb
  have HSC := Lib.hid hsc
  clear hm3 hms hb hsc
  go_enter Try.func10, Try.ntmps10
  go_wp2_with fail
  refine (loads_calls A _ c ls w rfl hc hs).mono ?_
  rintro e w1 ⟨v1, rfl, r1, b1⟩
  rw [← HMS.out] at r1
  obtain ⟨A1, c1, rfl, hc1, _, hA1, _⟩ := r1.cells1
  clear r1 hc hs
  go_wp2_with fail
  refine (sealed_calls A1 _ c1 300 ms w1 rfl hA1 (by decide) (by omega) HM3.out).mono ?_
  rintro e w2 ⟨v2, rfl, r2, b2⟩
  rw [← HB.out] at r2
  have B2 := b1.trans (b2.mono b1.size)
  have hA2 := hA1.below b2
  obtain ⟨A3, c3, rfl, hc3, hA3, _⟩ := BS.of_row r2
  clear b1 b2 hA1 r2
  go_wp2_with fail
  refine (awake_calls w2).mono ?_
  rintro e w3 ⟨rfl, b3⟩
  have B3 := B2.trans (b3.mono B2.size)
  have hA4 := hA2.below b3
  have hA5 := hA3.below b3
  clear B2 b3 hA2 hA3
  go_wp2_with (with_reducible refine halt_dst 28 ?_)
  have G3 : Below w3.heap.size w3 (w3.alloc (.cells #[] 5)) := (Below.refl _ _).alloc (Nat.le_refl _) _
  refine wpList_append_row rfl (.tmp 26) (.tmp 27) 22 rfl w3.heap.size 5 (.int .u8 0) 1 1 Try.underlying22 Try.info5 rfl (by decide) (.slice (some ⟨w3.heap.size, 0, none⟩) 0 0) 0 [] rfl (row_new w3 w3.heap.size 5 1 (Nat.le_refl _)) A3 b.length c3 (byts b) rfl (by rw [byts_length]; omega) (hA5.alloc _) (byts_one _) (by simp only [maxLen]; omega) (by omega) G3.size ?_
  intro v4 w4 r4 g4 _
  have G4 : Below w3.heap.size w3 w4 := G3.grown g4 G3.size (fun k hk => by simp [Value.ownBlock] at hk; omega)
  have R4 : Row w4 w3.heap.size 5 1 v4 b.length (byts b) := by simpa using r4
  have B4 := B3.trans (G4.mono B3.size)
  have hA6 := hA4.below G4
  have hA7 := hA5.below G4
  obtain ⟨A8, c8, rfl, hc8, hA8, _⟩ := BS.of_row R4
  clear G3 g4 r4 hA4 hA5 B3
  go_wp2_with fail
  refine (scan_calls A8 _ c8 b w4 rfl hc8 (by omega) hA8).mono ?_
  rintro e w5 ⟨v5, rfl, f5, b5⟩
  have h1 : (scanOf b).1 = ms := by rw [HSC.out]
  have h2 : (scanOf b).2 = b.length := by rw [HSC.out]
  rw [h1] at f5
  rw [h2]
  have F5 := f5
  obtain ⟨vx, hrx, hfx⟩ := f5.row
  obtain ⟨AX, cx, rfl, hcx, hvx, hAX, hBX⟩ := hrx.cells1
  have hA9 := hA6.below b5
  have hA10 := hA7.below b5
  have hA11 := hA8.below b5
  have B5 := B4.trans (b5.mono B4.size)
  have HFX := Lib.hid hfx
  have HA6 := Lib.hid hA6
  have HA7 := Lib.hid hA7
  have HA8 := Lib.hid hA8
  have HB4 := Lib.hid B4
  have Hb5 := Lib.hid b5
  clear hA6 hA7 hA8 b5 B4 hfx f5
  go_wp2_with fail
  refine (scan_calls A8 _ c8 b w5 rfl hc8 (by omega) hA11).mono ?_
  rintro e w6 ⟨v6, rfl, f6, b6⟩
  rw [h1] at f6
  rw [h2]
  have HF6 := f6
  obtain ⟨vy, hry, hfy⟩ := f6.row
  obtain ⟨AY, cy, rfl, hcy, hvy, hAY, hBY⟩ := hry.cells1
  clear h1 h2 hfy f6 hcy hvy hAY
  have HFX6 := Lib.hid (fun (i : Nat) (u : Value) (l : List UInt8) h1 h2 => (HFX.out i u l h1 h2).below b6)
  have hAX6 := hAX.below b6
  have hTX : ∀ ad, AX = some ad → Typed w6 ad.block 22 := fun ad e => by
    subst e; exact (hrx.typed _ rfl).below b6
  have hTX2 : ∀ ad, AX = some ad → ad.block < w5.heap.size := fun ad e => (hBX ad e).2
  have hTX3 : ∀ ad, AX = some ad → w4.heap.size ≤ ad.block := fun ad e => (hBX ad e).1
  have hA12 := hA9.below b6
  have hA13 := hA10.below b6
  have hA14 := hA11.below b6
  have B6 := B5.trans (b6.mono B5.size)
  clear hA9 hA10 hA11 B5 HFX hAX hBX
  obtain ⟨row, hrow⟩ : ∃ row, row = AX.map (·.block) := ⟨_, rfl⟩
  go_wp2_with fail
  go_loopw [11] (fun i wr => ∃ k : Nat, k ≤ ms.length ∧ i = .int .i64 k ∧ w6.grownBy wr row ∧ ∀ j v, k ≤ j → vx[j]? = some v → ∃ g cs, AX = some ⟨g, 0, none⟩ ∧ Blk wr g 22 cs ∧ cs[j]? = some v) (fun i _ => ms.length - (intOf i).toNat)
  case atStart =>
    refine ⟨0, Nat.zero_le _, rfl, World.grownBy.refl _ _, fun j v _ hj => ?_⟩
    obtain ⟨g, cap, cur, e, _, hB, _, _, _, ht⟩ := (hrx.below b6).blk (by have := (List.getElem?_eq_some_iff.1 hj).1; omega)
    injection e with e
    refine ⟨g, cur, e, hB, ?_⟩
    rw [← ht, List.getElem?_take] at hj
    split at hj
    · simpa using hj
    · cases hj
  case round =>
    obtain ⟨k, hk, rfl, hg, hcx⟩ := hrel
    by_cases hlt : k < ms.length
    · obtain ⟨g, cs, rfl, hB, hcs⟩ := hcx k _ (Nat.le_refl _) (List.getElem?_eq_getElem (show k < vx.length by omega))
      obtain ⟨A7, hv7, hc7, ht7⟩ := HFX6.out k _ _ (List.getElem?_eq_getElem (show k < vx.length by omega)) (List.getElem?_eq_getElem hlt)
      rw [hv7] at hcs
      obtain ⟨m, hm⟩ : ∃ m, m = ms[k] := ⟨_, rfl⟩
      have hm3 : m.length ≤ 300 := by rw [hm]; exact HM3.out _ (List.getElem_mem hlt)
      rw [← hm] at hcs hc7
      have hca : wr.cell? ⟨g, k, none⟩ = some (Value.slice A7 m.length m.length) := hB.cell k _ hcs
      have hA7 : A7 = none → m.length = 0 ∧ m.length = 0 := fun e => by
        subst e
        have : m.length = 0 := by
          apply Classical.byContradiction; intro h0
          obtain ⟨_, e, _⟩ := hc7.byte 0 (by omega)
          cases e
        exact ⟨this, this⟩
      have hC7 : Cells wr A7 (byts m) := hc7.grown hg (.inr (fun ad' e => by
        rw [hrow]; intro e2; simp only [Option.map_some, Option.some.injEq] at e2; exact (Typed.ne (ht7 _ e).2 (hTX _ rfl) (by decide)) e2))
      have hadl : g < w5.heap.size := hTX2 _ rfl
      have hrow2 : row = some g := hrow
      have HM := Lib.hid hm
      clear hc7 hm hv7
      obtain ⟨i5, hi5, hz5, hs5, hy5⟩ := info_parts Try.info5
      have HI5 := Lib.hid hi5
      clear hi5
      go_wp2_with (with_reducible refine halt_dst 52 ?_)
      refine wpList_append_grows _ rfl (.tmp 50) (.tmp 51) 22 rfl 5 i5 (.int .u8 0) 1 1 Try.underlying22 HI5.out hz5 hs5 hy5 rfl (by decide) A7 m.length m.length (byts m) rfl hA7 (by rw [byts_length]; omega) (fun b e j u hj => by obtain ⟨b', e', h⟩ := (hC7.alloc _).get j u hj; cases e.symm.trans e'; exact h) _ 1 1 [.int .u8 77] rfl rfl (fun j u hj => by obtain ⟨b', e', h⟩ := (cells_new wr #[.int .u8 77] 5 (by decide)).get j u hj; cases e'; exact h) (by intro u hu; simp at hu; subst hu; rfl) (by omega) (by simp only [maxLen]; omega) (by omega) ?_
      intro v8 w8 r8 g8
      obtain ⟨g9, c9, cur9, rfl, hb9, hB9, hn9, hc9, hs9, ht9⟩ := (Row.of_owns r8).blk (Nat.succ_pos _)
      have hG8 : wr.grownBy w8 row := grown_trans (World.grownBy_alloc _ _ _) (grown_of_below (below_of_grown g8) _)
      have hB8 : Blk w8 g 22 cs := (hB.below ((Below.refl _ _).alloc (Nat.le_refl _) _)).below (below_of_grown g8)
      have hfree : w8.frozen? ⟨g, k, none⟩ = false := hB8.free k none
      have hcell : w8.cell? ⟨g, k, none⟩ = some (Value.slice A7 m.length m.length) := hB8.cell k _ hcs
      have hb9' : wr.heap.size < g9 := by simp at hb9; omega
      have hg9 : g9 ≠ g := by have := hB.lt; omega
      have hset := hB8.set k (.slice (some ⟨g9, 0, none⟩) (m.length + 1) c9)
      have HB9 := Lib.hid (hB9.same (w' := w8.setCell ⟨g, k, none⟩ (.slice (some ⟨g9, 0, none⟩) (m.length + 1) c9)) ((set_grown w8 ⟨g, k, none⟩ _).block g9 hB9.lt (by simpa using hg9)))
      have HG8 := Lib.hid (grown_trans hG8 (by rw [hrow2]; exact set_grown w8 ⟨g, k, none⟩ (.slice (some ⟨g9, 0, none⟩) (m.length + 1) c9)))
      clear r8 g8 hG8 hB8 hB9
      go_wp2
      obtain ⟨w9, hw9⟩ : ∃ w9, w9 = w8.setCell { block := g, off := k } (Value.slice (some { block := g9, off := 0 }) (m.length + 1) c9) := ⟨_, rfl⟩
      rw [← hw9] at HG8 HB9 hset
      rw [← hw9]
      have hks : k < cs.size := (Array.getElem?_eq_some_iff.1 hcs).1
      have hc1' : (cs.setIfInBounds k (Value.slice (some { block := g9, off := 0 }) (m.length + 1) c9))[k]? = some (Value.slice (some { block := g9, off := 0 }) (m.length + 1) c9) := by simp [hks]
      have hc2' : ∀ j v, k + 1 ≤ j → vx[j]? = some v → (cs.setIfInBounds k (Value.slice (some { block := g9, off := 0 }) (m.length + 1) c9))[j]? = some v := by
        intro j v hj hv
        obtain ⟨g', cs', e, hB', hv'⟩ := hcx j v (by omega) hv
        simp only [Option.some.injEq, Addr.mk.injEq, and_true] at e
        subst e
        have e2 : cs' = cs := by
          have := hB'.symm.trans hB
          injection this with this; injection this
        subst e2
        simp only [Array.getElem?_setIfInBounds]
        rw [if_neg (by omega)]; exact hv'
      obtain ⟨cs', hcs'⟩ : ∃ cs', cs' = cs.setIfInBounds k (Value.slice (some { block := g9, off := 0 }) (m.length + 1) c9) := ⟨_, rfl⟩
      rw [← hcs'] at hset hc1' hc2'
      have HC2 := Lib.hid hc2'
      have HS := Lib.hid hset
      clear hc2' hset hcs' hw9 hcell hfree hca hC7 hA7
      go_loopw [12] (fun i wr2 => ∃ t : Nat, t ≤ m.length + 1 ∧ i = .int .i64 t ∧ w9.grownBy wr2 (some g9) ∧ ∃ cs2, Blk wr2 g9 5 cs2 ∧ cs2.size = cur9.size) (fun i _ => m.length + 1 - (intOf i).toNat)
      case atStart => exact ⟨0, Nat.zero_le _, rfl, World.grownBy.refl _ _, cur9, HB9.out, rfl⟩
      case round =>
        obtain ⟨t, ht, rfl, hg2, cs2, hB2, hsz2⟩ := hrel
        have hk9 := HS.out.kept hg2 (by simpa using Ne.symm hg9)
        have hx9 : wr.cell? ⟨g, k, none⟩ = some (Value.slice (some { block := g9, off := 0 }) (m.length + 1) c9) := hk9.cell k _ hc1'
        by_cases hlt2 : t < m.length + 1
        · have hx10 : wr.cell? ⟨g9, t, none⟩ = some (cs2[t]'(by omega)) := hB2.cell t _ (by simp)
          have hx11 : wr.frozen? ⟨g9, t, none⟩ = false := hB2.free t none
          go_wp2
          go_roundw
          case rel => exact ⟨t + 1, by omega, by go_num, grown_trans hg2 (set_grown wr ⟨g9, t, none⟩ _), _, hB2.set t _, by simpa using hsz2⟩
          case measure => simp [intOf]; omega
        · go_wp2
          go_roundw
          case rel =>
            refine ⟨k + 1, by omega, by go_num, ⟨hg2.os.trans (HG8.out.os.trans hg.os), hg2.tape.trans (HG8.out.tape.trans hg.tape), hg2.output.trans (HG8.out.output.trans hg.output), Nat.le_trans hg.size (Nat.le_trans HG8.out.size hg2.size), fun i hi hne => ?_⟩, fun j v hj hv => ⟨g, cs', rfl, hk9, HC2.out j v hj hv⟩⟩
            have := hg.size
            have := HG8.out.size
            exact (hg2.block i (by omega) (by simp; omega)).trans ((HG8.out.block i (by omega) hne).trans (hg.block i hi hne))
          case measure => simp [intOf]; omega
    · have hrl : ∀ i, row = some i → w4.heap.size ≤ i ∧ i < w5.heap.size := fun i e => by
        rw [hrow] at e
        cases hAXe : AX with
        | none => rw [hAXe] at e; cases e
        | some ad => rw [hAXe] at e; cases e; exact ⟨hTX3 _ hAXe, hTX2 _ hAXe⟩
      have BW : Below w4.heap.size w4 wr := (Hb5.out.trans (b6.mono Hb5.out.size)).trans ⟨hg.os, hg.tape, hg.output, hg.size, fun i hi => hg.block i (Nat.lt_of_lt_of_le hi (Nat.le_trans Hb5.out.size b6.size)) (fun e => by have := (hrl i e.symm).1; omega)⟩
      have hr3 := HA7.out.below BW
      have hr8 := HA8.out.below BW
      have hr1 := HA6.out.below BW
      have hrY := HF6.grown hg (fun i e => (hrl i e).2)
      have BR : Below w.heap.size w wr := HB4.out.trans (BW.mono HB4.out.size)
      go_wp2_with (with_reducible refine halt_dst 70 ?_)
      refine wpList_string rfl (.tmp 69) 22 9 5 rfl Try.underlying22 Try.underlying5 Try.underlying9 A8 _ c8 b rfl rfl hr8 ?_
      go_wp2_with (with_reducible refine halt_dst 72 ?_)
      refine wpList_string rfl (.tmp 71) 22 9 5 rfl Try.underlying22 Try.underlying5 Try.underlying9 A3 _ c3 b rfl rfl hr3 ?_
      go_wp2_with fail
      refine (same_cells _ A1 _ c1 ms ms w5.heap.size wr hrY rfl hr1 (by omega) (by omega)).mono ?_
      rintro e wz ⟨rfl, kk, rfl⟩
      go_wp2
      go_ret
      exact ⟨by simp, below_drewN BR _⟩
end Go.Proofs.Ytimjadjopemefaa
