/- ChainPlays: the walk of the law. -/
import Derived.Test.YtpacbbnnmopkjaaPl1
import Derived.Deep.Cut
import Derived.Deep.CutRange
import Derived.Deep.RegionHeld3
import Derived.IntWalk
set_option linter.unusedVariables false
set_option linter.unusedSimpArgs false
namespace Go.Proofs.Ytpacbbnnmopkjaa
open Go.RowKit

theorem Upd.cell {S : Nat → Prop} {w w' : World} {a : Addr} (h : Upd S w w') (hl : a.block < w.heap.size) (hs : ¬ S a.block) : w'.cell? a = w.cell? a := by
  have := h.block _ hl hs
  simp only [World.cell?, this]

set_option maxHeartbeats 8000000 in
set_option maxRecDepth 100000 in
theorem chainPlays_walk (A0 : Option Addr) (n0 c0 : Nat) (ls : List Op3) (w : World) (w0 : n0 = ls.length ∧ Cells w A0 (ocs ls)) :
    Calls Try.prog 3 #[.slice A0 n0 c0] w fun e w' => e = .returned (.bool true) ∧ Below w.heap.size w w' := by
  obtain ⟨rfl, hc⟩ := w0
  have HC := Lib.hid (fun k (hk : k < ls.length) => hc.op k hk)
  have hlen : ls.length ≤ 9223372036854775807 := by
    have := hc.small
    have h2 : ∀ l : List Op3, (ocs l).length = l.length * 3 := fun l => by
      induction l with
      | nil => rfl
      | cons o l ih => rw [ocs_cons]; simp [ih]; omega
    rw [h2] at this; omega
  clear hc
  go_enter Try.func3, Try.ntmps3
  go_wp2_with fail
  refine (new_calls w).mono ?_
  rintro e w1 ⟨rfl, h1, B1⟩
  have h2 := h1.tight.below ((Below.refl _ _).alloc (Nat.le_refl _) (.cells #[.slice none 0 0, .int .i64 0] 27))
  have B2 := B1.alloc B1.size (.cells #[.slice none 0 0, .int .i64 0] 27)
  have T2 := Blk.new w1 27 #[.slice none 0 0, .int .i64 0]
  have hb1 := B1.size
  clear h1 B1
  go_wp2_with fail
  refine (awake_calls _).mono ?_
  rintro e w3 ⟨rfl, b3⟩
  have h3 := h2.below b3
  have B3 := B2.trans (b3.mono B2.size)
  have T3 := T2.below b3
  clear h2 B2 T2 b3
  obtain ⟨b4, hb4⟩ : ∃ b4, b4 = w1.heap.size := ⟨_, rfl⟩
  rw [← hb4] at h3 T3 hb1 ⊢
  clear hb4 w1
  go_wp2
  go_loopw [5] (fun i wr => ∃ k : Nat, k ≤ ls.length ∧ k ≤ 60 ∧ i = .int .i64 k ∧ ∃ S A c, IsChain wr S w.heap.size ((ls.take k).foldl stepOf ([], 0)).1 ((ls.take k).foldl stepOf ([], 0)).2 ∧ Rises ((ls.take k).foldl stepOf ([], 0)).1 ∧
    ((ls.take k).foldl stepOf ([], 0)).1.length ≤ c ∧ Cells wr A (vcs ((ls.take k).foldl stepOf ([], 0)).1) ∧ Blk wr b4 27 #[.slice A ((ls.take k).foldl stepOf ([], 0)).1.length c, .int .i64 ((ls.take k).foldl stepOf ([], 0)).2] ∧
    (∀ i, S i → w.heap.size ≤ i ∧ i ≠ b4 ∧ i < wr.heap.size) ∧ (∀ ad, A = some ad → ad.block ≠ b4 ∧ ¬ S ad.block ∧ ad.block < wr.heap.size) ∧ Below w.heap.size w wr) (fun i _ => 60 - (intOf i).toNat)
  case atStart =>
    exact ⟨0, Nat.zero_le _, by omega, rfl, (fun i => w.heap.size ≤ i ∧ i < b4), none, 0, by simpa using h3, by simp [Rises], by simp, by simpa [vcs] using Cells.nil _ _, by simpa using T3, fun i hi => ⟨hi.1, by have := hi.2; omega, by have := hi.2; have := T3.lt; omega⟩, fun ad e => (by cases e), B3⟩
  case round =>
    obtain ⟨k, hk, hk60, rfl, S, A, c, hch, hri, hcc, hA, hT, hS, hAo, hbl⟩ := hrel
    clear h3 T3 B3
    by_cases hlt : k < ls.length
    · by_cases h60 : k < 60
      · obtain ⟨ad, rfl, o0, o1, o2⟩ := HC.out k hlt
        have hst : (ls.take (k + 1)).foldl stepOf ([], 0) = stepOf ((ls.take k).foldl stepOf ([], 0)) ls[k] := by
          rw [List.take_succ_eq_append_getElem hlt, List.foldl_append]; rfl
        obtain ⟨st, hs0⟩ : ∃ st, st = (ls.take k).foldl stepOf ([], 0) := ⟨_, rfl⟩
        obtain ⟨o, ho⟩ : ∃ o, o = ls[k] := ⟨_, rfl⟩
        rw [← hs0] at hch hri hst hcc hA hT
        rw [← ho] at hst o0 o1 o2
        have p0 := (hbl.cell (World.block_lt_of_cell? w _ o0)).trans o0
        have p1 := (hbl.cell (World.block_lt_of_cell? w _ o1)).trans o1
        have p2 := (hbl.cell (World.block_lt_of_cell? w _ o2)).trans o2
        have hri2 := step_rises (o := o) hri
        obtain ⟨vs, m⟩ := st
        simp only at hch hri p0 p1 p2 hcc hA hT
        obtain ⟨st2, hs2⟩ : ∃ st2, st2 = stepOf (vs, m) o := ⟨_, rfl⟩
        have HD := Lib.hid (fun W' (hb : Below wr.heap.size wr W') => does_calls w.heap.size S vs m o A c W' (hch.below hb) hri hcc (hA.below hb) (fun ad e => ⟨(hAo ad e).2.1, Nat.lt_of_lt_of_le (hAo ad e).2.2 hb.size⟩))
        have HE := Lib.hid ((HD.out (wr.drew.alloc (.cells #[.slice none 0 0, .int .i64 0] 27)) ((below_drew (Below.refl _ _)).alloc (Nat.le_refl _) _)).mono (R' := fun e w4 => ∃ A' c' S', e = .returned (.tuple #[.agg #[.slice A' (stepOf (vs, m) o).1.length c', .int .i64 (stepOf (vs, m) o).2], .bool true]) ∧
          ((stepOf (vs, m) o).1.length ≤ c' ∧ Cells w4 A' (vcs (stepOf (vs, m) o).1) ∧ IsChain w4 S' w.heap.size (stepOf (vs, m) o).1 (stepOf (vs, m) o).2 ∧ (∀ i, S' i → S i ∨ wr.heap.size < i) ∧ (∀ ad, A' = some ad → (A = some ad ∨ wr.heap.size ≤ ad.block ∧ ad.block ≠ wr.heap.size) ∧ ¬ S' ad.block ∧ ad.block < w4.heap.size) ∧ Upd S wr w4) ∧ Blk w4 wr.heap.size 27 #[.slice none 0 0, .int .i64 0]) (by
            rintro e w4 ⟨A', c', S', rfl, g1, g2, g3, g4, g5, g6⟩
            have hq := Blk.new wr.drew 27 #[.slice none 0 0, .int .i64 0]
            refine ⟨A', c', S', rfl, ⟨g1, g2, g3, fun i hi => ?_, fun ad e => ?_, ?_⟩, ?_⟩
            · rcases g4 i hi with h | h
              · exact .inl h
              · right; simp at h; omega
            · obtain ⟨h1, h2, h3⟩ := g5 ad e
              refine ⟨?_, h2, h3⟩
              rcases h1 with h | h
              · exact .inl h
              · right; simp at h; omega
            · exact (Upd.of_below ((below_drew (Below.refl _ _)).alloc (Nat.le_refl _) _)).trans g6 (fun i _ h => h)
            · exact hq.upd g6 (fun h => by have := (hS _ h).2.2; simp at this)))
        rw [← hs2] at hst hri2 HD HE
        have t0 : wr.cell? ⟨b4, 0, none⟩ = some (.slice A vs.length c) := hT.cell 0 _ rfl
        have t1 : wr.cell? ⟨b4, 1, none⟩ = some (.int .i64 m) := hT.cell 1 _ rfl
        have adl := World.block_lt_of_cell? w _ o0
        have adl1 := World.block_lt_of_cell? w _ o1
        have adl2 := World.block_lt_of_cell? w _ o2
        have tl := hT.lt
        have hsz := hbl.size
        have FIVE := Lib.hid (show ∀ w4, Upd S wr w4 → w4.cell? (ad.add (k * 3)) = some (.int .i64 o.kind) ∧ w4.cell? ⟨(ad.add (k * 3)).block, (ad.add (k * 3)).off + 1, none⟩ = some (.int .i64 o.t) ∧ w4.cell? ⟨(ad.add (k * 3)).block, (ad.add (k * 3)).off + 2, none⟩ = some (.int .i64 o.v) ∧ w4.cell? ⟨b4, 0, none⟩ = some (.slice A vs.length c) ∧ w4.cell? ⟨b4, 1, none⟩ = some (.int .i64 m) from fun w4 u =>
          ⟨(u.cell (by omega) (fun h => by have := (hS _ h).1; omega)).trans p0, (u.cell (by omega) (fun h => by have := (hS _ h).1; omega)).trans p1, (u.cell (by omega) (fun h => by have := (hS _ h).1; omega)).trans p2, (u.cell tl (fun h => (hS _ h).2.1 rfl)).trans t0, (u.cell tl (fun h => (hS _ h).2.1 rfl)).trans t1⟩)
        clear adl adl1 adl2 tl hsz
        have HST := Lib.hid hst
        have HRI2 := Lib.hid hri2
        have HT := Lib.hid hT
        have HS := Lib.hid hS
        have HAO := Lib.hid hAo
        have HBL := Lib.hid hbl
        clear o0 o1 o2 ho hs0 hs2 hst hch hri2 hT hS hAo hbl hcc hA hri
        have e0 := World.new_ne wr _ p0
        have e1 := World.new_ne wr _ p1
        have e2 := World.new_ne wr _ p2
        have e3 := World.new_ne wr _ t0
        have e4 := World.new_ne wr _ t1
        go_upto_region 8 with fail
        go_cut [6, 7] from 18 to 90 (fun s6 s7 wx => ∃ g6 A' c' S', s6 = .pointer (some ⟨g6, 0, none⟩) ∧ s7 = .bool true ∧ Blk wx g6 27 #[.slice A' st2.1.length c', .int .i64 st2.2] ∧ st2.1.length ≤ c' ∧ Cells wx A' (vcs st2.1) ∧ IsChain wx S' w.heap.size st2.1 st2.2 ∧
          (∀ i, S' i → S i ∨ wr.heap.size ≤ i) ∧ (∀ ad, A' = some ad → (A = some ad ∨ wr.heap.size ≤ ad.block) ∧ ¬ S' ad.block ∧ ad.block < wx.heap.size) ∧ Upd S wr wx)
        case first =>
          go_region_held3 (fun W => W.cell? (ad.add (k * 3)) = some (.int .i64 o.kind) ∧ W.cell? ⟨(ad.add (k * 3)).block, (ad.add (k * 3)).off + 1, none⟩ = some (.int .i64 o.t) ∧ W.cell? ⟨(ad.add (k * 3)).block, (ad.add (k * 3)).off + 2, none⟩ = some (.int .i64 o.v) ∧ W.cell? ⟨b4, 0, none⟩ = some (.slice A vs.length c) ∧ W.cell? ⟨b4, 1, none⟩ = some (.int .i64 m)) (go_keep)
            (first
              | (go_at_call 16; refine (HD.out wr.drew (below_drew (Below.refl _ _))).mono ?_; rintro e w4 ⟨A', c', S', rfl, hrest⟩; obtain ⟨z0, z1, z2, z3, z4⟩ := FIVE.out w4 (Upd.trans (S' := S) (Upd.of_below (below_drew (Below.refl _ _))) hrest.2.2.2.2.2 (fun _ _ h => h)))
              | (go_at_call 16; refine HE.out.mono ?_; rintro e w4 ⟨A', c', S', rfl, hrest, hq⟩; have q0 := hq.cell 0 _ rfl; have q1 := hq.cell 1 _ rfl; have q2 := hq.free 0 none; have q3 := hq.free 1 none; obtain ⟨z0, z1, z2, z3, z4⟩ := FIVE.out w4 hrest.2.2.2.2.2))
          · go_wp2_with fail
            go_meet
            obtain ⟨r1, r2, r3, r4, r5, r6⟩ := hrest
            exact ⟨w4.heap.size, A', c', S', rfl, rfl, Blk.new _ _ _, r1, r2.alloc _, r3.below ((Below.refl _ _).alloc (Nat.le_refl _) _), r4, fun ad e => ⟨(r5 ad e).1, (r5 ad e).2.1, by have := (r5 ad e).2.2; simp; omega⟩,
              (Upd.trans (S' := S) (Upd.of_below (below_drew (Below.refl _ _))) r6 (fun _ _ h => h)).alloc _⟩
          · go_wp2_with fail
            go_meet
            obtain ⟨r1, r2, r3, r4, r5, r6⟩ := hrest
            have hus := r6.size
            obtain ⟨t9, u9⟩ := two_sets (a := wr.heap.size) hq (.slice A' st2.1.length c') (.int .i64 st2.2)
            refine ⟨wr.heap.size, A', c', S', rfl, rfl, t9, r1, r2.upd u9 (fun ad e _ h => ?_), r3.upd' u9 (fun i hi h => ?_), fun i hi => (r4 i hi).imp id (fun h => Nat.le_of_lt h), fun ad e => ⟨(r5 ad e).1.imp id (fun h => h.1), (r5 ad e).2.1, by have := (r5 ad e).2.2; simpa [World.setCell] using this⟩, r6.trans u9 (fun i hi h => by omega)⟩
            · rcases (r5 ad e).1 with h1 | h1
              · have := (HAO.out ad h1).2.2; omega
              · omega
            · rcases r4 i hi with h1 | h1
              · have := (HS.out i h1).2.2; omega
              · omega
        case rest =>
          obtain ⟨g6, A', c', S', rfl, rfl, T6, r1, r2, r3, r4, r5, r6⟩ := hcut
          have T4 := HT.out.upd r6 (fun h => (HS.out _ h).2.1 rfl)
          have k0 : wc.cell? ⟨g6, 0, none⟩ = some (.slice A' st2.1.length c') := T6.cell 0 _ rfl
          have k1 : wc.cell? ⟨g6, 1, none⟩ = some (.int .i64 st2.2) := T6.cell 1 _ rfl
          have k2 : wc.cell? ⟨b4, 0, none⟩ = some (.slice A vs.length c) := T4.cell 0 _ rfl
          have k3 : wc.cell? ⟨b4, 1, none⟩ = some (.int .i64 m) := T4.cell 1 _ rfl
          have f0 := T4.free 0 none
          have f1 := T4.free 1 none
          obtain ⟨T9, u9⟩ := two_sets (a := b4) T4 (.slice A' st2.1.length c') (.int .i64 st2.2)
          have hb4 := HT.out.lt
          have hws := r6.size
          have hA9 := r2.upd u9 (fun ad e _ h => by
            rcases (r5 ad e).1 with h1 | h1
            · have := (HAO.out ad h1).1; omega
            · omega)
          have hC9 := r3.upd' u9 (fun i hi h => by
            rcases r4 i hi with h1 | h1
            · have := (HS.out i h1).2.1; omega
            · omega)
          have U9 : Upd (fun i => w.heap.size ≤ i) wr _ := (r6.mono (S' := fun i => w.heap.size ≤ i) (fun i _ h => (HS.out i h).1)).trans u9 (fun i _ h => by omega)
          have B9 := upd_below HBL.out U9 HBL.out.size
          have hS9 : ∀ i, S' i → w.heap.size ≤ i ∧ i ≠ b4 := fun i hi => by
            rcases r4 i hi with h1 | h1
            · exact ⟨(HS.out i h1).1, (HS.out i h1).2.1⟩
            · have := HBL.out.size; exact ⟨by omega, by omega⟩
          have hAo9 : ∀ ad, A' = some ad → ad.block ≠ b4 ∧ ¬ S' ad.block ∧ ad.block < wc.heap.size := fun ad e => by
            refine ⟨?_, (r5 ad e).2⟩
            rcases (r5 ad e).1 with h1 | h1
            · exact (HAO.out ad h1).1
            · omega
          have hs9 : ((wc.setCell ⟨b4, 0, none⟩ (.slice A' st2.1.length c')).setCell ⟨b4, 1, none⟩ (.int .i64 st2.2)).heap.size = wc.heap.size := by simp [World.setCell]
          have HS9 := Lib.hid hs9
          have HT9 := Lib.hid T9
          have HA9 := Lib.hid hA9
          have HC9 := Lib.hid hC9
          have HB9 := Lib.hid B9
          have HSS9 := Lib.hid hS9
          have HAO9 := Lib.hid hAo9
          have HCC := Lib.hid r1
          clear T9 u9 hb4 hws hA9 hC9 U9 B9 hS9 hAo9 hs9 r1 r2 r3 r4 r5 r6 HD HE FIVE HT HAO HS HBL t0 t1 p0 p1 p2 T6 T4 e0 e1 e2 e3 e4
          go_wp2_with fail
          have hT9 := HT9.out
          have hA9 := HA9.out
          have hC9 := HC9.out
          have hB9 := HB9.out
          have hS9 := HS9.out
          clear HT9 HA9 HC9 HB9 HS9 k0 k1 k2 k3 f0 f1
          generalize (wc.setCell ⟨b4, 0, none⟩ (.slice A' st2.1.length c')).setCell ⟨b4, 1, none⟩ (.int .i64 st2.2) = W9 at hT9 hA9 hC9 hB9 hS9 ⊢
          obtain ⟨vs2, m2⟩ := st2
          simp only at hT9 hA9 hC9 hB9
          have hsm := hC9.small
          refine (last_calls w.heap.size S' vs2 m2 W9 hC9).mono ?_
          rintro e w5 ⟨rfl, b5⟩
          obtain ⟨n, hn⟩ : ∃ n, n = vs2.length := ⟨_, rfl⟩
          obtain ⟨x, hx⟩ : ∃ x, x = vs2.getLast?.getD (0, 0) := ⟨_, rfl⟩
          have b5' := b5.alloc b5.size (.cells #[.int .i64 x.1, .int .i64 x.2] 34)
          have X5 := Blk.new w5 34 #[.int .i64 x.1, .int .i64 x.2]
          have hT := hT9.below b5'
          have hA := hA9.below b5'
          have hC := hC9.below b5'
          have hB := hB9.trans (b5'.mono hB9.size)
          have hsz : wc.heap.size ≤ (w5.alloc (.cells #[.int .i64 x.1, .int .i64 x.2] 34)).heap.size := by have := b5'.size; omega
          rw [← hn] at hT
          rw [← hn, ← hx]
          have HN := Lib.hid hn
          have HX := Lib.hid hx
          clear hx hT9 hA9 hC9 hB9 hS9 b5 b5' hn
          go_upto_region 11 with fail
          generalize w5.alloc (.cells #[.int .i64 x.1, .int .i64 x.2] 34) = W5 at hT hA hC hB hsz X5 ⊢
          generalize w5.heap.size = b8 at X5 ⊢
          have q0 : W5.cell? ⟨b4, 0, none⟩ = some (.slice A' n c') := hT.cell 0 _ rfl
          have q1 : W5.cell? ⟨b4, 1, none⟩ = some (.int .i64 m2) := hT.cell 1 _ rfl
          have HL := Lib.hid (fun (w' : World) (hb : Below W5.heap.size W5 w') => (list_calls w.heap.size S' vs2 m2 w' (hC.below hb)).mono (R' := fun e w6 => ∃ A6 c6, e = .returned (.slice A6 n c6) ∧ Below W5.heap.size W5 w6 ∧ Cells w6 A6 (vcs vs2) ∧ w6.cell? ⟨b4, 0, none⟩ = some (.slice A' n c') ∧ w6.cell? ⟨b4, 1, none⟩ = some (.int .i64 m2)) (by
            rintro e w6 ⟨v6, rfl, r6, b6⟩
            obtain ⟨A6, c6, rfl, _, _, hc6, _⟩ := r6.cells (by rw [vcs_length]; omega)
            have hb6 := hb.trans (b6.mono hb.size)
            exact ⟨A6, c6, by rw [HN.out], hb6, hc6, (hT.below hb6).cell 0 _ rfl, (hT.below hb6).cell 1 _ rfl⟩))
          have HSM := Lib.hid (fun (w' : World) (A6 : Option Addr) (c6 : Nat) (hb : Below W5.heap.size W5 w') (h6 : Cells w' A6 (vcs vs2)) => (same_calls A6 A' n c6 n c' vs2 vs2 w' HN.out h6 HN.out (hA.below hb)).mono (R' := fun e w7 => e = .returned (.bool true) ∧ Below W5.heap.size W5 w7 ∧ w7.cell? ⟨b4, 0, none⟩ = some (.slice A' n c') ∧ w7.cell? ⟨b4, 1, none⟩ = some (.int .i64 m2)) (by
            rintro e w7 ⟨rfl, j, rfl⟩
            have hb7 := below_drewN hb j
            exact ⟨by simp, hb7, (hT.below hb7).cell 0 _ rfl, (hT.below hb7).cell 1 _ rfl⟩))
          have HMK := Lib.hid (fun (w' : World) (hb : Below W5.heap.size W5 w') => mark_calls w.heap.size S' vs2 m2 w' (hC.below hb))
          have HCC2 := Lib.hid hC
          have HA := Lib.hid hA
          have HT := Lib.hid hT
          have HB := Lib.hid hB
          have HX5 := Lib.hid X5
          clear hC hA hT hB X5
          rcases Nat.eq_zero_or_pos n with hn0 | hn0
          · have hd : decide (0 < n) = false := by simpa using hn0
            rw [hd]
            have HN0 := Lib.hid hn0
            clear hn0
            go_cut [68] from 18 to 90 (fun s68 wx => s68 = .bool false ∧ Below W5.heap.size W5 wx)
            case first =>
              go_region_held3 (fun W => W.cell? ⟨b4, 0, none⟩ = some (.slice A' n c') ∧ W.cell? ⟨b4, 1, none⟩ = some (.int .i64 m2)) (go_keep)
                (first
                  | (go_at_call 19; refine Calls.mono (HL.out _ ?_) ?_; (with_reducible exact below_drew (Below.refl _ _)); rintro e w6 ⟨A6, c6, rfl, hb6, hc6, z0, z1⟩)
                  | (go_at_call 18; refine Calls.mono (HSM.out _ _ _ ?_ ?_) ?_; (with_reducible exact hb6); (with_reducible exact hc6); rintro e w7 ⟨rfl, hb7, y0, y1⟩)
                  | (go_at_call 20; refine Calls.mono (HMK.out _ ?_) ?_; (with_reducible exact hb7); rintro e w8 ⟨rfl, rfl⟩))
              go_wp2_with fail
              go_meet
              exact ⟨rfl, hb7⟩
            case rest =>
              obtain ⟨rfl, hb⟩ := hcut
              have FH := Lib.hid (show ∀ q, ∃ S A c, IsChain (wc.drewN q) S w.heap.size vs2 m2 ∧ Rises vs2 ∧ vs2.length ≤ c ∧ Cells (wc.drewN q) A (vcs vs2) ∧ Blk (wc.drewN q) b4 27 #[.slice A vs2.length c, .int .i64 m2] ∧ (∀ i, S i → w.heap.size ≤ i ∧ i ≠ b4 ∧ i < (wc.drewN q).heap.size) ∧ (∀ ad, A = some ad → ad.block ≠ b4 ∧ ¬ S ad.block ∧ ad.block < (wc.drewN q).heap.size) ∧ Below w.heap.size w (wc.drewN q) from fun q =>
                ⟨_, A', c', (HCC2.out.below (below_drewN hb q)).tight, HRI2.out, HCC.out, HA.out.below (below_drewN hb q), by rw [← HN.out]; exact HT.out.below (below_drewN hb q), fun i hi => ⟨(HSS9.out i hi.1).1, (HSS9.out i hi.1).2, hi.2⟩, fun ad e => ⟨(HAO9.out ad e).1, fun h => (HAO9.out ad e).2.1 h.1, by have := (HAO9.out ad e).2.2; have := (below_drewN hb q).size; omega⟩, HB.out.trans ((below_drewN hb q).mono HB.out.size)⟩)
              have hxx := HX.out
              rw [show vs2 = [] from List.eq_nil_of_length_eq_zero (by rw [← HN.out]; exact HN0.out)] at hxx
              have hx1 : x.1 = 0 := congrArg Prod.fst hxx
              have hx2 : x.2 = 0 := congrArg Prod.snd hxx
              have X9 := HX5.out.below hb
              rw [hx1, hx2] at X9
              have p0 : wc.cell? ⟨b8, 0, none⟩ = some (.int .i64 0) := X9.cell 0 _ rfl
              have p1 : wc.cell? ⟨b8, 1, none⟩ = some (.int .i64 0) := X9.cell 1 _ rfl
              clear hxx hx1 hx2 X9 hb HN HX HX5 HB HT HA HCC2 HMK HSM HL q0 q1 HSS9 HAO9 HCC HRI2 HC
              go_upto_region 13 with fail
              go_quiet (fail)
              go_wp2
              exact ⟨⟨k + 1, by omega, by omega, by go_num, by rw [HST.out]; exact FH.out _⟩, by simp [intOf]; omega⟩
          · obtain ⟨j, rfl⟩ : ∃ j, n = j + 1 := ⟨n - 1, by omega⟩
            have hd : decide (0 < j + 1) = true := by simp
            rw [hd]
            clear hn0
            go_cut [68] from 18 to 90 (fun s68 wx => s68 = .bool false ∧ Below W5.heap.size W5 wx)
            case first =>
              go_region_held3 (fun W => W.cell? ⟨b4, 0, none⟩ = some (.slice A' (j + 1) c') ∧ W.cell? ⟨b4, 1, none⟩ = some (.int .i64 m2)) (go_keep)
                (first
                  | (go_at_call 19; refine Calls.mono (HL.out _ ?_) ?_; (with_reducible exact below_drew (Below.refl _ _)); rintro e w6 ⟨A6, c6, rfl, hb6, hc6, z0, z1⟩)
                  | (go_at_call 18; refine Calls.mono (HSM.out _ _ _ ?_ ?_) ?_; (with_reducible exact hb6); (with_reducible exact hc6); rintro e w7 ⟨rfl, hb7, y0, y1⟩)
                  | (go_at_call 20; refine Calls.mono (HMK.out _ ?_) ?_; (with_reducible exact hb7); rintro e w8 ⟨rfl, rfl⟩))
              go_wp2_with fail
              go_meet
              exact ⟨rfl, hb7⟩
            case rest =>
              obtain ⟨rfl, hb⟩ := hcut
              have FH := Lib.hid (show ∀ q, ∃ S A c, IsChain (wc.drewN q) S w.heap.size vs2 m2 ∧ Rises vs2 ∧ vs2.length ≤ c ∧ Cells (wc.drewN q) A (vcs vs2) ∧ Blk (wc.drewN q) b4 27 #[.slice A vs2.length c, .int .i64 m2] ∧ (∀ i, S i → w.heap.size ≤ i ∧ i ≠ b4 ∧ i < (wc.drewN q).heap.size) ∧ (∀ ad, A = some ad → ad.block ≠ b4 ∧ ¬ S ad.block ∧ ad.block < (wc.drewN q).heap.size) ∧ Below w.heap.size w (wc.drewN q) from fun q =>
                ⟨_, A', c', (HCC2.out.below (below_drewN hb q)).tight, HRI2.out, HCC.out, HA.out.below (below_drewN hb q), by rw [← HN.out]; exact HT.out.below (below_drewN hb q), fun i hi => ⟨(HSS9.out i hi.1).1, (HSS9.out i hi.1).2, hi.2⟩, fun ad e => ⟨(HAO9.out ad e).1, fun h => (HAO9.out ad e).2.1 h.1, by have := (HAO9.out ad e).2.2; have := (below_drewN hb q).size; omega⟩, HB.out.trans ((below_drewN hb q).mono HB.out.size)⟩)
              have hxx := HX.out
              have hjl : j < vs2.length := by rw [← HN.out]; omega
              rw [List.getLast?_eq_getElem?, show vs2.length - 1 = j by rw [← HN.out]; omega, List.getElem?_eq_getElem hjl] at hxx
              obtain ⟨ad9, rfl, d0, d1⟩ := (HA.out.below hb).ver j hjl
              have hx1 : x.1 = (vs2[j]).1 := congrArg Prod.fst hxx
              have hx2 : x.2 = (vs2[j]).2 := congrArg Prod.snd hxx
              rw [← hx1] at d0
              rw [← hx2] at d1
              have X9 := HX5.out.below hb
              have T9 := HT.out.below hb
              have p0 : wc.cell? ⟨b8, 0, none⟩ = some (.int .i64 x.1) := X9.cell 0 _ rfl
              have p1 : wc.cell? ⟨b8, 1, none⟩ = some (.int .i64 x.2) := X9.cell 1 _ rfl
              have p2 : wc.cell? ⟨b4, 0, none⟩ = some (.slice (some ad9) (j + 1) c') := T9.cell 0 _ rfl
              have hjs : j ≤ 10000 := by omega
              have hw0 : IntKind.i64.wrap (j : Int) = (j : Int) := IntWalk.i64_in _ (by omega)
              clear hxx hx1 hx2 X9 T9 hb HN HX HX5 HB HT HA HCC2 HMK HSM HL q0 q1 HSS9 HAO9 HCC HRI2 HC hjl
              go_upto_region 13 with fail
              go_quiet (fail)
              go_wp2
              exact ⟨⟨k + 1, by omega, by omega, by go_num, by rw [HST.out]; exact FH.out _⟩, by simp [intOf]; omega⟩
      · obtain rfl : k = 60 := by omega
        have HBL := Lib.hid hbl
        clear HC hch hri hcc hA hT hS hAo hbl
        go_wp2
        go_ret
        exact ⟨rfl, HBL.out⟩
    · obtain rfl : k = ls.length := by omega
      have HBL := Lib.hid hbl
      clear HC hch hri hcc hA hT hS hAo hbl
      go_wp2
      go_ret
      exact ⟨rfl, HBL.out⟩
end Go.Proofs.Ytpacbbnnmopkjaa
