/- ChainFull: the walk of the law. -/
import Derived.Test.YtpacbbnnmopkjaaCh8
import Derived.Test.YtpacbbnnmopkjaaChF
import Derived.OpenShut
set_option linter.unusedVariables false
set_option linter.unusedSimpArgs false
namespace Go.Proofs.Ytpacbbnnmopkjaa
open Go.RowKit

set_option maxHeartbeats 1000000 in
set_option maxRecDepth 100000 in
theorem chainFull_main (n0 mark : Int) (w : World) (wn : 0 ≤ n0 ∧ n0 ≤ 255) :
    Calls Try.prog 6 #[.int .u8 n0, .int .i64 mark] w fun e w' => e = .returned (.bool true) ∧ Below w.heap.size w w' := by
  obtain ⟨n, rfl⟩ : ∃ n : Nat, n0 = (n : Int) := ⟨n0.toNat, by have := wn.1; omega⟩
  have hn : n ≤ 255 := by have := wn.2; omega
  obtain ⟨k, hkb, hk⟩ := and_mask mark
  clear wn
  go_enter Try.func6, Try.ntmps6
  go_wp2_with fail
  refine (new_calls w).mono ?_
  rintro e w1 ⟨rfl, h1, B1⟩
  go_wp2_with fail
  refine (awake_calls w1).mono ?_
  rintro e w2 ⟨rfl, b2⟩
  have h2 := h1.below b2
  have B2 := B1.trans (b2.mono B1.size)
  clear h1 b2 B1
  go_wp2
  go_loopw [6] (fun i wr => ∃ j : Nat, j ≤ 10000 ∧ i = .int .i64 ((j : Int) + 1) ∧ IsChain wr (fun i => w.heap.size ≤ i) w.heap.size (fulls j) 0 ∧ Below w.heap.size w wr) (fun i _ => 10001 - (intOf i).toNat)
  case atStart => exact ⟨0, by omega, rfl, h2, B2⟩
  case round =>
    obtain ⟨j, hj, rfl, hch, hbl⟩ := hrel
    clear h2 B2
    by_cases hlt : j < 10000
    · have hp := fulls_put j hlt
      have hpv := fulls_putv j hlt
      have hwB : w.heap.size ≤ wr.heap.size := hbl.size
      have HP := Lib.hid (put_calls _ _ (fulls j) 0 (2 * ((j : Int) + 1)) (-((j : Int) + 1)) wr hch)
      rw [hp, hpv] at HP
      clear hp hpv hch
      go_wp2_with fail
      refine HP.out.mono ?_
      rintro e w5 ⟨rfl, hc5, u5⟩
      have HC5 := Lib.hid (wider hc5 hwB)
      have HB5 := Lib.hid (upd_below hbl u5 hwB)
      clear hc5 u5 hbl HP
      go_wp2
      go_roundw
      case rel => exact ⟨j + 1, by omega, by go_num, HC5.out, HB5.out⟩
      case measure => simp [intOf]; omega
    · obtain rfl : j = 10000 := by omega
      have hfr := fulls_rises 10000
      have hfe := fulls_err
      have hfl := fulls_left k hk
      obtain ⟨hg1, hg2⟩ := fulls_get_at k (k + n) hk (by omega) (by omega)
      have hpr := prune_rises (m := 0) (t := (k : Int)) hfr
      have hpe : pruneErr (k : Int) = 0 := by unfold pruneErr; rw [if_neg (by omega)]
      have hpv : putVer (fulls 10000) 0 20001 0 = fulls 10000 := by unfold putVer; rw [hfe, if_neg (by decide)]
      have hmin : min ((k + n) / 2) 10000 = (k + n) / 2 := by omega
      rw [hmin] at hg1 hg2
      obtain ⟨q, hq⟩ : ∃ q, q = (k + n) / 2 := ⟨_, rfl⟩
      rw [← hq] at hg1 hg2
      obtain ⟨F, hF⟩ : ∃ F, F = fulls 10000 := ⟨_, rfl⟩
      rw [← hF] at hch hfr hfe hfl hg1 hg2 hpr hpv
      clear hF hmin hlt
      simp only [Int.natCast_add] at hg1 hg2
      have HG1 := Lib.hid hg1
      have HG2 := Lib.hid hg2
      have HFL := Lib.hid hfl
      have HQ := Lib.hid hq
      have HPR := Lib.hid hpr
      have HFE := Lib.hid hfe
      have HPV := Lib.hid hpv
      have HPE := Lib.hid hpe
      clear hg1 hg2 hfl hq hpr hfe hpv hpe
      have hwB : w.heap.size ≤ wr.heap.size := hbl.size
      go_wp2_with fail
      refine (put_calls _ _ F 0 20001 0 wr hch).mono ?_
      rintro e w5 ⟨rfl, hc5, u5⟩
      rw [HPV.out] at hc5
      rw [HFE.out]
      have h5 := wider hc5 hwB
      have B5 := upd_below hbl u5 hwB
      clear hc5 u5 hch hbl
      go_wp2_with fail
      refine (prune_calls _ _ F 0 k w5 h5 hfr).mono ?_
      rintro e w6 ⟨rfl, hc6, u6⟩
      rw [HPE.out]
      obtain ⟨P, hP⟩ : ∃ P, P = pruneVer F 0 k := ⟨_, rfl⟩
      obtain ⟨M, hM⟩ : ∃ M, M = pruneMark 0 k := ⟨_, rfl⟩
      rw [← hP] at hc6 HPR HFL
      rw [← hM] at hc6
      rw [← hP, ← hM] at HG1 HG2
      have h6 := wider hc6 B5.size
      have B6 := upd_below B5 u6 B5.size
      clear hc6 u6 h5 B5 hP hM
      have hqi : ((k : Int) + (n : Int)) / 2 = (q : Int) := by have := HQ.out; omega
      have hq1 : q ≤ 9000 := by have := HQ.out; omega
      by_cases hq0 : q = 0
      · by_cases h4 : 4 ≤ k
        · exfalso; have := HQ.out; omega
        · have hlp : (P.length : Int) = 10000 := by have := HFL.out; omega
          have hlb : ((P.length : Int) == 10000) = true := by simpa using hlp
          have hps : P.length ≤ 10000 := h6.small
          have HLB := Lib.hid hlb
          clear hlp hlb
          go_wp2_with fail
          refine (get_calls _ _ P M ((k : Int) + (n : Int)) w6 h6 HPR.out).mono ?_
          rintro e w7 ⟨rfl, b7⟩
          rw [HG1.out, HG2.out, if_pos hq0, if_pos hq0, show vagg (0, 0) = .agg #[.int .i64 0, .int .i64 0] from rfl]
          have b7' := b7.alloc b7.size (.cells #[.int .i64 0, .int .i64 0] 34)
          have h7 := h6.below b7'
          have B7 := B6.trans (b7'.mono B6.size)
          have X7 := Blk.new w7 34 #[.int .i64 0, .int .i64 0]
          clear b7 b7' h6 B6
          go_wp2_with fail
          refine (list_calls _ _ P M _ h7).mono ?_
          rintro e w8 ⟨v8, rfl, r8, b8⟩
          obtain ⟨A8, c8, rfl, _, _, _, _⟩ := r8.cells (by rw [vcs_length]; omega)
          have X8 := X7.below b8
          have B8 := B7.trans (b8.mono B7.size)
          have y0 : w8.cell? ⟨w7.heap.size, 0, none⟩ = some (.int .i64 0) := X8.cell 0 _ rfl
          have y1 : w8.cell? ⟨w7.heap.size, 1, none⟩ = some (.int .i64 0) := X8.cell 1 _ rfl
          have hlb := HLB.out
          clear r8 b8 h7 B7 X7 X8
          have hq5 : ((q : Int) == 0) = true := by simp; omega
          go_wp2
          go_ret
          exact ⟨rfl, B8⟩
      · by_cases h4 : 4 ≤ k
        · have hlp : (P.length : Int) = 10000 - ((k : Int) / 2 - 1) := by have := HFL.out; omega
          have hlb : ((P.length : Int) == 10000 - ((k : Int) / 2 - 1)) = true := by simpa using hlp
          have hps : P.length ≤ 10000 := h6.small
          have HLB := Lib.hid hlb
          clear hlp hlb
          go_wp2_with fail
          refine (get_calls _ _ P M ((k : Int) + (n : Int)) w6 h6 HPR.out).mono ?_
          rintro e w7 ⟨rfl, b7⟩
          rw [HG1.out, HG2.out, if_neg hq0, if_neg hq0, show vagg (2 * (q : Int), -(q : Int)) = .agg #[.int .i64 (2 * (q : Int)), .int .i64 (-(q : Int))] from rfl]
          have b7' := b7.alloc b7.size (.cells #[.int .i64 (2 * (q : Int)), .int .i64 (-(q : Int))] 34)
          have h7 := h6.below b7'
          have B7 := B6.trans (b7'.mono B6.size)
          have X7 := Blk.new w7 34 #[.int .i64 (2 * (q : Int)), .int .i64 (-(q : Int))]
          clear b7 b7' h6 B6
          go_wp2_with fail
          refine (list_calls _ _ P M _ h7).mono ?_
          rintro e w8 ⟨v8, rfl, r8, b8⟩
          obtain ⟨A8, c8, rfl, _, _, _, _⟩ := r8.cells (by rw [vcs_length]; omega)
          have X8 := X7.below b8
          have B8 := B7.trans (b8.mono B7.size)
          have y0 : w8.cell? ⟨w7.heap.size, 0, none⟩ = some (.int .i64 (2 * (q : Int))) := X8.cell 0 _ rfl
          have y1 : w8.cell? ⟨w7.heap.size, 1, none⟩ = some (.int .i64 (-(q : Int))) := X8.cell 1 _ rfl
          have hlb := HLB.out
          clear r8 b8 h7 B7 X7 X8
          have hq5 : ((q : Int) == 0) = false := by simp; omega
          have hq6 : decide (0 < (q : Int)) = true := by simp; omega
          go_wp2
          go_ret
          exact ⟨rfl, B8⟩
        · have hlp : (P.length : Int) = 10000 := by have := HFL.out; omega
          have hlb : ((P.length : Int) == 10000) = true := by simpa using hlp
          have hps : P.length ≤ 10000 := h6.small
          have HLB := Lib.hid hlb
          clear hlp hlb
          go_wp2_with fail
          refine (get_calls _ _ P M ((k : Int) + (n : Int)) w6 h6 HPR.out).mono ?_
          rintro e w7 ⟨rfl, b7⟩
          rw [HG1.out, HG2.out, if_neg hq0, if_neg hq0, show vagg (2 * (q : Int), -(q : Int)) = .agg #[.int .i64 (2 * (q : Int)), .int .i64 (-(q : Int))] from rfl]
          have b7' := b7.alloc b7.size (.cells #[.int .i64 (2 * (q : Int)), .int .i64 (-(q : Int))] 34)
          have h7 := h6.below b7'
          have B7 := B6.trans (b7'.mono B6.size)
          have X7 := Blk.new w7 34 #[.int .i64 (2 * (q : Int)), .int .i64 (-(q : Int))]
          clear b7 b7' h6 B6
          go_wp2_with fail
          refine (list_calls _ _ P M _ h7).mono ?_
          rintro e w8 ⟨v8, rfl, r8, b8⟩
          obtain ⟨A8, c8, rfl, _, _, _, _⟩ := r8.cells (by rw [vcs_length]; omega)
          have X8 := X7.below b8
          have B8 := B7.trans (b8.mono B7.size)
          have y0 : w8.cell? ⟨w7.heap.size, 0, none⟩ = some (.int .i64 (2 * (q : Int))) := X8.cell 0 _ rfl
          have y1 : w8.cell? ⟨w7.heap.size, 1, none⟩ = some (.int .i64 (-(q : Int))) := X8.cell 1 _ rfl
          have hlb := HLB.out
          clear r8 b8 h7 B7 X7 X8
          have hq5 : ((q : Int) == 0) = false := by simp; omega
          have hq6 : decide (0 < (q : Int)) = true := by simp; omega
          go_wp2
          go_ret
          exact ⟨rfl, B8⟩

open Go.ChangeShapes in
theorem chainFull_walk (n0 mark : Int) (w : World) (w0 : (Lit.int .u8 n0).wf = true) (w1 : (Lit.int .i64 mark).wf = true) :
    Calls Try.prog 6 #[.int .u8 n0, .int .i64 mark] w fun e w' => e = .returned (.bool true) ∧ Below w.heap.size w w' :=
  chainFull_main n0 mark w (bounds_u8 w0)
end Go.Proofs.Ytpacbbnnmopkjaa
