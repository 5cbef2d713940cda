/- ChainPrunes: the walk of the law. -/
import Derived.Test.YtpacbbnnmopkjaaCh8
import Derived.Test.YtpacbbnnmopkjaaCh6
import Derived.Test.YtpacbbnnmopkjaaChG
import Derived.Deep.Cut
import Derived.OpenShut
set_option linter.unusedVariables false
set_option linter.unusedSimpArgs false
namespace Go.Proofs.Ytpacbbnnmopkjaa
open Go.RowKit

theorem IsChain.upd {w w' : World} {S S' : Nat → Prop} {g : Nat} {vs : List (Int × Int)} {m : Int} (h : IsChain w S g vs m) (hu : Upd S' w w') (hs : ∀ i, S i → ¬ S' i) : IsChain w' S g vs m := by
  obtain ⟨v, h1, h2, h3⟩ := h.at_
  exact ⟨⟨v, h1.upd hu (hs _ h.foot), h2.upd hu (fun k hk _ => hs _ (h3 k hk)), h3⟩, h.foot, h.small⟩
theorem each_counts {vs : List (Int × Int)} {m : Int} (h : Sound vs m) (i : Nat) (hi : i < vs.length) : getErr vs m (max (vs[i]).1 m) = 0 ∧ getVer vs m (max (vs[i]).1 m) = vs[i] := by
  have hc : cnt vs (max (vs[i]).1 m) = i + 1 := by
    apply cnt_split
    · omega
    · intro k hk hki
      rcases Nat.lt_or_ge k i with h1 | h1
      · have := h.rises.lt k i h1 hi; omega
      · obtain rfl : k = i := by omega
        omega
    · intro k hk hki
      have h1 := h.rises.lt i k (by omega) hk
      have h2 := h.tail k hk (by omega)
      omega
  have hr := h.rng i hi
  have hl := h.lo
  have he : getErr vs m (max (vs[i]).1 m) = 0 := by
    unfold getErr
    rw [if_neg (by omega), if_neg (by omega), hc, if_neg (by omega)]
  refine ⟨he, ?_⟩
  unfold getVer
  rw [if_pos he, hc, Nat.add_sub_cancel, List.getD_eq_getElem?_getD, List.getElem?_eq_getElem hi]; rfl
theorem quiet_eq {P : Program} {f : FuncId} {args : Array Value} {w : World} {n : Nat} {v : Value}
    (h : Calls P f args (w.drewN n) fun e w' => e = .returned v ∧ w.drewN n = w') : Calls P f args (w.drewN n) fun e w'' => e = .returned v ∧ ∃ m, w'' = w.drewN m :=
  h.mono fun _ _ ⟨he, hm⟩ => ⟨he, n, hm.symm⟩

set_option maxHeartbeats 1000000 in
set_option maxRecDepth 100000 in
theorem chainPrunes_main (A0 : Option Addr) (n0 c0 : Nat) (ls : List Op3) (mark a2 : Int) (w : World) (w0 : n0 = ls.length ∧ Cells w A0 (ocs ls)) (wa : 0 ≤ a2 ∧ a2 ≤ 65535) :
    Calls Try.prog 8 #[.slice A0 n0 c0, .int .i64 mark, .int .u16 a2] w fun e w' => e = .returned (.bool true) ∧ Below w.heap.size w w' := by
  obtain ⟨rfl, hc⟩ := w0
  have hgood := good_made ls
  obtain ⟨st, hst⟩ : ∃ st, st = madeOf ls := ⟨_, rfl⟩
  rw [← hst] at hgood
  go_enter Try.func8, Try.ntmps8
  go_wp2_with fail
  refine (made_calls A0 _ c0 ls w rfl hc).mono ?_
  rintro e w1 ⟨rfl, h1, hr, B1⟩
  have hc1 := hc.below B1
  go_wp2_with fail
  refine (made_calls A0 _ c0 ls w1 rfl hc1).mono ?_
  rintro e w2 ⟨rfl, d2, _, b2⟩
  rw [← hst] at h1 hr d2
  obtain ⟨vs, m⟩ := st
  simp only at h1 hr hgood d2
  have HG := Lib.hid hgood
  have hs := h1.small
  have h2 := h1.tight.below b2
  have B2 := B1.trans (b2.mono B1.size)
  have d2' := d2.tight
  have sz1 := B1.size
  have sz2 := b2.size
  clear hc hc1 hst hgood h1 b2 B1 d2
  go_wp2_with fail
  refine (awake_calls w2).mono ?_
  rintro e w3 ⟨rfl, b3⟩
  have h3 := h2.below b3
  have d3 := d2'.below b3
  have B3 := B2.trans (b3.mono B2.size)
  have sz3 := b3.size
  clear h2 d2' b3 B2
  go_wp2_with fail
  refine (prune_calls _ _ vs m mark w3 h3 hr).mono ?_
  rintro e w4 ⟨rfl, h4, u4⟩
  have d4 := d3.upd u4 (fun i hi hj => by omega)
  have B4 : Below w.heap.size w w4 := B3.trans (u4.below B3.size (fun i hi hj => by omega))
  have hgp := good_prune (t := mark) HG.out
  obtain ⟨P, hP⟩ : ∃ P, P = pruneVer vs m mark := ⟨_, rfl⟩
  obtain ⟨M, hM⟩ : ∃ M, M = pruneMark m mark := ⟨_, rfl⟩
  have hps := h4.small
  rw [← hP, ← hM] at h4 hgp
  rw [← hP] at hps
  have HGP := Lib.hid hgp
  clear h3 d3 u4 B3 hgp
  by_cases he : pruneErr mark = 0
  · have hMm : M = max m mark := by rw [hM]; unfold pruneMark; rw [if_pos he]
    have hst := prune_stays vs m mark (M + a2) hr (by omega)
    rw [← hP, ← hM] at hst
    have hpl : P.length ≤ vs.length := by rw [hP]; unfold pruneVer; rw [if_pos he, List.length_drop]; omega
    have hM0 := HGP.out.lo
    rw [he]
    have HST := Lib.hid hst
    clear hP hM hMm he hst
    go_wp2_with fail
    refine (mark_calls _ _ P M w4 h4).mono ?_
    rintro e w5 ⟨rfl, rfl⟩
    go_wp2_with fail
    refine (get_calls _ _ P M (M + a2) w4 h4 HGP.out.rises).mono ?_
    rintro e w5 ⟨rfl, b5⟩
    rw [HST.out.1, HST.out.2]
    obtain ⟨x0, hx0⟩ : ∃ x, x = getVer vs m (M + a2) := ⟨_, rfl⟩
    obtain ⟨e0, he0⟩ : ∃ x, x = getErr vs m (M + a2) := ⟨_, rfl⟩
    rw [← hx0, ← he0]
    have HX0 := Lib.hid hx0
    have HE0 := Lib.hid he0
    clear hx0 he0
    obtain ⟨x1, x2⟩ := x0
    rw [show vagg (x1, x2) = .agg #[.int .i64 x1, .int .i64 x2] from rfl]
    have b5' := b5.alloc b5.size (.cells #[.int .i64 x1, .int .i64 x2] 34)
    have h5 := h4.below b5'
    have d5 := d4.below b5'
    have B5 := B4.trans (b5'.mono B4.size)
    have X5 := Blk.new w5 34 #[.int .i64 x1, .int .i64 x2]
    clear h4 d4 B4 b5 b5'
    go_wp2_with fail
    refine (get_calls _ _ vs m (M + a2) _ d5 hr).mono ?_
    rintro e w6 ⟨rfl, b6⟩
    rw [← HX0.out, ← HE0.out, show vagg (x1, x2) = .agg #[.int .i64 x1, .int .i64 x2] from rfl]
    have b6' := b6.alloc b6.size (.cells #[.int .i64 x1, .int .i64 x2] 34)
    have h6 := h5.below b6'
    have d6 := d5.below b6'
    have B6 := B5.trans (b6'.mono B5.size)
    have X6 := X5.below b6'
    have Y6 := Blk.new w6 34 #[.int .i64 x1, .int .i64 x2]
    have y0 : (w6.alloc (.cells #[.int .i64 x1, .int .i64 x2] 34)).cell? ⟨w5.heap.size, 0, none⟩ = some (.int .i64 x1) := X6.cell 0 _ rfl
    have y1 : (w6.alloc (.cells #[.int .i64 x1, .int .i64 x2] 34)).cell? ⟨w5.heap.size, 1, none⟩ = some (.int .i64 x2) := X6.cell 1 _ rfl
    clear h5 d5 B5 X5 b6 b6'
    go_wp2_with fail
    refine (list_calls _ _ P M _ h6).mono ?_
    rintro e w7 ⟨v7, rfl, r7, b7⟩
    obtain ⟨A, c, rfl, hcc, _, hA, _⟩ := r7.cells (by rw [vcs_length]; omega)
    have h7 := h6.below b7
    have d7 := d6.below b7
    have B7 := B6.trans (b7.mono B6.size)
    clear h6 d6 B6 b7 r7 X6 Y6 y0 y1
    obtain ⟨n, hn⟩ : ∃ n, n = P.length := ⟨_, rfl⟩
    have HN := Lib.hid hn
    rw [← hn] at hcc hpl hps ⊢
    clear hn
    go_wp2
    go_loopw [15, 16, 17, 18] (fun i _ _ _ wr => ∃ k : Nat, k ≤ n ∧ i = .int .i64 k ∧ Below w7.heap.size w7 wr) (fun i _ _ _ _ => n - (intOf i).toNat)
    case atStart => exact ⟨0, Nat.zero_le _, rfl, Below.refl _ _⟩
    case round =>
      obtain ⟨k, hk, rfl, hbl⟩ := hrel
      have h8 := h7.below hbl
      by_cases hlt : k < n
      · have hkv : k < P.length := by rw [← HN.out]; exact hlt
        obtain ⟨ad, rfl, o0, o1⟩ := (hA.below hbl).ver k hkv
        have hec := each_counts HGP.out k hkv
        obtain ⟨y, hy⟩ : ∃ y, y = P[k] := ⟨_, rfl⟩
        rw [← hy] at o0 o1 hec
        obtain ⟨T, V⟩ := y
        simp only at o0 o1 hec
        have HEC := Lib.hid hec
        have HM := Lib.hid (fun q => mark_calls w.heap.size _ P M (wr.drewN q) (h8.below (below_drewN (Below.refl _ _) q)))
        clear hy hec
        by_cases hTM : T < M
        · have hmx : max T M = M := by omega
          go_upto_region 15 with fail
          go_quiet ((go_at_call 20; exact quiet_eq (HM.out _)))
          have h9 := h8.below (below_drewN (Below.refl _ _) nq)
          have b9 := below_drewN hbl nq
          have p0 : (wr.drewN nq).cell? (ad.add (k * 2)) = some (.int .i64 T) := o0
          have p1 : (wr.drewN nq).cell? ⟨(ad.add (k * 2)).block, (ad.add (k * 2)).off + 1, none⟩ = some (.int .i64 V) := o1
          have hec := HEC.out
          rw [hmx] at hec
          have HEC2 := Lib.hid hec
          generalize wr.drewN nq = wd at h9 b9 p0 p1 ⊢
          clear h8 hbl o0 o1 HM hec HEC hmx
          go_wp2_with fail
          refine (get_calls _ _ P M M wd h9 HGP.out.rises).mono ?_
          rintro e wx ⟨rfl, bx⟩
          rw [HEC2.out.1, HEC2.out.2, show vagg (T, V) = .agg #[.int .i64 T, .int .i64 V] from rfl]
          have bx' := bx.alloc bx.size (.cells #[.int .i64 T, .int .i64 V] 34)
          have q0 : (wx.alloc (.cells #[.int .i64 T, .int .i64 V] 34)).cell? (ad.add (k * 2)) = some (.int .i64 T) := (bx'.cell (World.block_lt_of_cell? _ _ p0)).trans p0
          have q1 : (wx.alloc (.cells #[.int .i64 T, .int .i64 V] 34)).cell? ⟨(ad.add (k * 2)).block, (ad.add (k * 2)).off + 1, none⟩ = some (.int .i64 V) := (bx'.cell (World.block_lt_of_cell? _ _ p1)).trans p1
          have by_ := b9.trans (bx'.mono b9.size)
          have Zx := Blk.new wx 34 #[.int .i64 T, .int .i64 V]
          have z0 : (wx.alloc (.cells #[.int .i64 T, .int .i64 V] 34)).cell? ⟨wx.heap.size, 0, none⟩ = some (.int .i64 T) := Zx.cell 0 _ rfl
          have z1 : (wx.alloc (.cells #[.int .i64 T, .int .i64 V] 34)).cell? ⟨wx.heap.size, 1, none⟩ = some (.int .i64 V) := Zx.cell 1 _ rfl
          clear h9 b9 p0 p1 bx bx' Zx
          go_upto_region 17 with fail
          go_quiet (fail)
          go_wp2
          go_roundw
          case rel => exact ⟨k + 1, by omega, by go_num, below_drewN by_ _⟩
          case measure => simp [intOf]; omega
        · have hmx : max T M = T := by omega
          go_upto_region 15 with fail
          go_quiet ((go_at_call 20; exact quiet_eq (HM.out _)))
          have h9 := h8.below (below_drewN (Below.refl _ _) nq)
          have b9 := below_drewN hbl nq
          have p0 : (wr.drewN nq).cell? (ad.add (k * 2)) = some (.int .i64 T) := o0
          have p1 : (wr.drewN nq).cell? ⟨(ad.add (k * 2)).block, (ad.add (k * 2)).off + 1, none⟩ = some (.int .i64 V) := o1
          have hec := HEC.out
          rw [hmx] at hec
          have HEC2 := Lib.hid hec
          generalize wr.drewN nq = wd at h9 b9 p0 p1 ⊢
          clear h8 hbl o0 o1 HM hec HEC hmx
          go_wp2_with fail
          refine (get_calls _ _ P M T wd h9 HGP.out.rises).mono ?_
          rintro e wx ⟨rfl, bx⟩
          rw [HEC2.out.1, HEC2.out.2, show vagg (T, V) = .agg #[.int .i64 T, .int .i64 V] from rfl]
          have bx' := bx.alloc bx.size (.cells #[.int .i64 T, .int .i64 V] 34)
          have q0 : (wx.alloc (.cells #[.int .i64 T, .int .i64 V] 34)).cell? (ad.add (k * 2)) = some (.int .i64 T) := (bx'.cell (World.block_lt_of_cell? _ _ p0)).trans p0
          have q1 : (wx.alloc (.cells #[.int .i64 T, .int .i64 V] 34)).cell? ⟨(ad.add (k * 2)).block, (ad.add (k * 2)).off + 1, none⟩ = some (.int .i64 V) := (bx'.cell (World.block_lt_of_cell? _ _ p1)).trans p1
          have by_ := b9.trans (bx'.mono b9.size)
          have Zx := Blk.new wx 34 #[.int .i64 T, .int .i64 V]
          have z0 : (wx.alloc (.cells #[.int .i64 T, .int .i64 V] 34)).cell? ⟨wx.heap.size, 0, none⟩ = some (.int .i64 T) := Zx.cell 0 _ rfl
          have z1 : (wx.alloc (.cells #[.int .i64 T, .int .i64 V] 34)).cell? ⟨wx.heap.size, 1, none⟩ = some (.int .i64 V) := Zx.cell 1 _ rfl
          clear h9 b9 p0 p1 bx bx' Zx
          go_upto_region 17 with fail
          go_quiet (fail)
          go_wp2
          go_roundw
          case rel => exact ⟨k + 1, by omega, by go_num, below_drewN by_ _⟩
          case measure => simp [intOf]; omega
      · obtain rfl : k = n := by omega
        have d8 := d7.below hbl
        have B8 := B7.trans (hbl.mono B7.size)
        clear hA h8 hbl h7 d7 B7
        go_wp2_with fail
        refine (list_calls _ _ vs m wr d8).mono ?_
        rintro e w9 ⟨v9, rfl, r9, b9⟩
        obtain ⟨A9, c9, rfl, _, _, _, _⟩ := r9.cells (by rw [vcs_length]; omega)
        have B9 := B8.trans (b9.mono B8.size)
        have hdl : decide (k ≤ vs.length) = true := by simpa using hpl
        have hdl2 : decide ((k : Int) ≤ (vs.length : Int)) = true := by simpa using hpl
        clear d8 B8 b9 r9
        go_wp2
        go_ret
        exact ⟨rfl, B9⟩
  · have hPv : P = vs := by rw [hP]; unfold pruneVer; rw [if_neg he]
    have hMv : M = m := by rw [hM]; unfold pruneMark; rw [if_neg he]
    have hb1 : (pruneErr mark != 0) = true := by simpa using he
    subst hPv hMv
    clear hP hM
    obtain ⟨ee, hee⟩ : ∃ e, e = pruneErr mark := ⟨_, rfl⟩
    rw [← hee] at hb1 he ⊢
    clear hee he
    go_wp2_with fail
    refine (list_calls _ _ P M w4 h4).mono ?_
    rintro e w5 ⟨v5, rfl, r5, b5⟩
    obtain ⟨A5, c5, rfl, _, _, hA5, _⟩ := r5.cells (by rw [vcs_length]; omega)
    have h5 := h4.below b5
    have d5 := d4.below b5
    have B5 := B4.trans (b5.mono B4.size)
    clear h4 d4 B4 b5 r5
    go_wp2_with fail
    refine (list_calls _ _ P M w5 d5).mono ?_
    rintro e w6 ⟨v6, rfl, r6, b6⟩
    obtain ⟨A6, c6, rfl, _, _, hA6, _⟩ := r6.cells (by rw [vcs_length]; omega)
    have hA7 := hA5.below b6
    have h6 := h5.below b6
    have d6 := d5.below b6
    have B6 := B5.trans (b6.mono B5.size)
    clear h5 d5 B5 b6 r6 hA5
    go_wp2_with fail
    refine (same_calls A5 A6 _ c5 _ c6 P P w6 rfl hA7 rfl hA6).mono ?_
    rintro e w7 ⟨rfl, j, rfl⟩
    rw [show decide (P = P) = true by simp]
    have h7 := h6.below (below_drewN (Below.refl _ _) j)
    have d7 := d6.below (below_drewN (Below.refl _ _) j)
    have B7 := below_drewN B6 j
    clear h6 d6 B6 hA6 hA7
    go_wp2_with fail
    refine (mark_calls _ _ P M _ h7).mono ?_
    rintro e w8 ⟨rfl, rfl⟩
    go_wp2_with fail
    refine (mark_calls _ _ P M _ d7).mono ?_
    rintro e w8 ⟨rfl, rfl⟩
    have hmm : (M == M) = true := by simp
    go_wp2
    go_ret
    exact ⟨rfl, B7⟩

open Go.ChangeShapes in
theorem chainPrunes_walk (A0 : Option Addr) (n0 c0 : Nat) (ls : List Op3) (mark a2 : Int) (w : World) (w0 : n0 = ls.length ∧ Cells w A0 (ocs ls)) (w1 : (Lit.int .i64 mark).wf = true) (w2 : (Lit.int .u16 a2).wf = true) :
    Calls Try.prog 8 #[.slice A0 n0 c0, .int .i64 mark, .int .u16 a2] w fun e w' => e = .returned (.bool true) ∧ Below w.heap.size w w' :=
  chainPrunes_main A0 n0 c0 ls mark a2 w w0 (bounds_u16 w2)
end Go.Proofs.Ytpacbbnnmopkjaa
