/- The walks of List, Prune. -/
import Derived.Test.YtpacbbnnmopkjaaCh4
import Derived.Test.YtpacbbnnmopkjaaCpy
import Derived.Test.YtpacbbnnmopkjaaCut
set_option linter.unusedVariables false
set_option linter.unusedSimpArgs false
namespace Go.Proofs.Ytpacbbnnmopkjaa
open Go.RowKit

set_option maxHeartbeats 1000000 in
set_option maxRecDepth 100000 in
theorem list_calls (g : Nat) (S : Nat → Prop) (vs : List (Int × Int)) (m : Int) (w : World) (h : IsChain w S g vs m) :
    Calls Try.prog 19 #[.pointer (some ⟨g, 0, none⟩)] w fun e w' => ∃ v, e = .returned v ∧ Row w' w.heap.size 34 2 v vs.length (vcs vs) ∧ Below w.heap.size w w' := by
  obtain ⟨v, hb, hrow, hfoot⟩ := h.at_
  have hs := h.small
  have hgl := hb.lt
  obtain ⟨A, cap, rfl, hnc, hcm, hA, _⟩ := hrow.cells (by rw [vcs_length]; omega)
  have h0 : w.cell? ⟨g, 0, none⟩ = some (.slice A vs.length cap) := hb.cell 0 _ rfl
  have hln := vcs_length vs
  have h1c := vcs_one vs
  obtain ⟨cs, hcs⟩ : ∃ cs, cs = vcs vs := ⟨_, rfl⟩
  rw [← hcs] at hA hln h1c ⊢
  obtain ⟨n, hn⟩ : ∃ n, n = vs.length := ⟨_, rfl⟩
  rw [← hn] at hln h0 hs ⊢
  have HC := Lib.hid h1c
  have HLN := Lib.hid hln
  clear hb hrow hfoot h hcs h1c hln hn
  go_enter Try.func19, Try.ntmps19
  go_wp2_with (with_reducible refine halt_dst 9 ?_)
  refine wpList_maken rfl (.tmp 8) (.tmp 8) 25 rfl w.heap.size 34 (.agg #[.int .i64 0, .int .i64 0]) 2 16 Try.underlying25 Try.info34 .i64 .i64 _ _ n rfl rfl rfl rfl (by omega) (by simp only [maxLen]; omega) (Nat.le_refl _) ?_
  intro w2 r2 b2 _
  have h02 : w2.cell? ⟨g, 0, none⟩ = some (.slice A n cap) := (b2.cell hgl).trans h0
  have hA2 := hA.below b2
  obtain ⟨xs, hxs⟩ : ∃ xs, xs = (madeCells (Value.agg #[.int .i64 0, .int .i64 0]).cells (n * 2)).toList := ⟨_, rfl⟩
  rw [← hxs] at r2
  clear h0 hA hxs
  go_wp2_with (with_reducible refine halt_dst 15 ?_)
  refine wpList_copy rfl (.tmp 10) (.tmp 14) 25 25 rfl 34 (.agg #[.int .i64 0, .int .i64 0]) 2 16 Try.underlying25 Try.info34 (by decide) w.heap.size n A n cap w.heap.size cs xs rfl rfl r2 HLN.out hA2 HC.out ?_
  intro w3 r3 g3
  have b3 : Below w.heap.size w w3 := b2.grown g3 b2.size (fun j hj => by cases hj; exact Nat.le_refl _)
  clear r2 g3 b2 h02 hA2
  go_wp2
  go_ret
  exact ⟨_, rfl, r3, b3⟩

def pruneErr (mark : Int) : Int := if mark < 0 ∨ 1125899906842624 < mark then 110 else 0
def pruneMark (m mark : Int) : Int := if pruneErr mark = 0 then max m mark else m
def pruneVer (vs : List (Int × Int)) (m mark : Int) : List (Int × Int) := if pruneErr mark = 0 then vs.drop (cnt vs (max m mark) - 1) else vs

set_option maxHeartbeats 1000000 in
set_option maxRecDepth 100000 in
theorem prune_err (g : Nat) (p : Value) (mark : Int) (w : World) (he : pruneErr mark ≠ 0) :
    Calls Try.prog 24 #[p, .int .i64 mark] w fun e w' => e = .returned (.int .i64 (pruneErr mark)) ∧ w = w' := by
  unfold pruneErr at he ⊢
  by_cases hat : mark < 0 ∨ 1125899906842624 < mark
  · rw [if_pos hat]
    clear he
    rcases (show mark < 0 ∨ (¬ mark < 0 ∧ 1125899906842624 < mark) by omega) with h2 | ⟨h2, h3⟩
    · go_enter Try.func24, Try.ntmps24
      go_wp2
      go_ret
      exact ⟨rfl, rfl⟩
    · go_enter Try.func24, Try.ntmps24
      go_wp2
      go_ret
      exact ⟨rfl, rfl⟩
  · rw [if_neg hat] at he; exact absurd rfl he

set_option maxHeartbeats 1000000 in
set_option maxRecDepth 100000 in
theorem prune_ok (g : Nat) (S : Nat → Prop) (vs : List (Int × Int)) (m mark M : Int) (w : World) (h : IsChain w S g vs m) (hr : Rises vs) (hM : M = max m mark) (he : pruneErr mark = 0) :
    Calls Try.prog 24 #[.pointer (some ⟨g, 0, none⟩), .int .i64 mark] w fun e w' => e = .returned (.int .i64 0) ∧ IsChain w' (fun i => S i ∨ w.heap.size ≤ i) g (vs.drop (cnt vs M - 1)) M ∧ Upd S w w' := by
  unfold pruneErr at he
  by_cases hat : mark < 0 ∨ 1125899906842624 < mark
  · rw [if_pos hat] at he; cases he
  have h2 : ¬ mark < 0 := by omega
  have h3 : ¬ 1125899906842624 < mark := by omega
  clear he hat
  obtain ⟨v, hb, hrow, hfoot⟩ := h.at_
  have hs := h.small
  have hSg := h.foot
  have hgl := hb.lt
  have htyp := hrow.typed
  obtain ⟨A, cap, rfl, hnc, hcm, hA, _⟩ := hrow.cells (by rw [vcs_length]; omega)
  have h0 : w.cell? ⟨g, 0, none⟩ = some (.slice A vs.length cap) := hb.cell 0 _ rfl
  have h1 : w.cell? ⟨g, 1, none⟩ = some (.int .i64 m) := hb.cell 1 _ rfl
  have f1 : w.frozen? ⟨g, 1, none⟩ = false := hb.free 1 none
  have hne : some g ≠ (Value.slice A vs.length cap).ownBlock := fun e => (Typed.ne hb.typed (htyp g e.symm) (by decide)) rfl
  have hb1 := hb.set 1 (.int .i64 M)
  have hr1 := hrow.kept (set_grown w ⟨g, 1, none⟩ (.int .i64 M)) (.inr (by simpa using Ne.symm hne))
  have U1 := (Upd.refl S w).set ⟨g, 1, none⟩ (.int .i64 M) (fun _ => hSg)
  have hC5 : ∀ w2, Below (w.setCell ⟨g, 1, none⟩ (.int .i64 M)).heap.size (w.setCell ⟨g, 1, none⟩ (.int .i64 M)) w2 → Blk w2 g 91 #[.slice A vs.length cap, .int .i64 M] ∧ Row w2 0 34 2 (.slice A vs.length cap) vs.length (vcs vs) ∧ Upd S w w2 := fun w2 b2 =>
    ⟨by simpa using hb1.below b2, hr1.below b2, U1.trans (upd_of S b2) (fun _ _ e => e)⟩
  have HC5 := Lib.hid hC5
  have HCH : IsChain (w.setCell ⟨g, 1, none⟩ (.int .i64 M)) S g vs M := ⟨⟨_, by simpa using hb1, hr1, hfoot⟩, hSg, hs⟩
  have HP := Lib.hid (place_calls g S vs M M _ HCH hr)
  have hfin : ∀ (w3 : World) (v : Value) (l : List (Int × Int)), Blk w3 g 91 #[.slice A vs.length cap, .int .i64 M] → Row w3 0 34 2 v l.length (vcs l) → (∀ k, v.ownBlock = some k → w.heap.size ≤ k) → l.length ≤ 10000 → Upd S w w3 →
      w3.cell? ⟨g, 0, none⟩ = some (.slice A vs.length cap) ∧ w3.frozen? ⟨g, 0, none⟩ = false ∧ IsChain (w3.setCell ⟨g, 0, none⟩ v) (fun i => S i ∨ w.heap.size ≤ i) g l M ∧ Upd S w (w3.setCell ⟨g, 0, none⟩ v) := by
    intro w3 v l hb3 hr3 ho hl hu
    refine ⟨hb3.cell 0 _ rfl, hb3.free 0 none, ⟨⟨v, by simpa using hb3.set 0 v, hr3.kept (set_grown w3 ⟨g, 0, none⟩ v) (.inr ?_), fun k hk => .inr (ho k hk)⟩, .inl hSg, hl⟩, hu.set _ _ (fun _ => hSg)⟩
    intro e
    have := ho g e
    omega
  have HFIN := Lib.hid hfin
  have hcl := cnt_le vs M
  have hsl := vcs_drop vs
  have hol := vcs_one
  clear hC5 hb1 hr1 hb hrow hfoot hfin h htyp hne U1 HCH hA
  obtain ⟨i, hi⟩ : ∃ i, i = cnt vs M - 1 := ⟨_, rfl⟩
  rw [← hi]
  by_cases hmm : m < mark
  · obtain rfl : M = mark := by omega
    by_cases hcc : cnt vs M = 0
    · have hi0 : i = 0 := by omega
      have HI := Lib.hid hi0
      have HCV := Lib.hid (show cnt vs M = 0 by omega)
      have hin : 0 ≤ vs.length := by omega
      clear hi hi0 hcc hM hcl 
      go_enter Try.func24, Try.ntmps24
      go_wp2_with fail
      refine HP.out.mono ?_
      rintro e w2 ⟨rfl, b2⟩
      rw [HCV.out]
      obtain ⟨k1, k2, k3⟩ := HC5.out w2 b2
      have e0 : w2.cell? ⟨g, 0, none⟩ = some (.slice A vs.length cap) := k1.cell 0 _ rfl
      obtain ⟨q, hq⟩ : ∃ q, vs.length = 0 + q := ⟨vs.length - 0, by omega⟩
      have hdl : (vs.drop i).length = q := by rw [List.length_drop, HI.out]; omega
      have hc1 := k2.cells (by rw [vcs_length]; omega)
      obtain ⟨A9, c9, e9, _, _, hA9, _⟩ := hc1
      simp only [Value.slice.injEq, true_and] at e9
      obtain ⟨rfl, rfl⟩ := e9
      obtain ⟨c, hc⟩ : ∃ c, cap = 0 + c := ⟨cap - 0, by omega⟩
      obtain ⟨cs, hcs⟩ : ∃ cs, cs = vcs (vs.drop i) := ⟨_, rfl⟩
      have hcsl : cs.length = q * 2 := by rw [hcs, vcs_length, hdl]
      have hcs1 : ∀ u ∈ cs, u.oneCell' = true := by rw [hcs]; exact vcs_one _
      have hcs2 : ((vcs vs).drop (0 * 2)).take (q * 2) = cs := by
        rw [vcs_drop, hcs, HI.out, List.take_of_length_le (by rw [vcs_length, List.length_drop]; omega)]
      have HCSL := Lib.hid hcsl
      have HCS1 := Lib.hid hcs1
      have HCS2 := Lib.hid hcs2
      have HCS := Lib.hid hcs
      have HDL := Lib.hid hdl
      have HQ := Lib.hid hq
      have HCC := Lib.hid hc
      clear hcsl hcs1 hcs2 hcs hdl hq hc
      go_wp2_with (with_reducible refine halt_dst 37 ?_)
      refine wpList_maken rfl (.tmp 36) (.tmp 36) 25 rfl w2.heap.size 34 (.agg #[.int .i64 0, .int .i64 0]) 2 16 Try.underlying25 Try.info34 .i64 .i64 _ _ q rfl rfl (by have := HQ.out; omega) (by have := HQ.out; omega) (by have := HQ.out; omega) (by have := HQ.out; simp only [maxLen]; omega) (Nat.le_refl _) ?_
      intro w3 r3 b3 hw3
      have k4 := k1.below b3
      have e1 : w3.cell? ⟨g, 0, none⟩ = some (.slice A vs.length cap) := k4.cell 0 _ rfl
      have hA3 := hA9.below b3
      have k5 := k3.trans (upd_of S b3) (fun _ _ e => e)
      obtain ⟨xs, hxs⟩ : ∃ xs, xs = (madeCells (Value.agg #[.int .i64 0, .int .i64 0]).cells (q * 2)).toList := ⟨_, rfl⟩
      rw [← hxs] at r3
      clear hxs hA9 e0 k1 k2 k3
      go_wp2_with (with_reducible refine halt_dst 44 ?_)
      refine wpList_cut_l rfl (.tmp 42) 25 34 _ 2 16 Try.underlying25 Try.info34 A vs.length cap rfl (.tmp 43) rfl .i64 (0) q c _ rfl (by first | rfl | omega) HQ.out HCC.out ?_
      intro A4 hA4
      have hA5 : Cells w3 A4 cs := by
        have := hA3.sub (0 * 2) (q * 2) (by have := HQ.out; rw [vcs_length]; omega) A4 (fun h0 ad e => hA4.2.1 (by have := HQ.out; have := HCC.out; omega) ad e)
        rwa [HCS2.out] at this
      clear hA4 hA3
      go_wp2_with (with_reducible refine halt_dst 45 ?_)
      refine wpList_copy rfl (.tmp 38) (.tmp 44) 25 25 rfl 34 (.agg #[.int .i64 0, .int .i64 0]) 2 16 Try.underlying25 Try.info34 (by decide) w2.heap.size q A4 q c w2.heap.size cs xs rfl rfl r3 HCSL.out hA5 HCS1.out ?_
      intro w4 r4 g4
      have k6 := k4.kept g4 (by simp only [ne_eq, Option.some.injEq]; have := k4.lt; have h5 := hgl; have := k5.size; have := b3.size; have h6 := HC5.out w2 b2; have := h6.1.lt; omega)
      have k7 := k5.trans (Upd.of_grown (S := fun i => w2.heap.size ≤ i) g4 (fun i e _ => by cases e; exact Nat.le_refl _)) (fun i hi e => absurd e (by have := (HC5.out w2 b2).2.2.size; omega))
      obtain ⟨n1, n2, n3, n4⟩ := HFIN.out w4 (.slice (some ⟨w2.heap.size, 0, none⟩) q q) (vs.drop i) k6 (by rw [HDL.out, ← HCS.out]; exact r4.mono (Nat.zero_le _)) (fun k hk => by cases hk; exact (HC5.out w2 b2).2.2.size) (by have := HQ.out; rw [HDL.out]; omega) k7
      have N3 := Lib.hid n3
      have N4 := Lib.hid n4
      clear n3 n4 k4 e1 k5 k6 k7 r3 r4 g4 hA5 hw3
      go_wp2_with (with_reducible refine halt_dst 52 ?_)
      refine wpList_cut_head rfl (.tmp 47) 25 34 _ 2 16 Try.underlying25 Try.info34 (some ⟨w2.heap.size, 0, none⟩) q q rfl (.tmp 49) (.tmp 51) rfl .i64 .i64 q q _ _ rfl rfl rfl rfl (Nat.le_refl _) (Nat.le_refl _) ?_
      go_wp2
      go_ret
      exact ⟨rfl, N3.out, N4.out⟩
    · obtain ⟨k, hk⟩ : ∃ k, cnt vs M = k + 1 := ⟨cnt vs M - 1, by omega⟩
      have hi0 : i = k := by omega
      have HI := Lib.hid hi0
      have HCV := Lib.hid (show cnt vs M = k + 1 by omega)
      have hin : k ≤ vs.length := by omega
      clear hi hi0 hcc hM hcl hk
      go_enter Try.func24, Try.ntmps24
      go_wp2_with fail
      refine HP.out.mono ?_
      rintro e w2 ⟨rfl, b2⟩
      rw [HCV.out]
      obtain ⟨k1, k2, k3⟩ := HC5.out w2 b2
      have e0 : w2.cell? ⟨g, 0, none⟩ = some (.slice A vs.length cap) := k1.cell 0 _ rfl
      obtain ⟨q, hq⟩ : ∃ q, vs.length = k + q := ⟨vs.length - k, by omega⟩
      have hdl : (vs.drop i).length = q := by rw [List.length_drop, HI.out]; omega
      have hc1 := k2.cells (by rw [vcs_length]; omega)
      obtain ⟨A9, c9, e9, _, _, hA9, _⟩ := hc1
      simp only [Value.slice.injEq, true_and] at e9
      obtain ⟨rfl, rfl⟩ := e9
      obtain ⟨c, hc⟩ : ∃ c, cap = k + c := ⟨cap - k, by omega⟩
      obtain ⟨cs, hcs⟩ : ∃ cs, cs = vcs (vs.drop i) := ⟨_, rfl⟩
      have hcsl : cs.length = q * 2 := by rw [hcs, vcs_length, hdl]
      have hcs1 : ∀ u ∈ cs, u.oneCell' = true := by rw [hcs]; exact vcs_one _
      have hcs2 : ((vcs vs).drop (k * 2)).take (q * 2) = cs := by
        rw [vcs_drop, hcs, HI.out, List.take_of_length_le (by rw [vcs_length, List.length_drop]; omega)]
      have HCSL := Lib.hid hcsl
      have HCS1 := Lib.hid hcs1
      have HCS2 := Lib.hid hcs2
      have HCS := Lib.hid hcs
      have HDL := Lib.hid hdl
      have HQ := Lib.hid hq
      have HCC := Lib.hid hc
      clear hcsl hcs1 hcs2 hcs hdl hq hc
      go_wp2_with (with_reducible refine halt_dst 37 ?_)
      refine wpList_maken rfl (.tmp 36) (.tmp 36) 25 rfl w2.heap.size 34 (.agg #[.int .i64 0, .int .i64 0]) 2 16 Try.underlying25 Try.info34 .i64 .i64 _ _ q rfl rfl (by have := HQ.out; omega) (by have := HQ.out; omega) (by have := HQ.out; omega) (by have := HQ.out; simp only [maxLen]; omega) (Nat.le_refl _) ?_
      intro w3 r3 b3 hw3
      have k4 := k1.below b3
      have e1 : w3.cell? ⟨g, 0, none⟩ = some (.slice A vs.length cap) := k4.cell 0 _ rfl
      have hA3 := hA9.below b3
      have k5 := k3.trans (upd_of S b3) (fun _ _ e => e)
      obtain ⟨xs, hxs⟩ : ∃ xs, xs = (madeCells (Value.agg #[.int .i64 0, .int .i64 0]).cells (q * 2)).toList := ⟨_, rfl⟩
      rw [← hxs] at r3
      clear hxs hA9 e0 k1 k2 k3
      go_wp2_with (with_reducible refine halt_dst 44 ?_)
      refine wpList_cut_l rfl (.tmp 42) 25 34 _ 2 16 Try.underlying25 Try.info34 A vs.length cap rfl (.tmp 43) rfl .i64 (k) q c _ rfl (by first | rfl | omega) HQ.out HCC.out ?_
      intro A4 hA4
      have hA5 : Cells w3 A4 cs := by
        have := hA3.sub (k * 2) (q * 2) (by have := HQ.out; rw [vcs_length]; omega) A4 (fun h0 ad e => hA4.2.1 (by have := HQ.out; have := HCC.out; omega) ad e)
        rwa [HCS2.out] at this
      clear hA4 hA3
      go_wp2_with (with_reducible refine halt_dst 45 ?_)
      refine wpList_copy rfl (.tmp 38) (.tmp 44) 25 25 rfl 34 (.agg #[.int .i64 0, .int .i64 0]) 2 16 Try.underlying25 Try.info34 (by decide) w2.heap.size q A4 q c w2.heap.size cs xs rfl rfl r3 HCSL.out hA5 HCS1.out ?_
      intro w4 r4 g4
      have k6 := k4.kept g4 (by simp only [ne_eq, Option.some.injEq]; have := k4.lt; have h5 := hgl; have := k5.size; have := b3.size; have h6 := HC5.out w2 b2; have := h6.1.lt; omega)
      have k7 := k5.trans (Upd.of_grown (S := fun i => w2.heap.size ≤ i) g4 (fun i e _ => by cases e; exact Nat.le_refl _)) (fun i hi e => absurd e (by have := (HC5.out w2 b2).2.2.size; omega))
      obtain ⟨n1, n2, n3, n4⟩ := HFIN.out w4 (.slice (some ⟨w2.heap.size, 0, none⟩) q q) (vs.drop i) k6 (by rw [HDL.out, ← HCS.out]; exact r4.mono (Nat.zero_le _)) (fun k hk => by cases hk; exact (HC5.out w2 b2).2.2.size) (by have := HQ.out; rw [HDL.out]; omega) k7
      have N3 := Lib.hid n3
      have N4 := Lib.hid n4
      clear n3 n4 k4 e1 k5 k6 k7 r3 r4 g4 hA5 hw3
      go_wp2_with (with_reducible refine halt_dst 52 ?_)
      refine wpList_cut_head rfl (.tmp 47) 25 34 _ 2 16 Try.underlying25 Try.info34 (some ⟨w2.heap.size, 0, none⟩) q q rfl (.tmp 49) (.tmp 51) rfl .i64 .i64 q q _ _ rfl rfl rfl rfl (Nat.le_refl _) (Nat.le_refl _) ?_
      go_wp2
      go_ret
      exact ⟨rfl, N3.out, N4.out⟩
  · obtain rfl : M = m := by omega
    by_cases hcc : cnt vs M = 0
    · have hi0 : i = 0 := by omega
      have HI := Lib.hid hi0
      have HCV := Lib.hid (show cnt vs M = 0 by omega)
      have hin : 0 ≤ vs.length := by omega
      clear hi hi0 hcc hM hcl 
      go_enter Try.func24, Try.ntmps24
      go_wp2_with fail
      refine HP.out.mono ?_
      rintro e w2 ⟨rfl, b2⟩
      rw [HCV.out]
      obtain ⟨k1, k2, k3⟩ := HC5.out w2 b2
      have e0 : w2.cell? ⟨g, 0, none⟩ = some (.slice A vs.length cap) := k1.cell 0 _ rfl
      obtain ⟨q, hq⟩ : ∃ q, vs.length = 0 + q := ⟨vs.length - 0, by omega⟩
      have hdl : (vs.drop i).length = q := by rw [List.length_drop, HI.out]; omega
      have hc1 := k2.cells (by rw [vcs_length]; omega)
      obtain ⟨A9, c9, e9, _, _, hA9, _⟩ := hc1
      simp only [Value.slice.injEq, true_and] at e9
      obtain ⟨rfl, rfl⟩ := e9
      obtain ⟨c, hc⟩ : ∃ c, cap = 0 + c := ⟨cap - 0, by omega⟩
      obtain ⟨cs, hcs⟩ : ∃ cs, cs = vcs (vs.drop i) := ⟨_, rfl⟩
      have hcsl : cs.length = q * 2 := by rw [hcs, vcs_length, hdl]
      have hcs1 : ∀ u ∈ cs, u.oneCell' = true := by rw [hcs]; exact vcs_one _
      have hcs2 : ((vcs vs).drop (0 * 2)).take (q * 2) = cs := by
        rw [vcs_drop, hcs, HI.out, List.take_of_length_le (by rw [vcs_length, List.length_drop]; omega)]
      have HCSL := Lib.hid hcsl
      have HCS1 := Lib.hid hcs1
      have HCS2 := Lib.hid hcs2
      have HCS := Lib.hid hcs
      have HDL := Lib.hid hdl
      have HQ := Lib.hid hq
      have HCC := Lib.hid hc
      clear hcsl hcs1 hcs2 hcs hdl hq hc
      go_wp2_with (with_reducible refine halt_dst 37 ?_)
      refine wpList_maken rfl (.tmp 36) (.tmp 36) 25 rfl w2.heap.size 34 (.agg #[.int .i64 0, .int .i64 0]) 2 16 Try.underlying25 Try.info34 .i64 .i64 _ _ q rfl rfl (by have := HQ.out; omega) (by have := HQ.out; omega) (by have := HQ.out; omega) (by have := HQ.out; simp only [maxLen]; omega) (Nat.le_refl _) ?_
      intro w3 r3 b3 hw3
      have k4 := k1.below b3
      have e1 : w3.cell? ⟨g, 0, none⟩ = some (.slice A vs.length cap) := k4.cell 0 _ rfl
      have hA3 := hA9.below b3
      have k5 := k3.trans (upd_of S b3) (fun _ _ e => e)
      obtain ⟨xs, hxs⟩ : ∃ xs, xs = (madeCells (Value.agg #[.int .i64 0, .int .i64 0]).cells (q * 2)).toList := ⟨_, rfl⟩
      rw [← hxs] at r3
      clear hxs hA9 e0 k1 k2 k3
      go_wp2_with (with_reducible refine halt_dst 44 ?_)
      refine wpList_cut_l rfl (.tmp 42) 25 34 _ 2 16 Try.underlying25 Try.info34 A vs.length cap rfl (.tmp 43) rfl .i64 (0) q c _ rfl (by first | rfl | omega) HQ.out HCC.out ?_
      intro A4 hA4
      have hA5 : Cells w3 A4 cs := by
        have := hA3.sub (0 * 2) (q * 2) (by have := HQ.out; rw [vcs_length]; omega) A4 (fun h0 ad e => hA4.2.1 (by have := HQ.out; have := HCC.out; omega) ad e)
        rwa [HCS2.out] at this
      clear hA4 hA3
      go_wp2_with (with_reducible refine halt_dst 45 ?_)
      refine wpList_copy rfl (.tmp 38) (.tmp 44) 25 25 rfl 34 (.agg #[.int .i64 0, .int .i64 0]) 2 16 Try.underlying25 Try.info34 (by decide) w2.heap.size q A4 q c w2.heap.size cs xs rfl rfl r3 HCSL.out hA5 HCS1.out ?_
      intro w4 r4 g4
      have k6 := k4.kept g4 (by simp only [ne_eq, Option.some.injEq]; have := k4.lt; have h5 := hgl; have := k5.size; have := b3.size; have h6 := HC5.out w2 b2; have := h6.1.lt; omega)
      have k7 := k5.trans (Upd.of_grown (S := fun i => w2.heap.size ≤ i) g4 (fun i e _ => by cases e; exact Nat.le_refl _)) (fun i hi e => absurd e (by have := (HC5.out w2 b2).2.2.size; omega))
      obtain ⟨n1, n2, n3, n4⟩ := HFIN.out w4 (.slice (some ⟨w2.heap.size, 0, none⟩) q q) (vs.drop i) k6 (by rw [HDL.out, ← HCS.out]; exact r4.mono (Nat.zero_le _)) (fun k hk => by cases hk; exact (HC5.out w2 b2).2.2.size) (by have := HQ.out; rw [HDL.out]; omega) k7
      have N3 := Lib.hid n3
      have N4 := Lib.hid n4
      clear n3 n4 k4 e1 k5 k6 k7 r3 r4 g4 hA5 hw3
      go_wp2_with (with_reducible refine halt_dst 52 ?_)
      refine wpList_cut_head rfl (.tmp 47) 25 34 _ 2 16 Try.underlying25 Try.info34 (some ⟨w2.heap.size, 0, none⟩) q q rfl (.tmp 49) (.tmp 51) rfl .i64 .i64 q q _ _ rfl rfl rfl rfl (Nat.le_refl _) (Nat.le_refl _) ?_
      go_wp2
      go_ret
      exact ⟨rfl, N3.out, N4.out⟩
    · obtain ⟨k, hk⟩ : ∃ k, cnt vs M = k + 1 := ⟨cnt vs M - 1, by omega⟩
      have hi0 : i = k := by omega
      have HI := Lib.hid hi0
      have HCV := Lib.hid (show cnt vs M = k + 1 by omega)
      have hin : k ≤ vs.length := by omega
      clear hi hi0 hcc hM hcl hk
      go_enter Try.func24, Try.ntmps24
      go_wp2_with fail
      refine HP.out.mono ?_
      rintro e w2 ⟨rfl, b2⟩
      rw [HCV.out]
      obtain ⟨k1, k2, k3⟩ := HC5.out w2 b2
      have e0 : w2.cell? ⟨g, 0, none⟩ = some (.slice A vs.length cap) := k1.cell 0 _ rfl
      obtain ⟨q, hq⟩ : ∃ q, vs.length = k + q := ⟨vs.length - k, by omega⟩
      have hdl : (vs.drop i).length = q := by rw [List.length_drop, HI.out]; omega
      have hc1 := k2.cells (by rw [vcs_length]; omega)
      obtain ⟨A9, c9, e9, _, _, hA9, _⟩ := hc1
      simp only [Value.slice.injEq, true_and] at e9
      obtain ⟨rfl, rfl⟩ := e9
      obtain ⟨c, hc⟩ : ∃ c, cap = k + c := ⟨cap - k, by omega⟩
      obtain ⟨cs, hcs⟩ : ∃ cs, cs = vcs (vs.drop i) := ⟨_, rfl⟩
      have hcsl : cs.length = q * 2 := by rw [hcs, vcs_length, hdl]
      have hcs1 : ∀ u ∈ cs, u.oneCell' = true := by rw [hcs]; exact vcs_one _
      have hcs2 : ((vcs vs).drop (k * 2)).take (q * 2) = cs := by
        rw [vcs_drop, hcs, HI.out, List.take_of_length_le (by rw [vcs_length, List.length_drop]; omega)]
      have HCSL := Lib.hid hcsl
      have HCS1 := Lib.hid hcs1
      have HCS2 := Lib.hid hcs2
      have HCS := Lib.hid hcs
      have HDL := Lib.hid hdl
      have HQ := Lib.hid hq
      have HCC := Lib.hid hc
      clear hcsl hcs1 hcs2 hcs hdl hq hc
      go_wp2_with (with_reducible refine halt_dst 37 ?_)
      refine wpList_maken rfl (.tmp 36) (.tmp 36) 25 rfl w2.heap.size 34 (.agg #[.int .i64 0, .int .i64 0]) 2 16 Try.underlying25 Try.info34 .i64 .i64 _ _ q rfl rfl (by have := HQ.out; omega) (by have := HQ.out; omega) (by have := HQ.out; omega) (by have := HQ.out; simp only [maxLen]; omega) (Nat.le_refl _) ?_
      intro w3 r3 b3 hw3
      have k4 := k1.below b3
      have e1 : w3.cell? ⟨g, 0, none⟩ = some (.slice A vs.length cap) := k4.cell 0 _ rfl
      have hA3 := hA9.below b3
      have k5 := k3.trans (upd_of S b3) (fun _ _ e => e)
      obtain ⟨xs, hxs⟩ : ∃ xs, xs = (madeCells (Value.agg #[.int .i64 0, .int .i64 0]).cells (q * 2)).toList := ⟨_, rfl⟩
      rw [← hxs] at r3
      clear hxs hA9 e0 k1 k2 k3
      go_wp2_with (with_reducible refine halt_dst 44 ?_)
      refine wpList_cut_l rfl (.tmp 42) 25 34 _ 2 16 Try.underlying25 Try.info34 A vs.length cap rfl (.tmp 43) rfl .i64 (k) q c _ rfl (by first | rfl | omega) HQ.out HCC.out ?_
      intro A4 hA4
      have hA5 : Cells w3 A4 cs := by
        have := hA3.sub (k * 2) (q * 2) (by have := HQ.out; rw [vcs_length]; omega) A4 (fun h0 ad e => hA4.2.1 (by have := HQ.out; have := HCC.out; omega) ad e)
        rwa [HCS2.out] at this
      clear hA4 hA3
      go_wp2_with (with_reducible refine halt_dst 45 ?_)
      refine wpList_copy rfl (.tmp 38) (.tmp 44) 25 25 rfl 34 (.agg #[.int .i64 0, .int .i64 0]) 2 16 Try.underlying25 Try.info34 (by decide) w2.heap.size q A4 q c w2.heap.size cs xs rfl rfl r3 HCSL.out hA5 HCS1.out ?_
      intro w4 r4 g4
      have k6 := k4.kept g4 (by simp only [ne_eq, Option.some.injEq]; have := k4.lt; have h5 := hgl; have := k5.size; have := b3.size; have h6 := HC5.out w2 b2; have := h6.1.lt; omega)
      have k7 := k5.trans (Upd.of_grown (S := fun i => w2.heap.size ≤ i) g4 (fun i e _ => by cases e; exact Nat.le_refl _)) (fun i hi e => absurd e (by have := (HC5.out w2 b2).2.2.size; omega))
      obtain ⟨n1, n2, n3, n4⟩ := HFIN.out w4 (.slice (some ⟨w2.heap.size, 0, none⟩) q q) (vs.drop i) k6 (by rw [HDL.out, ← HCS.out]; exact r4.mono (Nat.zero_le _)) (fun k hk => by cases hk; exact (HC5.out w2 b2).2.2.size) (by have := HQ.out; rw [HDL.out]; omega) k7
      have N3 := Lib.hid n3
      have N4 := Lib.hid n4
      clear n3 n4 k4 e1 k5 k6 k7 r3 r4 g4 hA5 hw3
      go_wp2_with (with_reducible refine halt_dst 52 ?_)
      refine wpList_cut_head rfl (.tmp 47) 25 34 _ 2 16 Try.underlying25 Try.info34 (some ⟨w2.heap.size, 0, none⟩) q q rfl (.tmp 49) (.tmp 51) rfl .i64 .i64 q q _ _ rfl rfl rfl rfl (Nat.le_refl _) (Nat.le_refl _) ?_
      go_wp2
      go_ret
      exact ⟨rfl, N3.out, N4.out⟩

theorem prune_calls (g : Nat) (S : Nat → Prop) (vs : List (Int × Int)) (m mark : Int) (w : World) (h : IsChain w S g vs m) (hr : Rises vs) :
    Calls Try.prog 24 #[.pointer (some ⟨g, 0, none⟩), .int .i64 mark] w fun e w' => e = .returned (.int .i64 (pruneErr mark)) ∧ IsChain w' (fun i => S i ∨ w.heap.size ≤ i) g (pruneVer vs m mark) (pruneMark m mark) ∧ Upd S w w' := by
  unfold pruneVer pruneMark
  by_cases he : pruneErr mark = 0
  · rw [if_pos he, if_pos he, he]; exact prune_ok g S vs m mark _ w h hr rfl he
  · rw [if_neg he, if_neg he]
    refine (prune_err g _ mark w he).mono ?_
    rintro e w' ⟨rfl, rfl⟩
    exact ⟨rfl, h.mono (fun i hi => .inl hi), Upd.refl S w⟩
end Go.Proofs.Ytpacbbnnmopkjaa
