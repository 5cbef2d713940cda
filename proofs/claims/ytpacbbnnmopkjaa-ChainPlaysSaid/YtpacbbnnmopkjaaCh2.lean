/- The walks of sort.Search at chain's closure, and of place. -/
import Derived.Test.YtpacbbnnmopkjaaCh1
set_option linter.unusedVariables false
set_option linter.unusedSimpArgs false
namespace Go.Proofs.Ytpacbbnnmopkjaa
open Go.RowKit

/-- How many versions' stamps aren't above a time. -/
def cnt (vs : List (Int × Int)) (at_ : Int) : Nat := vs.countP (fun v => decide (v.1 ≤ at_))
theorem cnt_le (vs : List (Int × Int)) (at_ : Int) : cnt vs at_ ≤ vs.length := List.countP_le_length
theorem cnt_split (vs : List (Int × Int)) (at_ : Int) (r : Nat) (hr : r ≤ vs.length) (h1 : ∀ k (hk : k < vs.length), k < r → (vs[k]).1 ≤ at_) (h2 : ∀ k (hk : k < vs.length), r ≤ k → at_ < (vs[k]).1) : cnt vs at_ = r := by
  have e : cnt vs at_ = cnt (vs.take r) at_ + cnt (vs.drop r) at_ := by
    unfold cnt; rw [← List.countP_append, List.take_append_drop]
  have e1 : cnt (vs.take r) at_ = (vs.take r).length := by
    unfold cnt; rw [List.countP_eq_length]
    intro v hv
    obtain ⟨k, hk, rfl⟩ := List.getElem_of_mem hv
    simp only [List.length_take] at hk
    simp only [List.getElem_take, decide_eq_true_eq]
    exact h1 k (by omega) (by omega)
  have e2 : cnt (vs.drop r) at_ = 0 := by
    unfold cnt; rw [List.countP_eq_zero]
    intro v hv
    obtain ⟨k, hk, rfl⟩ := List.getElem_of_mem hv
    simp only [List.length_drop] at hk
    simp only [List.getElem_drop, decide_eq_true_eq]
    have := h2 (r + k) (by omega) (by omega)
    omega
  rw [e, e1, e2, List.length_take]; omega

set_option maxHeartbeats 1000000 in
theorem above_calls (g p q n : Nat) (A cap : Nat) (at_ x : Int) (i : Nat) (w : World) (hi : i < n) (hn : n ≤ 10000)
    (hp : w.cell? ⟨p, 0, none⟩ = some (.pointer (some ⟨g, 0, none⟩))) (hq : w.cell? ⟨q, 0, none⟩ = some (.int .i64 at_))
    (hg : w.cell? ⟨g, 0, none⟩ = some (.slice (some ⟨A, 0, none⟩) n cap)) (hx : w.cell? ⟨A, i * 2, none⟩ = some (.int .i64 x)) :
    Calls Try.prog 58 #[.int .i64 i, .pointer (some ⟨p, 0, none⟩), .pointer (some ⟨q, 0, none⟩)] w fun e w' => e = .returned (.bool (decide (at_ < x))) ∧ ∃ m, w' = w.drewN m := by
  go_enter Try.func58, Try.ntmps58
  go_wp2
  go_quiet (fail)
  go_wp2
  go_ret
  exact ⟨rfl, _, rfl⟩

set_option maxHeartbeats 1000000 in
theorem search_calls (p q n : Nat) (ts : List Int) (at_ : Int) (w : World) (hnl : n = ts.length) (hn : ts.length ≤ 10000)
    (hf : ∀ i (hi : i < ts.length) m, Calls Try.prog 58 #[.int .i64 i, .pointer (some ⟨p, 0, none⟩), .pointer (some ⟨q, 0, none⟩)] (w.drewN m) fun e w' => e = .returned (.bool (decide (at_ < ts[i]))) ∧ ∃ k, w' = (w.drewN m).drewN k)
    (hs : ∀ i j (hi : i < j) (hj : j < ts.length), ts[i] < ts[j]) :
    Calls Try.prog 57 #[.int .i64 n, .func (.func 58) #[] #[.pointer (some ⟨p, 0, none⟩), .pointer (some ⟨q, 0, none⟩)]] w fun e w' =>
      ∃ r : Nat, e = .returned (.int .i64 r) ∧ r ≤ ts.length ∧ (∀ k (hk : k < ts.length), k < r → ts[k] ≤ at_) ∧ (∀ k (hk : k < ts.length), r ≤ k → at_ < ts[k]) ∧ ∃ m, w' = w.drewN m := by
  subst hnl
  have HF := Lib.hid hf
  have HS := Lib.hid hs
  clear hf hs
  go_enter Try.func57, Try.ntmps57
  go_wp2
  go_loopw [5, 6] (fun i j wr => ∃ a b : Nat, a ≤ b ∧ b ≤ ts.length ∧ i = .int .i64 a ∧ j = .int .i64 b ∧ (∀ k (hk : k < ts.length), k < a → ts[k] ≤ at_) ∧ (∀ k (hk : k < ts.length), b ≤ k → at_ < ts[k]) ∧ ∃ m, wr = w.drewN m) (fun i j _ => (intOf j).toNat - (intOf i).toNat)
  case atStart => exact ⟨0, ts.length, Nat.zero_le _, Nat.le_refl _, rfl, rfl, fun k hk h => by omega, fun k hk h => by omega, 0, rfl⟩
  case round =>
    obtain ⟨a, b, hab, hb, rfl, rfl, h1, h2, m, rfl⟩ := hrel
    have H1 := Lib.hid h1
    have H2 := Lib.hid h2
    clear h1 h2
    by_cases hlt : a < b
    · go_wp2_with fail
      obtain ⟨c, hc⟩ : ∃ c, c = (a + b) / 2 := ⟨_, rfl⟩
      have hcc : ((a : Int) + (b : Int)) / 2 = (c : Int) := by omega
      rw [hcc]
      have hct : c < ts.length := by omega
      refine (HF.out c hct m).mono ?_
      rintro e w1 ⟨rfl, k, rfl⟩
      obtain ⟨x, hx⟩ : ∃ x, x = ts[c] := ⟨_, rfl⟩
      rw [← hx]
      have HX := Lib.hid hx
      have HC := Lib.hid hcc
      clear hx hcc
      by_cases hlt2 : at_ < x
      · have hd : decide (at_ < x) = true := by simpa using hlt2
        rw [hd]
        go_wp2
        go_roundw
        case rel => exact ⟨a, c, by omega, by omega, rfl, by rw [HC.out], H1.out, fun j hj h => by
          rcases Nat.lt_or_ge c j with h3 | h3
          · have := HS.out c j h3 hj; rw [HX.out] at hlt2; omega
          · obtain rfl : j = c := by omega
            rw [HX.out] at hlt2; exact hlt2, _, rfl⟩
        case measure => simp [intOf]; omega
      · have hd : decide (at_ < x) = false := by simpa using hlt2
        rw [hd]
        go_wp2
        go_roundw
        case rel => exact ⟨c + 1, b, by omega, by omega, by rw [HC.out]; go_num, rfl, fun j hj h => by
          rcases Nat.lt_or_ge j c with h3 | h3
          · have := HS.out j c h3 hct; rw [HX.out] at hlt2; omega
          · obtain rfl : j = c := by omega
            rw [HX.out] at hlt2; omega, H2.out, _, rfl⟩
        case measure => simp [intOf]; omega
    · go_wp2
      go_ret
      exact ⟨a, rfl, by omega, H1.out, fun k hk h => H2.out k hk (by omega), _, rfl⟩

/-- Versions rise. -/
def Rises (vs : List (Int × Int)) : Prop := vs.Pairwise (fun a b => a.1 < b.1)
theorem Rises.lt {vs : List (Int × Int)} (h : Rises vs) (i j : Nat) (hi : i < j) (hj : j < vs.length) : (vs[i]).1 < (vs[j]).1 := List.pairwise_iff_getElem.1 h i j (by omega) hj hi

set_option maxHeartbeats 1000000 in
theorem place_calls (g : Nat) (S : Nat → Prop) (vs : List (Int × Int)) (m at_ : Int) (w : World) (h : IsChain w S g vs m) (hr : Rises vs) :
    Calls Try.prog 48 #[.pointer (some ⟨g, 0, none⟩), .int .i64 at_] w fun e w' => e = .returned (.int .i64 (cnt vs at_)) ∧ Below w.heap.size w w' := by
  obtain ⟨v, hb, hrow, _⟩ := h.at_
  have hs := h.small
  have b1 : Below w.heap.size w ((w.alloc (.cells #[.pointer (some ⟨g, 0, none⟩)] 23)).alloc (.cells #[.int .i64 at_] 2)) := ((Below.refl _ _).alloc (Nat.le_refl _) _).alloc (by simp) _
  obtain ⟨A, cap, rfl, hnc, hcm, hA, _⟩ := hrow.cells (by rw [vcs_length]; omega)
  have hb2 := hb.below b1
  have hrow2 := hrow.below b1
  have h1 : ((w.alloc (.cells #[.pointer (some ⟨g, 0, none⟩)] 23)).alloc (.cells #[.int .i64 at_] 2)).cell? ⟨g, 0, none⟩ = some (.slice A vs.length cap) := hb2.cell 0 _ rfl
  have hP : ((w.alloc (.cells #[.pointer (some ⟨g, 0, none⟩)] 23)).alloc (.cells #[.int .i64 at_] 2)).cell? ⟨w.heap.size, 0, none⟩ = some (.pointer (some ⟨g, 0, none⟩)) :=
    ((Blk.new w 23 #[.pointer (some ⟨g, 0, none⟩)]).below ((Below.refl _ _).alloc (Nat.le_refl _) _)).cell 0 _ rfl
  have hQ : ((w.alloc (.cells #[.pointer (some ⟨g, 0, none⟩)] 23)).alloc (.cells #[.int .i64 at_] 2)).cell? ⟨w.heap.size + 1, 0, none⟩ = some (.int .i64 at_) := by simp
  have HK := Lib.hid (search_calls w.heap.size (w.heap.size + 1) vs.length (vs.map (·.1)) at_ ((w.alloc (.cells #[.pointer (some ⟨g, 0, none⟩)] 23)).alloc (.cells #[.int .i64 at_] 2)) (by simp) (by simpa using hs)
    (fun i hi j => by
      have hi2 : i < vs.length := by simpa using hi
      obtain ⟨A', cap', e, _, _, _, hcell⟩ := hrow2.ver (by omega)
      simp only [Value.slice.injEq, true_and] at e
      obtain ⟨rfl, rfl⟩ := e
      simp only [List.getElem_map]
      exact above_calls g _ _ vs.length A' cap at_ (vs[i]).1 i _ hi2 hs hP hQ h1 (hcell i hi2).1)
    (fun i j hi hj => by simp only [List.getElem_map]; exact hr.lt i j hi (by simpa using hj)))
  clear hrow2 hP hQ hb2 hA hrow hb h
  go_enter Try.func48, Try.ntmps48
  go_wp2_with fail
  refine HK.out.mono ?_
  rintro e w3 ⟨r, rfl, hrl, hr1, hr2, k, rfl⟩
  have hc : cnt vs at_ = r := cnt_split vs at_ r (by simpa using hrl) (fun k hk h => by have := hr1 k (by simpa using hk) h; simpa using this) (fun k hk h => by have := hr2 k (by simpa using hk) h; simpa using this)
  have HC := Lib.hid hc
  clear hr1 hr2 HK hc hrl
  go_wp2
  go_ret
  rw [HC.out]
  exact ⟨rfl, below_drewN b1 _⟩
end Go.Proofs.Ytpacbbnnmopkjaa
