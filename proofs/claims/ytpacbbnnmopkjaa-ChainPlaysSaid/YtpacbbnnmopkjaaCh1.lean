/- The walks of package chain's small functions: New, Mark, Last, List. -/
import Derived.Test.YtpacbbnnmopkjaaProg
import Derived.Test.YtpacbbnnmopkjaaSto
import Derived.WalkKit
import Derived.Outline
import Derived.WalkLawsBesides
import Derived.WalkSpells
import Derived.Deep.QuietTactic
import Derived.BigQuiet
import Derived.KernelRfl
import Derived.Lib.Hide
set_option linter.unusedVariables false
set_option linter.unusedSimpArgs false
namespace Go.Proofs.Ytpacbbnnmopkjaa
open Go.RowKit

theorem Try.info34 : (Try.prog.info? 34).map (fun i => (i.zero, i.size, i.bytes)) = some (some (.agg #[.int .i64 0, .int .i64 0]), 2, 16) := by kernel_rfl
/-- A version, as cells; a list of them. -/
def ver (v : Int × Int) : List Value := [.int .i64 v.1, .int .i64 v.2]
def vcs (vs : List (Int × Int)) : List Value := vs.flatMap ver
theorem vcs_nil : vcs [] = [] := rfl
theorem vcs_cons (v : Int × Int) (vs : List (Int × Int)) : vcs (v :: vs) = .int .i64 v.1 :: .int .i64 v.2 :: vcs vs := rfl
theorem vcs_append (l m : List (Int × Int)) : vcs (l ++ m) = vcs l ++ vcs m := by simp [vcs]
theorem vcs_length (vs : List (Int × Int)) : (vcs vs).length = vs.length * 2 := by
  induction vs with
  | nil => rfl
  | cons v vs ih => rw [vcs_cons]; simp [ih]; omega
theorem vcs_one (vs : List (Int × Int)) : ∀ u ∈ vcs vs, u.oneCell' = true := by
  intro u hu
  simp only [vcs, List.mem_flatMap, ver] at hu
  obtain ⟨v, _, h⟩ := hu
  simp at h
  rcases h with rfl | rfl <;> rfl
theorem vcs_get (vs : List (Int × Int)) (i : Nat) (h : i < vs.length) : (vcs vs)[i * 2]? = some (.int .i64 (vs[i]).1) ∧ (vcs vs)[i * 2 + 1]? = some (.int .i64 (vs[i]).2) := by
  induction vs generalizing i with
  | nil => simp at h
  | cons v vs ih =>
    rw [vcs_cons]
    cases i with
    | zero => exact ⟨rfl, rfl⟩
    | succ i =>
      have := ih i (by simpa using h)
      rw [show (i + 1) * 2 = i * 2 + 2 by omega]
      simpa using this
theorem vcs_drop (vs : List (Int × Int)) (i : Nat) : (vcs vs).drop (i * 2) = vcs (vs.drop i) := by
  induction vs generalizing i with
  | nil => simp [vcs]
  | cons v vs ih =>
    cases i with
    | zero => simp
    | succ i =>
      rw [vcs_cons, show (i + 1) * 2 = i * 2 + 2 by omega]
      simpa using ih i
theorem vcs_take (vs : List (Int × Int)) (i : Nat) : (vcs vs).take (i * 2) = vcs (vs.take i) := by
  induction vs generalizing i with
  | nil => simp [vcs]
  | cons v vs ih =>
    cases i with
    | zero => simp [vcs]
    | succ i =>
      rw [vcs_cons, show (i + 1) * 2 = i * 2 + 2 by omega]
      simpa [vcs_cons] using ih i

theorem Row.ver {w : World} {base : Nat} {v : Value} {n : Nat} {vs : List (Int × Int)} (h : Row w base 34 2 v n (vcs vs)) (hn : 0 < n) :
    ∃ A cap, v = .slice (some ⟨A, 0, none⟩) n cap ∧ n ≤ cap ∧ cap ≤ maxLen ∧ A < w.heap.size ∧ ∀ k (hk : k < vs.length), w.cell? ⟨A, k * 2, none⟩ = some (.int .i64 (vs[k]).1) ∧ w.cell? ⟨A, k * 2 + 1, none⟩ = some (.int .i64 (vs[k]).2) := by
  obtain ⟨A, cap, cur, rfl, _, hB, h1, h2, hcs, ht⟩ := h.blk hn
  refine ⟨A, cap, rfl, h1, h2, hB.lt, fun k hk => ?_⟩
  have hget := vcs_get vs k hk
  rw [← ht] at hget
  constructor
  · have := hget.1
    rw [List.getElem?_take] at this
    split at this
    · exact hB.cell _ _ (by simpa using this)
    · cases this
  · have := hget.2
    rw [List.getElem?_take] at this
    split at this
    · exact hB.cell _ _ (by simpa using this)
    · cases this
theorem below_drewN {B : Nat} {a w : World} (h : Below B a w) (n : Nat) : Below B a (w.drewN n) := ⟨h.os, h.tape, h.output, h.size, h.block⟩
theorem below_drew {B : Nat} {a w : World} (h : Below B a w) : Below B a w.drew := ⟨h.os, h.tape, h.output, h.size, h.block⟩

/-- A chain: the struct's block, its versions' row, both in S. -/
structure IsChain (w : World) (S : Nat → Prop) (g : Nat) (vs : List (Int × Int)) (mark : Int) : Prop where
  at_ : ∃ v, Blk w g 91 #[v, .int .i64 mark] ∧ Row w 0 34 2 v vs.length (vcs vs) ∧ ∀ k, v.ownBlock = some k → S k
  foot : S g
  small : vs.length ≤ 10000

set_option maxHeartbeats 1000000 in
theorem mark_calls (g : Nat) (S : Nat → Prop) (vs : List (Int × Int)) (m : Int) (w : World) (h : IsChain w S g vs m) :
    Calls Try.prog 20 #[.pointer (some ⟨g, 0, none⟩)] w fun e w' => e = .returned (.int .i64 m) ∧ w = w' := by
  obtain ⟨v, hb, _⟩ := h.at_
  have h1 := hb.cell 1 _ rfl
  go_enter Try.func20, Try.ntmps20
  go_wp2
  go_ret
  exact ⟨rfl, rfl⟩
set_option maxHeartbeats 1000000 in
theorem new_calls (w : World) :
    Calls Try.prog 14 #[] w fun e w' => e = .returned (.pointer (some ⟨w.heap.size, 0, none⟩)) ∧ IsChain w' (fun i => w.heap.size ≤ i) w.heap.size [] 0 ∧ Below w.heap.size w w' := by
  have hb := Blk.new w 91 #[.slice none 0 0, .int .i64 0]
  go_enter Try.func14, Try.ntmps14
  go_wp2
  go_ret
  exact ⟨rfl, ⟨⟨_, hb, Row.nil _ _ _ _, fun k hk => by cases hk⟩, Nat.le_refl _, by simp⟩, (Below.refl _ _).alloc (Nat.le_refl _) _⟩
set_option maxHeartbeats 1000000 in
theorem last_calls (g : Nat) (S : Nat → Prop) (vs : List (Int × Int)) (m : Int) (w : World) (h : IsChain w S g vs m) :
    Calls Try.prog 17 #[.pointer (some ⟨g, 0, none⟩)] w fun e w' => e = .returned (.tuple #[.agg #[.int .i64 (vs.getLast?.getD (0, 0)).1, .int .i64 (vs.getLast?.getD (0, 0)).2], .bool (decide (0 < vs.length))]) ∧ Below w.heap.size w w' := by
  obtain ⟨v, hb, hr, _⟩ := h.at_
  have hs := h.small
  have hbl := hb.lt
  rcases Nat.eq_zero_or_pos vs.length with h0 | h0
  · obtain rfl : vs = [] := List.eq_nil_of_length_eq_zero h0
    obtain ⟨A, c, rfl, _, _, _, _⟩ := hr.cells (by simp [vcs])
    have h1 := hb.cell 0 _ rfl
    go_enter Try.func17, Try.ntmps17
    go_wp2
    try simp only [Exit.inBlock, Exit.then]
    refine bodyPost_ret (v := .tuple #[.agg #[.int .i64 0, .int .i64 0], .bool false]) (by simp [results, Try.results17, go_sem]) rfl ?_
    exact ⟨rfl, (Below.refl _ _).alloc (Nat.le_refl _) _⟩
  · obtain ⟨k, hk⟩ : ∃ k, vs.length = k + 1 := ⟨vs.length - 1, by omega⟩
    obtain ⟨x, hx⟩ : ∃ x, x = vs[k]'(by omega) := ⟨_, rfl⟩
    have hlast : vs.getLast?.getD (0, 0) = x := by
      rw [List.getLast?_eq_getElem?, show vs.length - 1 = k by omega, List.getElem?_eq_getElem (by omega), hx]; rfl
    rw [hlast]
    obtain ⟨A, cap, rfl, hn, hcm, hAl, hcell⟩ := hr.ver h0
    obtain ⟨c0, c1⟩ := hcell k (by omega)
    rw [← hx] at c0 c1
    have h1 : w.cell? ⟨g, 0, none⟩ = some (Value.slice (some ⟨A, 0, none⟩) vs.length cap) := hb.cell 0 _ rfl
    have hd : decide (0 < vs.length) = true := by simpa using h0
    rw [hd]
    rw [hk] at h1 hn hs
    clear hlast hx hd hk hr hb h h0 hcell
    obtain ⟨x1, x2⟩ := x
    go_enter Try.func17, Try.ntmps17
    go_wp2
    go_region
    go_wp2
    try simp only [Exit.inBlock, Exit.then]
    refine bodyPost_ret (v := .tuple #[.agg #[.int .i64 x1, .int .i64 x2], .bool true]) ?_ rfl ?_
    · simp [results, Try.results17, go_sem]
    exact ⟨rfl, below_drew ((Below.refl _ _).alloc (Nat.le_refl _) _)⟩
end Go.Proofs.Ytpacbbnnmopkjaa
