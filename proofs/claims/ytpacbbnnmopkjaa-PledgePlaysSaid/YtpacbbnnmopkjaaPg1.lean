/- A pledge in memory, and the walks of its methods. -/
import Derived.Test.YtpacbbnnmopkjaaProg
import Derived.Test.YtpacbbnnmopkjaaSto
import Derived.WalkKit
import Derived.Outline
import Derived.WalkLawsBesides
import Derived.WalkSpells
import Derived.Deep.QuietTactic
import Derived.BigQuiet
import Derived.KernelRfl
import Derived.Lib.Hide
import Derived.Deep.Cut
import Derived.Deep.RegionHeld3
import Derived.IntWalk
set_option linter.unusedVariables false
set_option linter.unusedSimpArgs false
namespace Go.Proofs.Ytpacbbnnmopkjaa
open Go.RowKit

/-- A transfer. -/
structure Tr where
  id : Int
  frm : Int
  to : Int
  n : Int
/-- What a side said. -/
structure Vt where
  said : Bool
  yes : Bool
  t : Int
deriving DecidableEq
/-- A pledge's state. -/
structure PS where
  v0 : Vt
  v1 : Vt
  a0 : Bool
  a1 : Bool
  fate : Int
  at_ : Int
def trVal (x : Tr) : Value := .agg #[.int .i64 x.id, .int .i64 x.frm, .int .i64 x.to, .int .i64 x.n]
/-- A pledge: all of it lies in one block. -/
def IsPledge (w : World) (g : Nat) (x : Tr) (p : PS) : Prop :=
  Blk w g 103 #[.int .i64 x.id, .int .i64 x.frm, .int .i64 x.to, .int .i64 x.n, .bool p.v0.said, .bool p.v0.yes, .int .i64 p.v0.t, .bool p.v1.said, .bool p.v1.yes, .int .i64 p.v1.t, .bool p.a0, .bool p.a1, .int .i64 p.fate, .int .i64 p.at_]
def PS.none : PS := ⟨⟨false, false, 0⟩, ⟨false, false, 0⟩, false, false, 0, 0⟩

def trErr (x : Tr) : Int :=
  if x.id < 1 ∨ 1000000 < x.id then 170 else if ¬ (0 ≤ x.frm ∧ x.frm < 4096) ∨ ¬ (0 ≤ x.to ∧ x.to < 4096) then 171 else if x.frm = x.to then 172 else if x.n < 1 ∨ 1000000000000000 < x.n then 173 else 0

set_option maxHeartbeats 1000000 in
theorem is_calls (a : Int) (w : World) : Calls Try.prog 49 #[.int .i64 a] w fun e w' => e = .returned (.bool (decide (0 ≤ a) && decide (a < 4096))) ∧ w = w' := by
  by_cases h : 0 ≤ a
  · go_enter Try.func49, Try.ntmps49
    go_wp2
    go_ret
    exact ⟨by simp [h], rfl⟩
  · go_enter Try.func49, Try.ntmps49
    go_wp2
    go_ret
    exact ⟨by simp; omega, rfl⟩
def stampOk (t : Int) : Bool := decide (1 ≤ t) && decide (t ≤ 1125899906842624)
set_option maxHeartbeats 1000000 in
theorem stamp_calls (a : Int) (w : World) : Calls Try.prog 54 #[.int .i64 a] w fun e w' => e = .returned (.bool (stampOk a)) ∧ w = w' := by
  unfold stampOk
  by_cases h : 1 ≤ a
  · go_enter Try.func54, Try.ntmps54
    go_wp2
    go_ret
    exact ⟨by simp [h], rfl⟩
  · go_enter Try.func54, Try.ntmps54
    go_wp2
    go_ret
    exact ⟨by simp; omega, rfl⟩
set_option maxHeartbeats 1000000 in
theorem side_calls (b : Bool) (w : World) : Calls Try.prog 55 #[.bool b] w fun e w' => e = .returned (.int .i64 (if b then 0 else 1)) ∧ w = w' := by
  cases b
  · go_enter Try.func55, Try.ntmps55
    go_wp2
    go_ret
    exact ⟨rfl, rfl⟩
  · go_enter Try.func55, Try.ntmps55
    go_wp2
    go_ret
    exact ⟨rfl, rfl⟩

/-- What New leaves: no pledge and why, or one. -/
def PNew (w : World) (x : Tr) (E : Int) (e : Ending) (w' : World) : Prop :=
  (E ≠ 0 → e = .returned (.tuple #[.pointer Option.none, .int .i64 E])) ∧ (E = 0 → ∃ g, e = .returned (.tuple #[.pointer (some ⟨g, 0, Option.none⟩), .int .i64 0]) ∧ IsPledge w' g x PS.none ∧ w.heap.size ≤ g) ∧ Below w.heap.size w w'
set_option maxHeartbeats 4000000 in
set_option maxRecDepth 100000 in
theorem pnew_calls (x : Tr) (w : World) : Calls Try.prog 25 #[trVal x] w (PNew w x (trErr x)) := by
  obtain ⟨id, frm, to, n⟩ := x
  have B1 := (Below.refl w.heap.size w).alloc (Nat.le_refl _) (.cells #[.int .i64 id, .int .i64 frm, .int .i64 to, .int .i64 n] 53)
  have B2 := Lib.hid (B1.alloc B1.size (.cells #[.int .i64 id, .int .i64 frm, .int .i64 to, .int .i64 n, .bool false, .bool false, .int .i64 0, .bool false, .bool false, .int .i64 0, .bool false, .bool false, .int .i64 0, .int .i64 0] 103))
  have HN := Lib.hid (Blk.new (w.alloc (.cells #[.int .i64 id, .int .i64 frm, .int .i64 to, .int .i64 n] 53)) 103 #[.int .i64 id, .int .i64 frm, .int .i64 to, .int .i64 n, .bool false, .bool false, .int .i64 0, .bool false, .bool false, .int .i64 0, .bool false, .bool false, .int .i64 0, .int .i64 0])
  have HB1 := Lib.hid B1
  have b1 := B1
  clear B1
  unfold trErr trVal
  simp only
  by_cases h1 : id < 1 ∨ 1000000 < id
  · rw [if_pos h1]
    clear b1
    rcases h1 with h1 | h1
    · go_enter Try.func25, Try.ntmps25
      go_wp2
      go_ret2
      exact ⟨fun _ => rfl, fun h => (by cases h), HB1.out⟩
    · have h0 : ¬ id < 1 := by omega
      go_enter Try.func25, Try.ntmps25
      go_wp2
      go_ret2
      exact ⟨fun _ => rfl, fun h => (by cases h), HB1.out⟩
  · rw [if_neg h1]
    have g1 : ¬ id < 1 := by omega
    have g2 : ¬ 1000000 < id := by omega
    clear h1
    by_cases h2 : ¬ (0 ≤ frm ∧ frm < 4096) ∨ ¬ (0 ≤ to ∧ to < 4096)
    · rw [if_pos h2]
      by_cases h3 : 0 ≤ frm ∧ frm < 4096
      · have e1 : (decide (0 ≤ frm) && decide (frm < 4096)) = true := by simp [h3]
        have e2 : (decide (0 ≤ to) && decide (to < 4096)) = false := by
          rcases h2 with h2 | h2
          · exact absurd h3 h2
          · simp; omega
        clear h2 h3 b1
        go_enter Try.func25, Try.ntmps25
        go_wp2_with fail
        refine (is_calls frm _).mono ?_
        rintro e w1 ⟨rfl, rfl⟩
        rw [e1]
        go_wp2_with fail
        refine (is_calls to _).mono ?_
        rintro e w1 ⟨rfl, rfl⟩
        rw [e2]
        go_wp2
        go_ret2
        exact ⟨fun _ => rfl, fun h => (by cases h), HB1.out⟩
      · have e1 : (decide (0 ≤ frm) && decide (frm < 4096)) = false := by simp; omega
        clear h2 h3 b1
        go_enter Try.func25, Try.ntmps25
        go_wp2_with fail
        refine (is_calls frm _).mono ?_
        rintro e w1 ⟨rfl, rfl⟩
        rw [e1]
        go_wp2
        go_ret2
        exact ⟨fun _ => rfl, fun h => (by cases h), HB1.out⟩
    · rw [if_neg h2]
      have e1 : (decide (0 ≤ frm) && decide (frm < 4096)) = true := by simp; omega
      have e2 : (decide (0 ≤ to) && decide (to < 4096)) = true := by simp; omega
      clear h2 b1
      by_cases h4 : frm = to
      · rw [if_pos h4]
        have e3 : (frm == to) = true := by simpa using h4
        clear h4
        go_enter Try.func25, Try.ntmps25
        go_wp2_with fail
        refine (is_calls frm _).mono ?_
        rintro e w1 ⟨rfl, rfl⟩
        rw [e1]
        go_wp2_with fail
        refine (is_calls to _).mono ?_
        rintro e w1 ⟨rfl, rfl⟩
        rw [e2]
        go_wp2
        go_ret2
        exact ⟨fun _ => rfl, fun h => (by cases h), HB1.out⟩
      · rw [if_neg h4]
        have e3 : (frm == to) = false := by simpa using h4
        clear h4
        by_cases h5 : n < 1 ∨ 1000000000000000 < n
        · rw [if_pos h5]
          rcases h5 with h5 | h5
          · go_enter Try.func25, Try.ntmps25
            go_wp2_with fail
            refine (is_calls frm _).mono ?_
            rintro e w1 ⟨rfl, rfl⟩
            rw [e1]
            go_wp2_with fail
            refine (is_calls to _).mono ?_
            rintro e w1 ⟨rfl, rfl⟩
            rw [e2]
            go_wp2
            go_ret2
            exact ⟨fun _ => rfl, fun h => (by cases h), HB1.out⟩
          · have h6 : ¬ n < 1 := by omega
            go_enter Try.func25, Try.ntmps25
            go_wp2_with fail
            refine (is_calls frm _).mono ?_
            rintro e w1 ⟨rfl, rfl⟩
            rw [e1]
            go_wp2_with fail
            refine (is_calls to _).mono ?_
            rintro e w1 ⟨rfl, rfl⟩
            rw [e2]
            go_wp2
            go_ret2
            exact ⟨fun _ => rfl, fun h => (by cases h), HB1.out⟩
        · rw [if_neg h5]
          have h6 : ¬ n < 1 := by omega
          have h7 : ¬ 1000000000000000 < n := by omega
          clear h5
          go_enter Try.func25, Try.ntmps25
          go_wp2_with fail
          refine (is_calls frm _).mono ?_
          rintro e w1 ⟨rfl, rfl⟩
          rw [e1]
          go_wp2_with fail
          refine (is_calls to _).mono ?_
          rintro e w1 ⟨rfl, rfl⟩
          rw [e2]
          go_wp2
          go_ret2
          refine ⟨fun h => absurd rfl h, fun _ => ⟨w.heap.size + 1, by simp, by simpa [IsPledge, PS.none] using HN.out, by omega⟩, B2.out⟩
end Go.Proofs.Ytpacbbnnmopkjaa
