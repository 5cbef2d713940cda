/- The plain law of a disk with power, as a wal uses it. -/
import Derived.Test.YtimjadjopemefaaWa6
set_option linter.unusedVariables false
set_option linter.unusedSimpArgs false
namespace Go.Proofs.Ytimjadjopemefaa
open Go.RowKit

/-- A log on a disk with power, that isn't armed for the next act. -/
structure Live (D : DS) (i : Nat) (b : List UInt8) (s : Nat) : Prop where
  lt : i < D.logs.length
  log : D.logs[i] = (b, s)
  up : D.down = false
  arm : D.armed ≠ 1
  small : b.length ≤ 4194304
  sure : s ≤ b.length
section
variable {D : DS} {i : Nat} {b : List UInt8} {s : Nat}
theorem Live.has (h : Live D i b s) : D.has (i : Int) = true := DS.has_iff.2 ⟨i, rfl, h.lt⟩
theorem Live.logq (h : Live D i b s) : D.log (i : Int) = (b, s) := by rw [DS.log_at h.lt, h.log]
theorem Live.read (h : Live D i b s) : D.readErr (i : Int) = 0 := by simp [DS.readErr, h.has, h.up]
theorem Live.sureq (h : Live D i b s) : D.sure (i : Int) = s := by simp [DS.sure, h.has, h.logq]
theorem Live.actErr (h : Live D i b s) {size : Int} (hs : size ≤ 4194304) : D.actErr (i : Int) size = 0 := by
  unfold DS.actErr
  rw [if_pos h.has, if_neg (by rw [h.up]; decide), if_neg (by omega), if_neg h.arm]
theorem Live.act (h : Live D i b s) {size : Int} (hs : size ≤ 4194304) (f : List UInt8 × Nat → List UInt8 × Nat) : D.act (i : Int) size f = { D.pre with logs := D.logs.set i (f (b, s)) } := by
  rw [DS.act_ok (h.actErr hs) h.lt, h.log]
theorem Live.append (h : Live D i b s) {c : List UInt8} (hs : b.length + c.length ≤ 4194304) : D.appErr (i : Int) c = 0 ∧ D.append (i : Int) c = { D.pre with logs := D.logs.set i (b ++ c, s) } := by
  have e : D.appSize (i : Int) c = (c.length : Int) + (b.length : Int) := by unfold DS.appSize; rw [if_pos h.has, h.logq]
  unfold DS.appErr DS.append
  rw [e]
  exact ⟨h.actErr (by omega), h.act (by omega) _⟩
theorem Live.sync (h : Live D i b s) : D.actErr (i : Int) 0 = 0 ∧ D.sync (i : Int) = { D.pre with logs := D.logs.set i (b, b.length) } := ⟨h.actErr (by omega), h.act (by omega) _⟩
theorem Live.swap (h : Live D i b s) {c : List UInt8} (hs : c.length ≤ 4194304) : D.actErr (i : Int) (c.length : Int) = 0 ∧ D.swap (i : Int) c = { D.pre with logs := D.logs.set i (c, c.length) } := ⟨h.actErr (by omega), h.act (by omega) _⟩
/-- What opening it leaves. -/
theorem Live.open (h : Live D i b s) : openErrD D (i : Int) = 0 ∧ ∃ D', openD D (i : Int) = D' ∧ D'.logs = D.logs.set i (b.take (scanOf b).2, (scanOf b).2) ∧ D'.down = false ∧ D'.acts ≤ D.acts + 1 ∧ (D.armed = 0 → D'.armed = 0) ∧
    (¬ (scanOf b).2 < b.length ∧ ¬ s < (scanOf b).2 → D' = D) := by
  have hle := scanOf_le b.length b (Nat.le_refl _)
  have hsm := h.small
  have hlog := h.logq
  unfold openErrD openD
  have hr0 : ¬ D.readErr (i : Int) ≠ 0 := by rw [h.read]; decide
  rw [hlog, if_neg hr0, if_neg hr0, h.sureq]
  simp only
  have hpa : D.armed = 0 → D.pre.armed = 0 := by intro h; simp [DS.pre, h]
  have hpd : D.pre.down = false := h.up
  have hpc : D.pre.acts ≤ D.acts + 1 := Nat.le_refl _
  by_cases h1 : (scanOf b).2 < b.length
  · rw [if_pos h1, if_pos h1]
    have hl : ((b.take (scanOf b).2).length : Int) = ((scanOf b).2 : Int) := by simp; omega
    obtain ⟨e1, e2⟩ := h.swap (c := b.take (scanOf b).2) (by simp; omega)
    rw [hl] at e1
    refine ⟨e1, _, rfl, ?_, ?_, ?_, ?_, fun hh => absurd h1 hh.1⟩
    · rw [e2]; simp only; rw [show (b.take (scanOf b).2).length = (scanOf b).2 by simp; omega]
    · rw [e2]; exact hpd
    · rw [e2]; exact hpc
    · rw [e2]; exact hpa
  · rw [if_neg h1, if_neg h1]
    have hn : (scanOf b).2 = b.length := by omega
    have ht : b.take (scanOf b).2 = b := List.take_of_length_le (by omega)
    by_cases h2 : s < (scanOf b).2
    · rw [if_pos h2, if_pos h2]
      obtain ⟨e1, e2⟩ := h.sync
      refine ⟨e1, _, rfl, ?_, ?_, ?_, ?_, fun hh => absurd h2 hh.2⟩
      · rw [e2, ht]; simp only; rw [hn]
      · rw [e2]; exact hpd
      · rw [e2]; exact hpc
      · rw [e2]; exact hpa
    · rw [if_neg h2, if_neg h2]
      have hs : s = (scanOf b).2 := by have := h.sure; omega
      refine ⟨rfl, D, rfl, ?_, h.up, Nat.le_succ _, fun h => h, fun _ => rfl⟩
      rw [ht, ← hs, ← h.log]
      exact (List.set_getElem_self h.lt).symm
theorem Live.quiet (h : Live D i b s) (h1 : (scanOf b).2 = b.length) (h2 : s = b.length) : quietD D (i : Int) := by
  refine .inr ?_
  rw [h.logq, h.sureq]
  exact ⟨by simp only; omega, by simp only; omega⟩
end
end Go.Proofs.Ytimjadjopemefaa
