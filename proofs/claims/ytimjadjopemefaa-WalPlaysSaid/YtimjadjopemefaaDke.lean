/- The plain law of a disk with power: what acts keep. -/
import Derived.Test.YtimjadjopemefaaDkd
set_option linter.unusedVariables false
set_option linter.unusedSimpArgs false
namespace Go.Proofs.Ytimjadjopemefaa
open Go.RowKit

/-- Three logs, power, nothing armed. -/
def Pow (D : DS) : Prop := D.logs.length = 3 ∧ D.down = false ∧ D.armed = 0
theorem pow_act {D : DS} {n size : Int} {f : List UInt8 × Nat → List UInt8 × Nat} (h : Pow D) : Pow (D.act n size f) ∧ (n ≠ 1 → (D.act n size f).logs[1]? = D.logs[1]?) := by
  obtain ⟨h1, h2, h3⟩ := h
  by_cases he : D.actErr n size = 0
  · obtain ⟨i, rfl, hi⟩ := DS.actErr_has he
    rw [DS.act_ok he hi]
    refine ⟨⟨by simpa using h1, h2, ?_⟩, fun hn => ?_⟩
    · simp only [DS.pre, h3]; decide
    · exact List.getElem?_set_ne (by omega)
  · rw [DS.act_no he]
    unfold DS.fail
    rw [if_neg (by rw [h3]; intro h; exact absurd h.2.2.2 (by decide))]
    exact ⟨⟨h1, h2, h3⟩, fun _ => rfl⟩
theorem pow_crash {D : DS} {ks : List Int} (h : Pow D) : Pow { D.crash ks with down := false } := by
  obtain ⟨h1, h2, h3⟩ := h
  unfold DS.crash
  rw [if_neg (by rw [h2]; decide)]
  exact ⟨by simpa [crashTo] using h1, rfl, rfl⟩
theorem pow_step {D : DS} {a : Act5} (h : Pow D) : Pow (stepD D a) := by
  unfold stepD
  split
  · exact (pow_act h).1
  split
  · exact (pow_act h).1
  split
  · exact (pow_act h).1
  split
  · exact pow_crash h
  · exact h
theorem pow_fresh : Pow (freshD 3) := ⟨rfl, rfl, rfl⟩
theorem pow_made (l : List Act5) : Pow (madeD l) := by
  have : ∀ (l : List Act5) (D : DS), Pow D → Pow (l.foldl stepD D) := by
    intro l
    induction l with
    | nil => exact fun D h => h
    | cons a l ih => exact fun D h => ih _ (pow_step h)
  exact this _ _ pow_fresh
theorem made_acts (l : List Act5) : (madeD l).acts ≤ 30 := by
  have : ∀ (l : List Act5) (D : DS), (l.foldl stepD D).acts ≤ D.acts + l.length := by
    intro l
    induction l with
    | nil => exact fun D => Nat.le_refl _
    | cons a l ih => exact fun D => by have := ih (stepD D a); have := stepD_acts D a; simp only [List.foldl_cons, List.length_cons]; omega
  have h := this (l.take 30) (freshD 3)
  have : (l.take 30).length ≤ 30 := by simp; omega
  unfold madeD
  simp only [freshD] at h ⊢
  omega
theorem pow_read {D : DS} (h : Pow D) {i : Nat} (hi : i < 3) : D.readErr (i : Int) = 0 ∧ D.sure (i : Int) = (D.log (i : Int)).2 ∧ D.log (i : Int) = D.logs[i]'(by rw [h.1]; exact hi) := by
  have hh : D.has (i : Int) = true := DS.has_iff.2 ⟨i, rfl, by rw [h.1]; exact hi⟩
  exact ⟨by simp [DS.readErr, hh, h.2.1], by simp [DS.sure, hh], DS.log_at (by rw [h.1]; exact hi)⟩

/-- An act of DiskApart: log 1 is left alone. -/
def stepA (D : DS) (a : Act5) : DS :=
  if a.log = 1 then D else if a.kind = 0 then D.append a.log (a.s.take 2000) else if a.kind = 1 then D.sync a.log else if a.kind = 2 then D.swap a.log (a.s.take 2000) else D
theorem stepA_keeps {D : DS} {a : Act5} (h : Pow D) : Pow (stepA D a) ∧ (stepA D a).log 1 = D.log 1 ∧ (stepA D a).acts ≤ D.acts + 1 := by
  have e : ∀ (n size : Int) f, n ≠ 1 → Pow (D.act n size f) ∧ (D.act n size f).log 1 = D.log 1 ∧ (D.act n size f).acts ≤ D.acts + 1 := fun n size f hn =>
    ⟨(pow_act h).1, by unfold DS.log; rw [show (1 : Int).toNat = 1 from rfl, (pow_act h).2 hn], act_acts _ _ _ _⟩
  unfold stepA
  split
  · exact ⟨h, rfl, by omega⟩
  split
  · exact e _ _ _ (by assumption)
  split
  · exact e _ _ _ (by assumption)
  split
  · exact e _ _ _ (by assumption)
  · exact ⟨h, rfl, by omega⟩
end Go.Proofs.Ytimjadjopemefaa
