/- One byte of a sum or a load that is turned: the frame's sum no longer fits. Plain Lean. -/
import Derived.Test.YtimjadjopemefaaFrameTorn
set_option linter.unusedVariables false
set_option linter.unusedSimpArgs false
namespace Go.Proofs.Ytimjadjopemefaa

theorem crcBit_inj {c d : BitVec 32} (h : crcBit c = crcBit d) : c = d := by
  have one : ∀ x : BitVec 32, x &&& 1#32 = if x.getLsbD 0 then 1#32 else 0#32 := by
    intro x
    apply BitVec.eq_of_getLsbD_eq
    intro i hi
    by_cases h0 : i = 0
    · subst h0
      have hx' : x[0] = x.getLsbD 0 := by simp
      cases hx : x.getLsbD 0 <;> rw [hx] at hx' <;> simp [hx']
    · cases hx : x.getLsbD 0 <;> simp [hx, h0]
  have form : ∀ x : BitVec 32, crcBit x = (x >>> 1) ^^^ (if x.getLsbD 0 then 0xedb88320#32 else 0#32) := by
    intro x
    unfold crcBit
    rw [one x]
    cases x.getLsbD 0
    · simp
    · congr 1
  rw [form c, form d] at h
  have h0 : c.getLsbD 0 = d.getLsbD 0 := by
    cases hc : c.getLsbD 0 <;> cases hd : d.getLsbD 0 <;> first | rfl | (rw [hc, hd] at h; have h31 := congrArg (fun x => x.getLsbD 31) h; simp at h31)
  rw [h0] at h
  have h1 := congrArg (fun x => x ^^^ (if d.getLsbD 0 then 0xedb88320#32 else 0#32)) h
  simp only [BitVec.xor_assoc, BitVec.xor_self, BitVec.xor_zero] at h1
  apply BitVec.eq_of_getLsbD_eq
  intro i hi
  cases i with
  | zero => exact h0
  | succ i =>
    have := congrArg (fun x => x.getLsbD i) h1
    simpa [Nat.add_comm] using this
theorem crcBits_inj (n : Nat) {c d : BitVec 32} (h : crcBits n c = crcBits n d) : c = d := by
  induction n generalizing c d with
  | zero => exact h
  | succ n ih => exact crcBit_inj (ih h)
theorem xor_left {a b c : BitVec 32} (h : a ^^^ c = b ^^^ c) : a = b := by
  have := congrArg (· ^^^ c) h
  simpa [BitVec.xor_assoc] using this
theorem crcByte_inj {c d : BitVec 32} {b : UInt8} (h : crcByte c b = crcByte d b) : c = d := xor_left (crcBits_inj 8 h)
theorem crcByte_inj2 {c : BitVec 32} {a b : UInt8} (h : crcByte c a = crcByte c b) : a = b := by
  have h1 := crcBits_inj 8 h
  rw [BitVec.xor_comm c, BitVec.xor_comm c] at h1
  have h2 := congrArg BitVec.toNat (xor_left h1)
  simp only [BitVec.toNat_ofNat] at h2
  have ha := a.toNat_lt
  have hb := b.toNat_lt
  rw [Nat.mod_eq_of_lt (by omega), Nat.mod_eq_of_lt (by omega)] at h2
  exact UInt8.toNat_inj.1 h2
theorem crcOn_inj (l : List UInt8) {c d : BitVec 32} (h : crcOn c l = crcOn d l) : c = d := by
  induction l generalizing c d with
  | nil => exact h
  | cons b l ih => exact crcByte_inj (ih h)
/-- Two texts that differ in one byte have unlike sums. -/
theorem crcSum_one (p l : List UInt8) (a b : UInt8) (h : crcSum (p ++ a :: l) = crcSum (p ++ b :: l)) : a = b := by
  unfold crcSum at h
  have h1 : crcOn (BitVec.allOnes 32) (p ++ a :: l) = crcOn (BitVec.allOnes 32) (p ++ b :: l) := by
    have := congrArg (fun x => ~~~ x) h
    simpa using this
  rw [crcOn_append, crcOn_append] at h1
  exact crcByte_inj2 (crcOn_inj l h1)
theorem set_split (l : List UInt8) (i : Nat) (y : UInt8) (h : i < l.length) : l.set i y = l.take i ++ y :: l.drop (i + 1) := by
  rw [List.set_eq_take_append_cons_drop, if_pos h]
theorem self_split (l : List UInt8) (i : Nat) (h : i < l.length) : l = l.take i ++ l[i] :: l.drop (i + 1) := by
  exact (List.take_append_drop i l).symm.trans (by rw [List.drop_eq_getElem_cons h])
theorem getD_set (l : List UInt8) (p i : Nat) (y : UInt8) (h : i ≠ p) : (l.set p y).getD i 0 = l.getD i 0 := by
  simp [List.getD_eq_getElem?_getD, List.getElem?_set, Ne.symm h]
theorem getD_set_self (l : List UInt8) (p : Nat) (y : UInt8) (h : p < l.length) : (l.set p y).getD p 0 = y := by
  simp [List.getD_eq_getElem?_getD, List.getElem?_set, h]
theorem u8_ne {a b : UInt8} (h : a ≠ b) : a.toNat ≠ b.toNat := fun e => h (UInt8.toNat_inj.1 e)
/-- One byte behind the count turned: the sum doesn't fit. -/
theorem open_turned (b : List UInt8) (p : Nat) (y : UInt8) (h0 : openErr b = 0) (h4 : 4 ≤ p) (hp : p < openLen b) (hb : p < b.length) (hy : y ≠ b[p]) : openErr (b.set p y) = 32 := by
  have hL : openLen b = 8 + rdAt b 0 := by rw [openLen, if_pos h0]
  obtain ⟨h8, hle⟩ := openLen_le h0
  have hn1 : ¬ b.length < 8 := by omega
  unfold openErr at h0
  rw [if_neg hn1] at h0
  have hn2 : ¬ 65536 < rdAt b 0 := fun e => by rw [if_pos e] at h0; cases h0
  rw [if_neg hn2] at h0
  have hn3 : ¬ b.length - 8 < rdAt b 0 := fun e => by rw [if_pos e] at h0; cases h0
  rw [if_neg hn3] at h0
  have hs : (crcSum (b.take 4 ++ (b.drop 8).take (rdAt b 0))).toNat = rdAt b 4 := by
    apply Classical.byContradiction; intro e; rw [if_pos e] at h0; cases h0
  have e0 : rdAt (b.set p y) 0 = rdAt b 0 := by
    unfold rdAt; rw [getD_set _ _ _ _ (by omega), getD_set _ _ _ _ (by omega), getD_set _ _ _ _ (by omega), getD_set _ _ _ _ (by omega)]
  have el : (b.set p y).length = b.length := by simp
  have et : (b.set p y).take 4 = b.take 4 := by rw [List.take_set_of_le h4]
  unfold openErr
  rw [el, e0, if_neg hn1, if_neg hn2, if_neg hn3, et]
  generalize rdAt b 0 = m at *
  have hq : b.getD p 0 = b[p] := by simp [List.getD_eq_getElem?_getD, hb]
  by_cases hp8 : p < 8
  · have ed : (b.set p y).drop 8 = b.drop 8 := by rw [List.drop_set_of_lt hp8]
    rw [ed, hs, if_pos]
    have hy2 := u8_ne hy
    rw [← hq] at hy2
    have hz := getD_set_self b p y hb
    unfold rdAt rd4
    simp only [Nat.reduceAdd]
    have b4 := (b.getD 4 0).toNat_lt
    have b5 := (b.getD 5 0).toNat_lt
    have b6 := (b.getD 6 0).toNat_lt
    have b7 := (b.getD 7 0).toNat_lt
    have by' := y.toNat_lt
    rcases (show p = 4 ∨ p = 5 ∨ p = 6 ∨ p = 7 by omega) with rfl | rfl | rfl | rfl
    · rw [hz, getD_set _ _ 5 _ (by omega), getD_set _ _ 6 _ (by omega), getD_set _ _ 7 _ (by omega)]; omega
    · rw [hz, getD_set _ _ 4 _ (by omega), getD_set _ _ 6 _ (by omega), getD_set _ _ 7 _ (by omega)]; omega
    · rw [hz, getD_set _ _ 4 _ (by omega), getD_set _ _ 5 _ (by omega), getD_set _ _ 7 _ (by omega)]; omega
    · rw [hz, getD_set _ _ 4 _ (by omega), getD_set _ _ 5 _ (by omega), getD_set _ _ 6 _ (by omega)]; omega
  · have er : rdAt (b.set p y) 4 = rdAt b 4 := by
      unfold rdAt; rw [getD_set _ _ _ _ (by omega), getD_set _ _ _ _ (by omega), getD_set _ _ _ _ (by omega), getD_set _ _ _ _ (by omega)]
    rw [er, ← hs, if_pos]
    intro e
    have e2 := BitVec.eq_of_toNat_eq e
    have ed : ((b.set p y).drop 8).take m = ((b.drop 8).take m).set (p - 8) y := by
      rw [List.drop_set, if_neg (by omega), List.take_set]
    have hk : p - 8 < ((b.drop 8).take m).length := by simp; omega
    have hg : ((b.drop 8).take m)[p - 8] = b[p] := by
      rw [List.getElem_take, List.getElem_drop]; congr 1; omega
    rw [ed, set_split _ _ _ hk] at e2
    have e3 := self_split ((b.drop 8).take m) (p - 8) hk
    rw [hg] at e3
    generalize hP : ((b.drop 8).take m).take (p - 8) = P at e2 e3
    generalize hS : ((b.drop 8).take m).drop (p - 8 + 1) = S at e2 e3
    rw [e3, ← List.append_assoc, ← List.append_assoc] at e2
    exact hy (crcSum_one _ _ _ _ e2)
end Go.Proofs.Ytimjadjopemefaa
