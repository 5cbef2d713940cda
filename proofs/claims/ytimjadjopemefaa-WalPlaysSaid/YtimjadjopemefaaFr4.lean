/- frame.Open as one contract; the walk of frame.Scan. -/
import Derived.Test.YtimjadjopemefaaFr3
set_option linter.unusedVariables false
set_option linter.unusedSimpArgs false
namespace Go.Proofs.Ytimjadjopemefaa
open Go.RowKit

theorem rd4_lt (a b c d : UInt8) : rd4 a b c d < 4294967296 := by
  unfold rd4; have := a.toNat_lt; have := b.toNat_lt; have := c.toNat_lt; have := d.toNat_lt; omega
theorem openErr_cases (b : List UInt8) : openErr b = 0 ∨ openErr b = 30 ∨ openErr b = 31 ∨ openErr b = 32 := by
  unfold openErr; repeat' split
  all_goals simp
theorem openErr_range (b : List UInt8) : 0 ≤ openErr b ∧ openErr b ≤ 32 := by
  rcases openErr_cases b with h | h | h | h <;> rw [h] <;> decide

theorem ret_vii {v : Value} {a b c d : Int} (h : a = c) (k : b = d) : Ending.returned (.tuple #[v, .int .i64 a, .int .i64 b]) = Ending.returned (.tuple #[v, .int .i64 c, .int .i64 d]) := by rw [h, k]
theorem openLen_ok {b : List UInt8} (h : openErr b = 0) : (openLen b : Int) = 8 + (rdAt b 0 : Int) := by rw [openLen, if_pos h]; omega
theorem openLen_no {b : List UInt8} (h : openErr b ≠ 0) : (openLen b : Int) = 0 := by rw [openLen, if_neg h]; rfl
theorem openLoad_ok {b : List UInt8} (h : openErr b = 0) : openLoad b = (b.drop 8).take (rdAt b 0) := by rw [openLoad, if_pos h]
theorem openLoad_no {b : List UInt8} (h : openErr b ≠ 0) : openLoad b = [] := by rw [openLoad, if_neg h]
theorem full_nil (w : World) (base : Nat) : Full w base (.slice none 0 0) [] := ⟨none, rfl, Cells.nil _ _, fun ad h => by cases h⟩
theorem open_calls (A : Option Addr) (n cap : Nat) (b : List UInt8) (w : World) (hn : n = b.length) (hc : n ≤ cap) (hr : Cells w A (byts b)) :
    Calls Try.prog 29 #[.slice A n cap] w fun e w' => ∃ v, e = .returned (.tuple #[v, .int .i64 (openLen b), .int .i64 (openErr b)]) ∧ Full w' w.heap.size v (openLoad b) ∧ Below w.heap.size w w' := by
  subst hn
  have hsm := hr.len
  by_cases h8 : b.length < 8
  · refine (open_short A b.length cap w h8).mono ?_
    rintro e w' ⟨rfl, rfl⟩
    have he : openErr b = 31 := by simp [openErr, h8]
    have hz : openErr b ≠ 0 := by rw [he]; decide
    refine ⟨_, ret_vii (openLen_no hz).symm he.symm, ?_, Below.refl _ _⟩
    rw [openLoad_no hz]
    exact full_nil _ _
  · obtain ⟨a0, a1, a2, a3, a4, a5, a6, a7, l, rfl⟩ := long8 b (by omega)
    have hread := read_calls A (l.length + 8) cap a0 a1 a2 a3 (a4 :: a5 :: a6 :: a7 :: l) w (by simp) (by simpa using hr)
    have hm0 : rdAt (a0 :: a1 :: a2 :: a3 :: a4 :: a5 :: a6 :: a7 :: l) 0 = rd4 a0 a1 a2 a3 := rfl
    have hm4 : rdAt (a0 :: a1 :: a2 :: a3 :: a4 :: a5 :: a6 :: a7 :: l) 4 = rd4 a4 a5 a6 a7 := rfl
    have hlt := rd4_lt a0 a1 a2 a3
    have hlen : (a0 :: a1 :: a2 :: a3 :: a4 :: a5 :: a6 :: a7 :: l).length = l.length + 8 := rfl
    rw [hlen] at hsm hc
    rw [show (a0 :: a1 :: a2 :: a3 :: a4 :: a5 :: a6 :: a7 :: l).length = l.length + 8 from rfl]
    by_cases h30 : 65536 < rd4 a0 a1 a2 a3
    · refine (open_m30 A (l.length + 8) cap (rd4 a0 a1 a2 a3) w (by omega) hsm h30 hlt hread).mono ?_
      rintro e w' ⟨rfl, k, rfl⟩
      have he : openErr (a0 :: a1 :: a2 :: a3 :: a4 :: a5 :: a6 :: a7 :: l) = 30 := by
        unfold openErr; rw [if_neg (by rw [hlen]; omega), hm0, if_pos h30]
      have hz : openErr (a0 :: a1 :: a2 :: a3 :: a4 :: a5 :: a6 :: a7 :: l) ≠ 0 := by rw [he]; decide
      refine ⟨_, ret_vii (openLen_no hz).symm he.symm, ?_, below_drewN (Below.refl _ _) _⟩
      rw [openLoad_no hz]
      exact full_nil _ _
    by_cases h31 : l.length < rd4 a0 a1 a2 a3
    · refine (open_m31 A (l.length + 8) cap (rd4 a0 a1 a2 a3) w (by omega) hsm (by omega) (by omega) hread).mono ?_
      rintro e w' ⟨rfl, k, rfl⟩
      have he : openErr (a0 :: a1 :: a2 :: a3 :: a4 :: a5 :: a6 :: a7 :: l) = 31 := by
        unfold openErr; rw [if_neg (by rw [hlen]; omega), hm0, if_neg h30, hlen, if_pos (by omega)]
      have hz : openErr (a0 :: a1 :: a2 :: a3 :: a4 :: a5 :: a6 :: a7 :: l) ≠ 0 := by rw [he]; decide
      refine ⟨_, ret_vii (openLen_no hz).symm he.symm, ?_, below_drewN (Below.refl _ _) _⟩
      rw [openLoad_no hz]
      exact full_nil _ _
    have hr4 : Cells w A (byts [a0, a1, a2, a3]) := hr.bsub 0 4 (by rw [hlen]; omega) A (fun _ ad e => by subst e; rfl)
    have hr8 : ∀ A', (∀ ad, A = some ad → A' = some (ad.add 4)) → Cells w A' (byts (a4 :: a5 :: a6 :: a7 :: l)) := fun A' hA => by
      have := hr.bsub 4 (l.length + 4) (by rw [hlen]; omega) A' (fun _ ad e => hA ad e)
      rwa [List.take_of_length_le (by simp)] at this
    have hrl : ∀ A', (0 < rd4 a0 a1 a2 a3 → ∀ ad, A = some ad → A' = some (ad.add 8)) → Cells w A' (byts (l.take (rd4 a0 a1 a2 a3))) := fun A' hA =>
      hr.bsub 8 (rd4 a0 a1 a2 a3) (by rw [hlen]; omega) A' hA
    have hll : rd4 a0 a1 a2 a3 = (l.take (rd4 a0 a1 a2 a3)).length := by simp; omega
    by_cases hs : (crcSum ([a0, a1, a2, a3] ++ l.take (rd4 a0 a1 a2 a3))).toNat = rd4 a4 a5 a6 a7
    · have he : openErr (a0 :: a1 :: a2 :: a3 :: a4 :: a5 :: a6 :: a7 :: l) = 0 := by
        unfold openErr; rw [if_neg (by rw [hlen]; omega), hm0, if_neg h30, hlen, if_neg (by omega), hm4, if_neg (by simpa using hs)]
      refine (open_m0 A (l.length + 8) cap (rd4 a0 a1 a2 a3) (rd4 a4 a5 a6 a7) _ w [] [a0, a1, a2, a3] l (l.take (rd4 a0 a1 a2 a3)) a4 a5 a6 a7 (by omega) hc hsm (by omega) (by omega) hread rfl rfl hll hr4 hr8 hrl rfl rfl (by simp only [u32, hs]; simp)).mono ?_
      rintro e w' ⟨v, rfl, hv, hb⟩
      refine ⟨v, ?_, ?_, hb⟩
      · exact ret_vii (by rw [openLen_ok he, hm0]) he.symm
      · rw [openLoad_ok he, hm0]; exact hv
    · have he : openErr (a0 :: a1 :: a2 :: a3 :: a4 :: a5 :: a6 :: a7 :: l) = 32 := by
        unfold openErr; rw [if_neg (by rw [hlen]; omega), hm0, if_neg h30, hlen, if_neg (by omega), hm4, if_pos (by simpa using hs)]
      refine (open_m32 A (l.length + 8) cap (rd4 a0 a1 a2 a3) (rd4 a4 a5 a6 a7) _ w [] [a0, a1, a2, a3] l (l.take (rd4 a0 a1 a2 a3)) a4 a5 a6 a7 (by omega) hc hsm (by omega) (by omega) hread rfl rfl hll hr4 hr8 hrl rfl rfl (by simp only [u32, beq_eq_false_iff_ne, ne_eq]; omega)).mono ?_
      rintro e w' ⟨v, rfl, hv, hb⟩
      refine ⟨v, ?_, ?_, hb⟩
      · exact ret_vii (openLen_no (by rw [he]; decide)).symm he.symm
      · rw [openLoad_no (by rw [he]; decide)]; exact hv

/-! ### Scan -/
theorem openLen_le {b : List UInt8} (h : openErr b = 0) : 8 ≤ openLen b ∧ openLen b ≤ b.length := by
  rw [openLen, if_pos h]
  unfold openErr at h
  split at h
  · simp at h
  · split at h
    · simp at h
    · split at h
      · simp at h
      · omega
/-- The loads of the frames with which bytes begin, and how many bytes these have. -/
def scanF : Nat → List UInt8 → List (List UInt8) × Nat
  | 0, _ => ([], 0)
  | f + 1, b => if openErr b = 0 then (openLoad b :: (scanF f (b.drop (openLen b))).1, openLen b + (scanF f (b.drop (openLen b))).2) else ([], 0)
def scanOf (b : List UInt8) : List (List UInt8) × Nat := scanF (b.length + 1) b
theorem scanF_fuel : ∀ (k : Nat) (b : List UInt8), b.length < k → ∀ j, b.length < j → scanF k b = scanF j b
  | 0, b, h, j, hj => by omega
  | k + 1, b, h, 0, hj => by omega
  | k + 1, b, h, j + 1, hj => by
    unfold scanF
    by_cases he : openErr b = 0
    · have := openLen_le he
      rw [if_pos he, if_pos he, scanF_fuel k (b.drop (openLen b)) (by simp; omega) j (by simp; omega)]
    · rw [if_neg he, if_neg he]
theorem scanOf_ok {b : List UInt8} (h : openErr b = 0) : scanOf b = (openLoad b :: (scanOf (b.drop (openLen b))).1, openLen b + (scanOf (b.drop (openLen b))).2) := by
  have hl := openLen_le h
  unfold scanOf
  rw [scanF, if_pos h, scanF_fuel b.length (b.drop (openLen b)) (by simp; omega) _ (Nat.lt_succ_self _)]
theorem scanOf_no {b : List UInt8} (h : openErr b ≠ 0) : scanOf b = ([], 0) := by
  unfold scanOf; rw [scanF, if_neg h]
theorem scanOf_le : ∀ (n : Nat) (b : List UInt8), b.length ≤ n → (scanOf b).2 ≤ b.length ∧ 8 * (scanOf b).1.length ≤ (scanOf b).2
  | n, b, h => by
    by_cases he : openErr b = 0
    · have hl := openLen_le he
      rw [scanOf_ok he]
      cases n with
      | zero => omega
      | succ n =>
        have := scanOf_le n (b.drop (openLen b)) (by simp; omega)
        simp only [List.length_drop, List.length_cons] at this ⊢
        omega
    · rw [scanOf_no he]; simp

/-- A list of byte slices, each without room. -/
structure Loads (w : World) (base : Nat) (v : Value) (ls : List (List UInt8)) : Prop where
  row : ∃ vs : List Value, Row w base 22 1 v ls.length vs ∧ ∀ (i : Nat) (u : Value) (l : List UInt8), vs[i]? = some u → ls[i]? = some l → Full w base u l
theorem Full.below {w w' : World} {base : Nat} {v : Value} {l : List UInt8} (h : Full w base v l) (hb : Below w.heap.size w w') : Full w' base v l := by
  obtain ⟨A, rfl, hc, hA⟩ := h
  exact ⟨A, rfl, hc.below hb, fun ad e => ⟨(hA ad e).1, (hA ad e).2.below hb⟩⟩
/-- What is written elsewhere. -/
theorem Full.grown {w w' : World} {base : Nat} {v : Value} {l : List UInt8} {row : Option Nat} (h : Full w base v l) (hg : w.grownBy w' row) (hne : v.ownBlock = none ∨ v.ownBlock ≠ row) : Full w' base v l := by
  obtain ⟨A, rfl, hc, hA⟩ := h
  have hq : ∀ ad, A = some ad → some ad.block ≠ row := fun ad e => by subst e; simpa [Value.ownBlock] using hne
  exact ⟨A, rfl, hc.grown hg (.inr hq), fun ad e => ⟨(hA ad e).1, (hA ad e).2.same (hg.block _ (hA ad e).2.lt (hq ad e))⟩⟩
theorem Full.mono {w : World} {base base' : Nat} {v : Value} {l : List UInt8} (h : Full w base v l) (hb : base' ≤ base) : Full w base' v l := by
  obtain ⟨A, rfl, hc, hA⟩ := h
  exact ⟨A, rfl, hc, fun ad e => ⟨Nat.le_trans hb (hA ad e).1, (hA ad e).2⟩⟩
theorem Loads.below {w w' : World} {base : Nat} {v : Value} {ls : List (List UInt8)} (h : Loads w base v ls) (hb : Below w.heap.size w w') : Loads w' base v ls := by
  obtain ⟨vs, hr, hf⟩ := h.row
  exact ⟨vs, hr.below hb, fun i u l h1 h2 => (hf i u l h1 h2).below hb⟩
theorem loads_nil (w : World) (base : Nat) : Loads w base (.slice none 0 0) [] := ⟨[], Row.nil _ _ _ _, fun i u l h => by simp at h⟩
end Go.Proofs.Ytimjadjopemefaa
