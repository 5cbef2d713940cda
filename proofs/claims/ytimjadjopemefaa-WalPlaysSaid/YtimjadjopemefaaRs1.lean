/- moietyref03.Sum: the register of 32 bits. -/
import Derived.Test.YtimjadjopemefaaFr1
import Derived.StillTailTactics
set_option linter.unusedVariables false
set_option linter.unusedSimpArgs false
namespace Go.Proofs.Ytimjadjopemefaa
open Go.RowKit
attribute [local go_sem] str_size str_get

/-! ### 32 cells of Bools -/
def regCells (f : Nat → Bool) : Array Value := ((List.range 32).map fun i => Value.bool (f i)).toArray
def Reg (w : World) (B : Nat) (f : Nat → Bool) : Prop := w.heap[B]? = some (.cells (regCells f) 116 (0, 0))
def upd (f : Nat → Bool) (k : Nat) (v : Bool) : Nat → Bool := fun i => if i = k then v else f i
theorem regCells_get (f : Nat → Bool) (k : Nat) (h : k < 32) : (regCells f)[k]? = some (.bool (f k)) := by
  simp [regCells, h]
theorem Reg.cell {w : World} {B : Nat} {f : Nat → Bool} (h : Reg w B f) (k : Nat) (hk : k < 32) : w.cell? ⟨B, k, none⟩ = some (.bool (f k)) := by
  rw [cell_of_row w B k _ 116 (0, 0) h, regCells_get f k hk]
theorem Reg.free {w : World} {B : Nat} {f : Nat → Bool} (h : Reg w B f) (k : Nat) : w.frozen? ⟨B, k, none⟩ = false := by
  unfold Reg at h
  simp [World.frozen?, h]
theorem Reg.set {w : World} {B : Nat} {f : Nat → Bool} (h : Reg w B f) (k : Nat) (hk : k < 32) (v : Bool) : Reg (w.setCell ⟨B, k, none⟩ (.bool v)) B (upd f k v) := by
  unfold Reg at *
  rw [heap_setCell_same w B k (regCells f) 116 (.bool v) h]
  congr 2
  apply Array.ext_getElem?
  intro i
  rw [Array.getElem?_setIfInBounds]
  by_cases hi : i < 32
  · rw [regCells_get _ _ hi]
    by_cases e : k = i
    · subst e; simp [upd, regCells, hk]
    · rw [if_neg e, regCells_get _ _ hi]; simp [upd, Ne.symm e]
  · have e : k ≠ i := by omega
    rw [if_neg e]
    simp [regCells, hi]
theorem Reg.congr {w : World} {B : Nat} {f g : Nat → Bool} (h : Reg w B f) (hfg : ∀ i, i < 32 → f i = g i) : Reg w B g := by
  unfold Reg at *
  rw [h]
  congr 2
  apply Array.ext_getElem?
  intro i
  by_cases hi : i < 32
  · rw [regCells_get _ _ hi, regCells_get _ _ hi, hfg i hi]
  · simp [regCells, hi]

def bat (c : BitVec 32) (i : Nat) : Bool := c.getLsbD i
def poly : BitVec 32 := 0xedb88320#32
theorem bitOf (b : UInt8) (k : Nat) (h : k < 8) : (bits .and .u8 ((b.toNat : Int) / 2 ^ k) 1 == 1) = b.toNat.testBit k := by
  have hb := b.toNat_lt
  have hq : (b.toNat : Int) / 2 ^ k = ((b.toNat / 2 ^ k : Nat) : Int) := by simp
  have hle : b.toNat / 2 ^ k ≤ b.toNat := Nat.div_le_self _ _
  have hm := bits_mask .u8 8 (by decide) wraps_u8 1 (by decide) ((b.toNat / 2 ^ k : Nat) : Int) (Int.natCast_nonneg _) (by omega)
  rw [hq, show (1 : Int) = 2 ^ 1 - 1 from rfl, hm, Nat.testBit_eq_decide_div_mod_eq]
  generalize b.toNat / 2 ^ k = q
  rw [Bool.eq_iff_iff]
  simp
  omega
theorem polyOf (k : Nat) (h : k < 32) : (bits .and .i64 ((3988292384 : Int) / 2 ^ k) 1 == 1) = bat poly k := by
  have : ∀ k : Fin 32, (bits .and .i64 ((3988292384 : Int) / 2 ^ k.val) 1 == 1) = bat poly k.val := by decide +kernel
  exact this ⟨k, h⟩
theorem reg_in (c : BitVec 32) (b : UInt8) (j : Nat) (h : j < 32) : (bat c j != (decide (j < 8) && b.toNat.testBit j)) = bat (c ^^^ BitVec.ofNat 32 b.toNat) j := by
  unfold bat
  rw [BitVec.getLsbD_xor, BitVec.getLsbD_ofNat]
  by_cases h8 : j < 8
  · simp [h8, h]
  · have : b.toNat.testBit j = false := Nat.testBit_lt_two_pow (Nat.lt_of_lt_of_le b.toNat_lt (Nat.pow_le_pow_right (by decide) (by omega)))
    simp [this]
theorem upd_in (c : BitVec 32) (b : UInt8) (m i : Nat) (hi : i < 32) : upd (fun j => bat c j != (decide (j < m) && b.toNat.testBit j)) m (!bat c m == b.toNat.testBit m) i = (bat c i != (decide (i < m + 1) && b.toNat.testBit i)) := by
  unfold upd
  by_cases e : i = m
  · subst e
    rw [if_pos rfl]
    cases bat c i <;> cases b.toNat.testBit i <;> simp
  · rw [if_neg e]
    have : (i < m + 1) ↔ (i < m) := by omega
    simp [this]
theorem upd_sh (c : BitVec 32) (j i : Nat) (hi : i < 32) : upd (fun i => if i < j then bat c (i + 1) else bat c i) j (bat c (j + 1)) i = (if i < j + 1 then bat c (i + 1) else bat c i) := by
  unfold upd
  by_cases e : i = j
  · subst e
    rw [if_pos rfl, if_pos (by omega)]
  · rw [if_neg e]
    have : (i < j + 1) ↔ (i < j) := by omega
    simp only [this]
theorem upd_31 (c : BitVec 32) (i : Nat) (hi : i < 32) : upd (fun i => if i < 31 then bat c (i + 1) else bat c i) 31 false i = (decide (i < 31) && bat c (i + 1)) := by
  unfold upd
  by_cases e : i = 31
  · subst e; simp
  · rw [if_neg e]
    have : i < 31 := by omega
    simp [this]
theorem upd_po (c : BitVec 32) (j i : Nat) (hi : i < 32) : upd (fun i => (decide (i < 31) && bat c (i + 1)) != (decide (i < j) && bat poly i)) j (!(decide (j < 31) && bat c (j + 1)) == bat poly j) i = ((decide (i < 31) && bat c (i + 1)) != (decide (i < j + 1) && bat poly i)) := by
  unfold upd
  by_cases e : i = j
  · subst e
    rw [if_pos rfl]
    have h1 : i < i + 1 := by omega
    simp only [h1, decide_true, Bool.true_and]
    cases (decide (i < 31) && bat c (i + 1)) <;> cases bat poly i <;> rfl
  · rw [if_neg e]
    have : (i < j + 1) ↔ (i < j) := by omega
    simp only [this]
theorem low_and (c : BitVec 32) : c &&& 1#32 = if c.getLsbD 0 then 1#32 else 0#32 := by
  apply BitVec.eq_of_getLsbD_eq
  intro i hi
  rw [BitVec.getLsbD_and]
  by_cases h0 : i = 0
  · subst h0; cases h : c.getLsbD 0 <;> simp
  · have h1 : (1#32).getLsbD i = false := by
      rw [BitVec.getLsbD_one]; simp [h0]
    rw [h1, Bool.and_false]
    split
    · exact h1.symm
    · simp
theorem reg_bit (c : BitVec 32) (j : Nat) (h : j < 32) : bat (crcBit c) j = ((decide (j < 31) && bat c (j + 1)) != (bat c 0 && bat poly j)) := by
  unfold bat crcBit
  rw [low_and, BitVec.getLsbD_xor, BitVec.getLsbD_ushiftRight, BitVec.getLsbD_and]
  have h1 : c.getLsbD (1 + j) = (decide (j < 31) && c.getLsbD (j + 1)) := by
    by_cases hj : j < 31
    · simp [hj, Nat.add_comm]
    · have : c.getLsbD (1 + j) = false := BitVec.getLsbD_of_ge c _ (by omega)
      rw [this]; simp [hj]
  rw [h1]
  cases hc : c.getLsbD 0
  · simp
  · have h2 : (-(1#32)).getLsbD j = true := by
      have : -(1#32) = BitVec.allOnes 32 := by decide
      rw [this, BitVec.getLsbD_allOnes]; simp [h]
    simp only [if_true, Bool.true_and]
    rw [h2]; rfl
def outN (c : BitVec 32) (j : Nat) : Nat := (~~~ c).toNat % 2 ^ j
theorem outN_zero (c : BitVec 32) : outN c 0 = 0 := by simp [outN, Nat.mod_one]
theorem outN_lt (c : BitVec 32) (j : Nat) : outN c j < 4294967296 := Nat.lt_of_le_of_lt (Nat.mod_le _ _) (~~~ c).isLt
theorem outN_step (c : BitVec 32) (k : Nat) (h : k < 32) : outN c (k + 1) = outN c k + (if bat c k then 0 else 2 ^ k) := by
  unfold outN bat
  rw [Nat.pow_succ, Nat.mod_mul]
  have hb : (~~~ c).toNat.testBit k = !c.getLsbD k := by
    have := BitVec.getLsbD_not (x := c) (i := k)
    simp only [h, decide_true, Bool.true_and] at this
    exact this
  rw [Nat.testBit_eq_decide_div_mod_eq] at hb
  generalize (~~~ c).toNat / 2 ^ k = q at *
  have h2 : q % 2 < 2 := Nat.mod_lt _ (by decide)
  cases hc : c.getLsbD k
  · rw [hc] at hb
    have : q % 2 = 1 := by simpa using hb
    rw [this]; simp
  · rw [hc] at hb
    have : q % 2 = 0 := by have h3 : ¬ q % 2 = 1 := by simpa using hb
                           omega
    rw [this]; simp
theorem outN_all (c : BitVec 32) : outN c 32 = (~~~ c).toNat := Nat.mod_eq_of_lt (~~~ c).isLt
theorem outN_int (c : BitVec 32) (k : Nat) (h : k < 32) (hb : bat c k = false) : ((outN c k : Int) + 2 ^ k % 4294967296) % 4294967296 = (outN c (k + 1) : Int) := by
  have h1 := outN_step c k h
  have h2 := outN_lt c (k + 1)
  have h3 : (2 : Int) ^ k = ((2 ^ k : Nat) : Int) := by simp
  have h4 : 2 ^ k < 4294967296 := Nat.lt_of_lt_of_le (Nat.pow_lt_pow_right (by decide) h) (by decide)
  rw [hb] at h1
  rw [h3]
  generalize 2 ^ k = p at *
  simp at h1
  omega
theorem reg_e1 {wr : World} {B k : Nat} (l : List UInt8) (h : Reg wr B (fun j => decide (j < k))) (hk : ¬ k < 32) : Reg wr B (bat (crcOn (BitVec.allOnes 32) (l.take 0))) :=
  h.congr fun i hi => by
    have : i < k := by omega
    simp only [bat, List.take_zero, crcOn, List.foldl_nil, BitVec.getLsbD_allOnes]; simp [this, hi]
theorem reg_e2 {wr : World} {B m : Nat} (c : BitVec 32) (b : UInt8) (h : Reg wr B (fun j => bat c j != (decide (j < m) && b.toNat.testBit j))) (hm : m ≤ 8) (hm2 : ¬ m < 8) : Reg wr B (bat (crcBits 0 (c ^^^ BitVec.ofNat 32 b.toNat))) := by
  obtain rfl : m = 8 := by omega
  exact h.congr fun i hi => reg_in c b i hi
theorem reg_e3 {wr : World} {B j : Nat} (c : BitVec 32) (h : Reg wr B (fun i => if i < j then bat c (i + 1) else bat c i)) (hj : j ≤ 31) (hj2 : ¬ j < 31) : Reg (wr.setCell ⟨B, 31, none⟩ (.bool false)) B (fun i => decide (i < 31) && bat c (i + 1)) := by
  obtain rfl : j = 31 := by omega
  exact (h.set 31 (by omega) false).congr (upd_31 c)
theorem reg_e4 {wr : World} {B m : Nat} (c c2 : BitVec 32) (h : Reg wr B (fun i => decide (i < 31) && bat c2 (i + 1))) (hc : c2 = crcBits m c) (hlow : bat c2 0 = false) : Reg wr B (bat (crcBits (m + 1) c)) :=
  h.congr fun i hi => by rw [crcBits_succ, ← hc, reg_bit c2 i hi, hlow]; simp
theorem reg_e5 {wr : World} {B m j : Nat} (c c2 : BitVec 32) (h : Reg wr B (fun i => (decide (i < 31) && bat c2 (i + 1)) != (decide (i < j) && bat poly i))) (hc : c2 = crcBits m c) (hlow : bat c2 0 = true) (hj : ¬ j < 32) : Reg wr B (bat (crcBits (m + 1) c)) :=
  h.congr fun i hi => by
    have : i < j := by omega
    rw [crcBits_succ, ← hc, reg_bit c2 i hi, hlow]; simp [this]
theorem reg_e6 {wr : World} {B m k : Nat} (l : List UInt8) (c c1 : BitVec 32) (h : Reg wr B (bat (crcBits m c1))) (hlt : k < l.length) (hc : c = crcOn (BitVec.allOnes 32) (l.take k)) (hc1 : c1 = c ^^^ BitVec.ofNat 32 l[k].toNat) (hm : m ≤ 8) (hm2 : ¬ m < 8) : Reg wr B (bat (crcOn (BitVec.allOnes 32) (l.take (k + 1)))) := by
  obtain rfl : m = 8 := by omega
  exact h.congr fun i hi => by rw [crcOn_take _ l k hlt, ← hc, hc1]; rfl

set_option maxRecDepth 100000 in
set_option maxHeartbeats 2000000 in
theorem refsum_calls (l : List UInt8) (w : World) (hl : l.length ≤ 1000000000) :
    Calls Try.prog 26 #[.string (str l)] w fun e w' => e = .returned (.int .u32 (u32 (crcSum l))) ∧ Below w.heap.size w w' := by
  go_enter Try.func26, Try.ntmps26
  go_wp2
  go_loopw [4] (fun i wr => ∃ k : Nat, k ≤ 32 ∧ i = .int .i64 k ∧ Reg wr w.heap.size (fun j => decide (j < k)) ∧ Below w.heap.size w wr) (fun i _ => 32 - (intOf i).toNat)
  case atStart => exact ⟨0, by omega, rfl, heap_alloc_new w _, (Below.refl _ _).alloc (Nat.le_refl _) _⟩
  case round =>
    obtain ⟨k, hk, rfl, hreg, hbel⟩ := hrel
    by_cases hlt : k < 32
    · have hc := hreg.cell k hlt
      have hf := hreg.free k
      go_wp2
      go_roundw
      case rel => exact ⟨k + 1, by omega, by go_num, (hreg.set k hlt true).congr (fun i hi => by simp only [upd]; by_cases e : i = k; · subst e; simp
                                                                                                 · rw [if_neg e]; simp; omega), hbel.setCell (Nat.le_refl _) _⟩
      case measure => simp [intOf]; omega
    · go_wp2
      have hreg2 := reg_e1 l hreg hlt
      obtain ⟨wo, rfl⟩ : ∃ wo : World, wo = wr := ⟨_, rfl⟩
      clear hreg
      go_loopw [5] (fun i wr => ∃ k : Nat, k ≤ l.length ∧ i = .int .i64 k ∧ Reg wr w.heap.size (bat (crcOn (BitVec.allOnes 32) (l.take k))) ∧ Below w.heap.size w wr) (fun i _ => l.length - (intOf i).toNat)
      case atStart => exact ⟨0, by omega, rfl, hreg2, hbel⟩
      case round =>
        clear hreg2 hbel
        obtain ⟨k, hk, rfl, hreg, hbel⟩ := hrel
        by_cases hlt : k < l.length
        · obtain ⟨c, hcc⟩ : ∃ c, c = crcOn (BitVec.allOnes 32) (l.take k) := ⟨_, rfl⟩
          rw [← hcc] at hreg
          have HCC := Lib.hid hcc
          clear hcc
          go_wp2
          obtain ⟨wo, rfl⟩ : ∃ wo : World, wo = wr := ⟨_, rfl⟩
          go_loopw [6] (fun i wr => ∃ m : Nat, m ≤ 8 ∧ i = .int .i64 m ∧ Reg wr w.heap.size (fun j => bat c j != (decide (j < m) && l[k].toNat.testBit j)) ∧ Below w.heap.size w wr) (fun i _ => 8 - (intOf i).toNat)
          case atStart => exact ⟨0, by omega, rfl, hreg.congr (fun i hi => by simp), hbel⟩
          case round =>
            clear hreg hbel
            obtain ⟨m, hm, rfl, hreg, hbel⟩ := hrel
            by_cases hlt2 : m < 8
            · have hc := hreg.cell m (by omega)
              have hf := hreg.free m
              have hbit := bitOf l[k] m hlt2
              go_wp2
              go_region
              go_wp2
              go_roundw
              case rel => exact ⟨m + 1, by omega, by go_num, ((hreg.set m (by omega) _).congr (upd_in c l[k] m)), (hbel.setCell (Nat.le_refl _) _).drew⟩
              case measure => simp [intOf]; omega
            · have hreg3 := reg_e2 c l[k] hreg hm hlt2
              clear hreg
              obtain ⟨c1, hc1⟩ : ∃ c1, c1 = c ^^^ BitVec.ofNat 32 l[k].toNat := ⟨_, rfl⟩
              rw [← hc1] at hreg3
              have HC1 := Lib.hid hc1
              clear hc1
              go_wp2
              obtain ⟨wo2, rfl⟩ : ∃ wo : World, wo = wr := ⟨_, rfl⟩
              go_loopw [7] (fun i wr => ∃ m : Nat, m ≤ 8 ∧ i = .int .i64 m ∧ Reg wr w.heap.size (bat (crcBits m c1)) ∧ Below w.heap.size w wr) (fun i _ => 8 - (intOf i).toNat)
              case atStart => exact ⟨0, by omega, rfl, hreg3, hbel⟩
              case round =>
                clear hreg3 hbel
                obtain ⟨m, hm, rfl, hreg, hbel⟩ := hrel
                by_cases hlt2 : m < 8
                · obtain ⟨c2, hc2⟩ : ∃ c2, c2 = crcBits m c1 := ⟨_, rfl⟩
                  rw [← hc2] at hreg
                  have HC2 := Lib.hid hc2
                  clear hc2
                  have hc := hreg.cell 0 (by omega)
                  have hd8 : decide ((m : Int) < 8) = true := by simp; omega
                  go_wp2
                  obtain ⟨wo3, rfl⟩ : ∃ wo : World, wo = wr := ⟨_, rfl⟩
                  go_loopw [9] (fun i wr => ∃ j : Nat, j ≤ 31 ∧ i = .int .i64 j ∧ Reg wr w.heap.size (fun i => if i < j then bat c2 (i + 1) else bat c2 i) ∧ Below w.heap.size w wr) (fun i _ => 31 - (intOf i).toNat)
                  case atStart => exact ⟨0, by omega, rfl, hreg.congr (fun i hi => by simp), hbel⟩
                  case round =>
                    clear hreg hbel hc
                    obtain ⟨j, hj, rfl, hreg, hbel⟩ := hrel
                    by_cases hlt3 : j < 31
                    · have hc := hreg.cell (j + 1) (by omega)
                      rw [if_neg (by omega)] at hc
                      obtain ⟨old, hold⟩ : ∃ o, wr.cell? ⟨w.heap.size, j, none⟩ = some o := ⟨_, hreg.cell j (by omega)⟩
                      have hf := hreg.free j
                      go_wp2
                      go_roundw
                      case rel => exact ⟨j + 1, by omega, by go_num, ((hreg.set j (by omega) _).congr (upd_sh c2 j)), (hbel.setCell (Nat.le_refl _) _)⟩
                      case measure => simp [intOf]; omega
                    · obtain ⟨old, hold⟩ : ∃ o, wr.cell? ⟨w.heap.size, 31, none⟩ = some o := ⟨_, hreg.cell 31 (by omega)⟩
                      have hf := hreg.free 31
                      go_wp2
                      have hreg5 := reg_e3 c2 hreg hj hlt3
                      have hbel5 := hbel.setCell (p := ⟨w.heap.size, 31, none⟩) (Nat.le_refl _) (.bool false)
                      generalize wr.setCell ⟨w.heap.size, 31, none⟩ (.bool false) = wo4 at hreg5 hbel5
                      clear hreg hbel hold hf
                      cases hlow : bat c2 0
                      · go_loopw [10] (fun i wr => i = .int .i64 0 ∧ Reg wr w.heap.size (fun i => decide (i < 31) && bat c2 (i + 1)) ∧ Below w.heap.size w wr) (fun i _ => 32 - (intOf i).toNat)
                        case atStart => exact ⟨rfl, hreg5, hbel5⟩
                        case round =>
                          obtain ⟨rfl, hreg, hbel⟩ := hrel
                          go_wp2
                          go_roundw
                          case rel => exact ⟨m + 1, by omega, by go_num, reg_e4 c1 c2 hreg HC2.out hlow, hbel⟩
                          case measure => simp [intOf]; omega
                      · go_loopw [10] (fun i wr => ∃ j : Nat, j ≤ 32 ∧ i = .int .i64 j ∧ Reg wr w.heap.size (fun i => (decide (i < 31) && bat c2 (i + 1)) != (decide (i < j) && bat poly i)) ∧ Below w.heap.size w wr) (fun i _ => 32 - (intOf i).toNat)
                        case atStart => exact ⟨0, by omega, rfl, hreg5.congr (fun i hi => by simp), hbel5⟩
                        case round =>
                          clear hreg5 hbel5
                          obtain ⟨j, hj, rfl, hreg, hbel⟩ := hrel
                          by_cases hlt4 : j < 32
                          · have hc := hreg.cell j (by omega)
                            have hf := hreg.free j
                            have hbit := polyOf j hlt4
                            go_wp2
                            go_roundw
                            case rel => exact ⟨j + 1, by omega, by go_num, ((hreg.set j (by omega) _).congr (upd_po c2 j)), (hbel.setCell (Nat.le_refl _) _)⟩
                            case measure => simp [intOf]; omega
                          · go_wp2
                            go_roundw
                            case rel => exact ⟨m + 1, by omega, by go_num, reg_e5 c1 c2 hreg HC2.out hlow hlt4, hbel⟩
                            case measure => simp [intOf]; omega
                · go_wp2
                  go_roundw
                  case rel => exact ⟨k + 1, by omega, by go_num, reg_e6 l c c1 hreg hlt HCC.out HC1.out hm hlt2, hbel⟩
                  case measure => simp [intOf]; omega
        · have hreg9 : Reg wr w.heap.size (bat (crcOn (BitVec.allOnes 32) l)) := hreg.congr (fun i hi => by rw [List.take_of_length_le (by omega)])
          clear hreg
          obtain ⟨c, hcc⟩ : ∃ c, c = crcOn (BitVec.allOnes 32) l := ⟨_, rfl⟩
          rw [← hcc] at hreg9
          have HCC := Lib.hid hcc
          clear hcc
          go_wp2
          obtain ⟨wo, rfl⟩ : ∃ wo : World, wo = wr := ⟨_, rfl⟩
          go_loop [11, 12] (fun x i => ∃ j : Nat, j ≤ 32 ∧ i = .int .i64 j ∧ x = .int .u32 (outN c j : Int)) (fun _ i => 32 - (intOf i).toNat)
          case atStart => exact ⟨0, by omega, rfl, by rw [outN_zero]; rfl⟩
          case round =>
            obtain ⟨j, hj, rfl, rfl⟩ := hrel
            by_cases hlt4 : j < 32
            · have hc := hreg9.cell j (by omega)
              have hout := outN_lt c j
              cases hb : bat c j
              · rw [hb] at hc
                go_wp2
                go_round
                case rel => exact ⟨j + 1, by omega, by go_num, by rw [outN_int c j hlt4 hb]⟩
                case measure => simp [intOf]; omega
              · rw [hb] at hc
                go_wp2
                go_round
                case rel => exact ⟨j + 1, by omega, by go_num, by rw [outN_step c j hlt4, hb]; rfl⟩
                case measure => simp [intOf]; omega
            · go_wp2
              go_ret
              refine ⟨ret_u32 ?_, hbel⟩
              obtain rfl : j = 32 := by omega
              rw [outN_all, HCC.out]; rfl
end Go.Proofs.Ytimjadjopemefaa
