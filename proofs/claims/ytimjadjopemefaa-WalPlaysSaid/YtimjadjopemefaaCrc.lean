/- The check sum of bytes as plain Lean: BitVec 32 over a list of bytes, and its tie to the model's integers. -/
import Derived.Laws.BitsAllLaws
import Derived.Laws.BitsLemmas
namespace Go.Proofs.Ytimjadjopemefaa

def crcBit (c : BitVec 32) : BitVec 32 := (c >>> 1) ^^^ ((-(c &&& 1#32)) &&& 0xedb88320#32)
def crcBits : Nat → BitVec 32 → BitVec 32
  | 0, c => c
  | n + 1, c => crcBits n (crcBit c)
def crcByte (c : BitVec 32) (b : UInt8) : BitVec 32 := crcBits 8 (c ^^^ BitVec.ofNat 32 b.toNat)
def crcOn (c : BitVec 32) (l : List UInt8) : BitVec 32 := l.foldl crcByte c
def crcSum (l : List UInt8) : BitVec 32 := ~~~ crcOn (BitVec.allOnes 32) l
def u32 (c : BitVec 32) : Int := (c.toNat : Int)

theorem crcBits_succ (n : Nat) (c : BitVec 32) : crcBits (n + 1) c = crcBit (crcBits n c) := by
  induction n generalizing c with
  | zero => rfl
  | succ n ih => rw [crcBits, ih (crcBit c)]; rfl
theorem crcOn_append (c : BitVec 32) (l m : List UInt8) : crcOn c (l ++ m) = crcOn (crcOn c l) m := by simp [crcOn]
theorem u32_range (c : BitVec 32) : 0 ≤ u32 c ∧ u32 c < 4294967296 := by
  unfold u32; have := c.isLt; omega
theorem u32_inj {a b : BitVec 32} (h : u32 a = u32 b) : a = b := by
  unfold u32 at h; apply BitVec.eq_of_toNat_eq; omega
theorem ofInt_u32' (a : BitVec 32) : BitVec.ofInt 32 (u32 a) = a := by
  unfold u32
  rw [BitVec.ofInt_natCast]
  simp
theorem wrap_u32' (a : BitVec 32) : IntKind.u32.wrap (a.toNat : Int) = u32 a := by
  rw [Go.IntKind.wrap_u32]; unfold u32; have := a.isLt; omega
theorem bits_xor_u32 (a b : BitVec 32) : bits .xor .u32 (u32 a) (u32 b) = u32 (a ^^^ b) := by
  show IntKind.u32.wrap ((BitVec.ofInt 32 (u32 a) ^^^ BitVec.ofInt 32 (u32 b)).toNat : Int) = _
  rw [ofInt_u32', ofInt_u32', wrap_u32']
theorem bits_and_u32 (a b : BitVec 32) : bits .and .u32 (u32 a) (u32 b) = u32 (a &&& b) := by
  show IntKind.u32.wrap ((BitVec.ofInt 32 (u32 a) &&& BitVec.ofInt 32 (u32 b)).toNat : Int) = _
  rw [ofInt_u32', ofInt_u32', wrap_u32']
theorem bits_or_u32 (a b : BitVec 32) : bits .or .u32 (u32 a) (u32 b) = u32 (a ||| b) := by
  show IntKind.u32.wrap ((BitVec.ofInt 32 (u32 a) ||| BitVec.ofInt 32 (u32 b)).toNat : Int) = _
  rw [ofInt_u32', ofInt_u32', wrap_u32']
theorem neg_u32 (a : BitVec 32) : (-(u32 a)) % 4294967296 = u32 (-a) := by
  unfold u32; rw [BitVec.toNat_neg]; have := a.isLt
  by_cases h : a.toNat = 0
  · rw [h]; simp
  · rw [Nat.mod_eq_of_lt (by omega)]; omega
theorem shr_u32 (a : BitVec 32) : u32 a / (2 : Int) = u32 (a >>> 1) := by
  unfold u32; rw [BitVec.toNat_ushiftRight, Nat.shiftRight_eq_div_pow]; omega
theorem byte_u32 (b : UInt8) : (b.toNat : Int) = u32 (BitVec.ofNat 32 b.toNat) := by
  unfold u32; rw [BitVec.toNat_ofNat]; have := b.toNat_lt; omega
theorem crcBit_int (c : BitVec 32) : bits .xor .u32 (u32 c / 2) (bits .and .u32 ((-(bits .and .u32 (u32 c) 1)) % 4294967296) 3988292384) = u32 (crcBit c) := by
  have h1 : (1 : Int) = u32 1#32 := by decide
  have h2 : (3988292384 : Int) = u32 0xedb88320#32 := by decide
  rw [h1, bits_and_u32, neg_u32, h2, bits_and_u32, shr_u32, bits_xor_u32]; rfl
theorem crcIn_int (c : BitVec 32) (b : UInt8) : bits .xor .u32 (u32 c) (b.toNat : Int) = u32 (c ^^^ BitVec.ofNat 32 b.toNat) := by
  rw [byte_u32, bits_xor_u32]
theorem not_u32 (a : BitVec 32) : -1 - u32 a + 4294967296 = u32 (~~~ a) := by
  unfold u32; rw [BitVec.toNat_not]; have := a.isLt; omega
theorem not_u32x (a : BitVec 32) : bits .xor .u32 4294967295 (u32 a) = u32 (~~~ a) := by
  have h : (4294967295 : Int) = u32 (BitVec.allOnes 32) := by decide
  rw [h, bits_xor_u32, BitVec.allOnes_xor]
theorem not_u32m (a : BitVec 32) : bits .xor .u32 IntKind.u32.max (u32 a) = u32 (~~~ a) := not_u32x a
theorem wraps_u32 (n : Int) (h₀ : 0 ≤ n) (h₁ : n < 2 ^ 32) : IntKind.u32.wrap n = n := by rw [Go.IntKind.wrap_u32]; omega
theorem u32_or (i : Nat) (x y : Int) (h0 : 0 ≤ x) (hx : x % 2 ^ i = 0) (h1 : x < 4294967296) (h2 : 0 ≤ y) (hy : y < 2 ^ i) (hy1 : y < 4294967296) : bits .or .u32 x y = x + y :=
  bits_join .u32 32 (by decide) wraps_u32 i x y h0 hx (by simpa using h1) h2 hy (by simpa using hy1)
theorem byte_mod (b : UInt8) : ((b.toNat : Int) % 4294967296) = (b.toNat : Int) := by have := b.toNat_lt; omega
theorem crcOn_take (c : BitVec 32) (l : List UInt8) (k : Nat) (h : k < l.length) : crcOn c (l.take (k + 1)) = crcByte (crcOn c (l.take k)) l[k] := by
  rw [List.take_succ_eq_append_getElem h, crcOn_append]; rfl
end Go.Proofs.Ytimjadjopemefaa
