/- The walks of package frame's small functions: on, Sum, both, four, read. -/
import Derived.Test.YtimjadjopemefaaProg
import Derived.Test.YtimjadjopemefaaCrc
import Derived.Test.YtimjadjopemefaaMem2
import Derived.WalkKit
import Derived.Outline
import Derived.WalkLawsBesides
import Derived.WalkSpells
import Derived.Deep.QuietTactic
import Derived.BigQuiet
import Derived.KernelRfl
import Derived.Lib.Hide
set_option linter.unusedVariables false
set_option linter.unusedSimpArgs false
namespace Go.Proofs.Ytimjadjopemefaa
open Go.RowKit

theorem Try.info5 : (Try.prog.info? 5).map (fun i => (i.zero, i.size, i.bytes)) = some (some (.int .u8 0), 1, 1) := by kernel_rfl

theorem ret_u32 {a b : Int} (h : a = b) : Ending.returned (.int .u32 a) = Ending.returned (.int .u32 b) := by rw [h]

set_option maxHeartbeats 400000 in
theorem on_calls (x : Int) (c : BitVec 32) (A : Option Addr) (n cap : Nat) (l : List UInt8) (w : World) (hx : x = u32 c) (hn : n = l.length) (hr : Cells w A (byts l)) :
    Calls Try.prog 67 #[.int .u32 x, .slice A n cap] w fun e w' => e = .returned (.int .u32 (u32 (crcOn c l))) ∧ w = w' := by
  subst hn hx
  have hm : l.length ≤ 9223372036854775807 := hr.len
  have HR := Lib.hid hr
  clear hr
  go_enter Try.func67, Try.ntmps67
  go_wp2
  go_loop [0, 9] (fun x i => ∃ k : Nat, k ≤ l.length ∧ i = .int .i64 k ∧ x = .int .u32 (u32 (crcOn c (l.take k)))) (fun _ i => l.length - (intOf i).toNat)
  case atStart => exact ⟨0, Nat.zero_le _, rfl, rfl⟩
  case round =>
    obtain ⟨k, hk, rfl, rfl⟩ := hrel
    by_cases hlt : k < l.length
    · obtain ⟨ad, hA, hc⟩ := HR.out.byte k hlt
      subst hA
      go_wp2
      go_loop [0, 17] (fun x i => ∃ j : Nat, j ≤ 8 ∧ i = .int .i64 j ∧ x = .int .u32 (u32 (crcBits j (crcOn c (l.take k) ^^^ BitVec.ofNat 32 l[k].toNat)))) (fun _ i => 8 - (intOf i).toNat)
      case atStart => exact ⟨0, Nat.zero_le _, rfl, by rw [byte_mod, crcIn_int]; rfl⟩
      case round =>
        obtain ⟨j, hj, rfl, rfl⟩ := hrel
        by_cases hl8 : j < 8
        · go_wp2
          go_round
          case rel => exact ⟨j + 1, by omega, by go_num, by rw [crcBits_succ, ← crcBit_int]⟩
          case measure => simp [intOf]; omega
        · obtain rfl : j = 8 := by omega
          go_wp2
          go_round
          case rel => exact ⟨k + 1, by omega, by go_num, by rw [crcOn_take c l k hlt]; rfl⟩
          case measure => simp [intOf]; omega
    · go_wp2
      go_ret
      exact ⟨by rw [List.take_of_length_le (by omega)]; rfl, rfl⟩

theorem sum_calls (A : Option Addr) (n cap : Nat) (l : List UInt8) (w : World) (hn : n = l.length) (hr : Cells w A (byts l)) :
    Calls Try.prog 25 #[.slice A n cap] w fun e w' => e = .returned (.int .u32 (u32 (crcSum l))) ∧ w = w' := by
  subst hn
  go_enter Try.func25, Try.ntmps25
  go_wp2_with fail
  with_reducible refine (on_calls _ (BitVec.allOnes 32) A _ cap l w (by decide) rfl hr).mono ?_
  rintro e w' ⟨rfl, rfl⟩
  go_wp2
  go_ret
  exact ⟨ret_u32 (not_u32m _), rfl⟩

theorem both_calls (A B : Option Addr) (n cap m cap' : Nat) (l k : List UInt8) (w : World) (hn : n = l.length) (hr : Cells w A (byts l)) (hm : m = k.length) (hr' : Cells w B (byts k)) :
    Calls Try.prog 69 #[.slice A n cap, .slice B m cap'] w fun e w' => e = .returned (.int .u32 (u32 (crcSum (l ++ k)))) ∧ w = w' := by
  subst hn hm
  go_enter Try.func69, Try.ntmps69
  go_wp2_with fail
  with_reducible refine (on_calls _ (BitVec.allOnes 32) A _ cap l w (by decide) rfl hr).mono ?_
  rintro e w' ⟨rfl, rfl⟩
  go_wp2_with fail
  with_reducible refine (on_calls _ _ B _ cap' k w rfl rfl hr').mono ?_
  rintro e w' ⟨rfl, rfl⟩
  go_wp2
  go_ret
  exact ⟨ret_u32 (by unfold crcSum; rw [crcOn_append]; exact not_u32m _), rfl⟩


/-- Four bytes as a number. -/
def rd4 (a b c d : UInt8) : Nat := a.toNat * 16777216 + b.toNat * 65536 + c.toNat * 256 + d.toNat
def be4 (n : Nat) : List UInt8 := [UInt8.ofNat (n / 16777216), UInt8.ofNat (n / 65536), UInt8.ofNat (n / 256), UInt8.ofNat n]

theorem read_calls (A : Option Addr) (n cap : Nat) (b0 b1 b2 b3 : UInt8) (l : List UInt8) (w : World) (hn : n = l.length + 4) (hr : Cells w A (byts (b0 :: b1 :: b2 :: b3 :: l))) :
    Calls Try.prog 71 #[.slice A n cap] w fun e w' => e = .returned (.int .u32 (rd4 b0 b1 b2 b3)) ∧ ∃ k, w' = w.drewN k := by
  subst hn
  obtain ⟨ad, rfl, hc⟩ := hr.at_ (by simp [byts])
  have h0 : w.cell? ad = some (.int .u8 (b0.toNat : Int)) := hc 0 _ rfl
  have h1 : w.cell? { block := ad.block, off := ad.off + 1 } = some (.int .u8 (b1.toNat : Int)) := hc 1 _ rfl
  have h2 : w.cell? { block := ad.block, off := ad.off + 2 } = some (.int .u8 (b2.toNat : Int)) := hc 2 _ rfl
  have h3 : w.cell? { block := ad.block, off := ad.off + 3 } = some (.int .u8 (b3.toNat : Int)) := hc 3 _ rfl
  have t0 := b0.toNat_lt
  have t1 := b1.toNat_lt
  have t2 := b2.toNat_lt
  have t3 := b3.toNat_lt
  have g1 : (1 : Int) < (l.length : Int) + 4 := by omega
  have g2 : (2 : Int) < (l.length : Int) + 4 := by omega
  have g3 : (3 : Int) < (l.length : Int) + 4 := by omega
  have g0 : (0 : Int) < (l.length : Int) + 4 := by omega
  clear hc hr
  go_enter Try.func71, Try.ntmps71
  go_wp2
  go_quiet (fail)
  go_wp2
  go_ret
  refine ⟨ret_u32 ?_, nq, rfl⟩
  have e1 : bits .or .u32 ((b0.toNat : Int) * 16777216) ((b1.toNat : Int) * 65536) = (b0.toNat : Int) * 16777216 + (b1.toNat : Int) * 65536 := u32_or 24 _ _ (by omega) (by omega) (by omega) (by omega) (by omega) (by omega)
  have e2 : bits .or .u32 ((b0.toNat : Int) * 16777216 + (b1.toNat : Int) * 65536) ((b2.toNat : Int) * 256) = (b0.toNat : Int) * 16777216 + (b1.toNat : Int) * 65536 + (b2.toNat : Int) * 256 := u32_or 16 _ _ (by omega) (by omega) (by omega) (by omega) (by omega) (by omega)
  have e3 : bits .or .u32 ((b0.toNat : Int) * 16777216 + (b1.toNat : Int) * 65536 + (b2.toNat : Int) * 256) (b3.toNat : Int) = (b0.toNat : Int) * 16777216 + (b1.toNat : Int) * 65536 + (b2.toNat : Int) * 256 + (b3.toNat : Int) := u32_or 8 _ _ (by omega) (by omega) (by omega) (by omega) (by omega) (by omega)
  show bits .or .u32 (bits .or .u32 (bits .or .u32 ((b0.toNat : Int) * 16777216) ((b1.toNat : Int) * 65536)) ((b2.toNat : Int) * 256)) (b3.toNat : Int) = _
  rw [e1, e2, e3]
  unfold rd4
  omega

theorem ofNat_u8 (n : Nat) : ((UInt8.ofNat n).toNat : Int) = (n : Int) % 256 := by simp
theorem be4_cells (n : Nat) (h : n < 4294967296) : ([.int .u8 ((n : Int) / 16777216), .int .u8 ((n : Int) / 65536 % 256), .int .u8 ((n : Int) / 256 % 256), .int .u8 ((n : Int) % 256)] : List Value) = byts (be4 n) := by
  simp only [be4, byts, List.map_cons, List.map_nil, byt, ofNat_u8]
  have h1 : ((n / 16777216 : Nat) : Int) % 256 = (n : Int) / 16777216 := by omega
  rw [h1]
  simp

/-- Appended: four bytes of a number. -/
theorem four_calls (base : Nat) (v : Value) (l : List UInt8) (k n : Nat) (w : World) (hk : k = l.length) (hn : n < 4294967296) (hown : Row w base 5 1 v k (byts l)) (hbase : base ≤ w.heap.size) (hl : l.length ≤ 1000000000) :
    Calls Try.prog 68 #[v, .int .u32 (n : Int)] w fun e w' => ∃ v', e = .returned v' ∧ Row w' base 5 1 v' (k + 4) (byts (l ++ be4 n)) ∧ w.grownBy w' v.ownBlock ∧ (v'.ownBlock = v.ownBlock ∨ ∃ b, v'.ownBlock = some b ∧ w.heap.size ≤ b) := by
  subst hk
  go_enter Try.func68, Try.ntmps68
  go_wp2_with (at_builtin; refine wpList_append_lit rfl (.tmp 5) (.tmp 17) 22 rfl base 5 (.int .u8 0) 1 1 Try.underlying22 Try.info5 rfl (by decide) v _ _ rfl hown 4 4 _ rfl rfl ?c1 ?c2 ?c3 hbase ?c4 ?_)
  case c1 => exact ⟨rfl, rfl, rfl, rfl⟩
  case c2 => simp only [maxLen]; omega
  case c3 => omega
  case c4 => simp
  intro v' w' r1 r2 r3
  have R1 : Row w' base 5 1 v' (l.length + 4) (byts (l ++ be4 n)) := by
    rw [byts_append, ← be4_cells n hn]; exact r1
  clear r1
  go_wp2
  go_ret
  exact ⟨_, rfl, R1, r2, r3⟩

end Go.Proofs.Ytimjadjopemefaa
