/- The walk of the disk law's few. -/
import Derived.Test.YtimjadjopemefaaDkb
set_option linter.unusedVariables false
set_option linter.unusedSimpArgs false
namespace Go.Proofs.Ytimjadjopemefaa
open Go.RowKit

theorem results_act {fn : Func} {tmps : Array Value} {W : World} {a : Tmp} {g : Nat} {y0 y1 y2 y3 y4 : Value} (hres : fn.results = #[.cell a 62]) (ha : tmps.getD a undef = .pointer (some ⟨g, 0, none⟩))
    (c0 : W.cell? ⟨g, 0, none⟩ = some y0) (c1 : W.cell? ⟨g, 1, none⟩ = some y1) (c2 : W.cell? ⟨g, 2, none⟩ = some y2) (c3 : W.cell? ⟨g, 3, none⟩ = some y3) (c4 : W.cell? ⟨g, 4, none⟩ = some y4) :
    (results fn tmps).run Try.prog W = .ok (.agg #[y0, y1, y2, y3, y4]) W := by
  have ha' : tmps[a]?.getD undef = .pointer (some ⟨g, 0, none⟩) := by simpa using ha
  simp [results, hres, ha', c0, c1, c2, c3, c4, go_sem]

theorem Try.fieldS (w : World) (y0 y1 y2 : Int) (s : ByteArray) (A : Option Addr) (m c : Nat) : (Instr.field 62 (.agg #[.int .i64 y0, .int .i64 y1, .int .i64 y2, .string s, .slice A m c]) 3).run Try.prog w = .ok (.string s) w := by
  kernel_rfl

/-- An act's value. -/
def actVal (kd lg n : Int) (s : List UInt8) (K : Option Addr) (m c : Nat) : Value := .agg #[.int .i64 kd, .int .i64 lg, .int .i64 n, .string (str s), .slice K m c]
set_option maxHeartbeats 4000000 in
set_option maxRecDepth 100000 in
theorem dfew_calls (kd lg n : Int) (s : List UInt8) (K : Option Addr) (m c : Nat) (w : World) (hmc : m ≤ c) :
    Calls Try.prog 39 #[.agg #[.int .i64 kd, .int .i64 lg, .int .i64 n, .string (str s), .slice K m c]] w fun e w' => e = .returned (actVal kd lg n (s.take 2000) K (min m 20) c) ∧ Below w.heap.size w w' := by
  have hse : (str s).extract 0 2000 = str (s.take 2000) := by rw [str_extract]; simp
  by_cases hs : 2000 < s.length
  · have h1 : (2000 : Int) < ((str s).size : Int) := by rw [str_size]; omega
    have h1' : 2000 ≤ (str s).size := by rw [str_size]; omega
    by_cases hm : 20 < m
    · have hm2 : min m 20 = 20 := by omega
      have h2 : (20 : Int) < (m : Int) := by omega
      have HSE := Lib.hid hse
      have HM2 := Lib.hid hm2
      clear hm2 hse
      have hb := Blk.new (w.alloc (.cells #[.int .i64 kd, .int .i64 lg, .int .i64 n, .string ((str s).extract 0 2000), .slice K 20 c] 62)) 62 #[.int .i64 kd, .int .i64 lg, .int .i64 n, .string ((str s).extract 0 2000), .slice K 20 c]
      simp only [World.size_alloc] at hb
      have B := Lib.hid (show Below w.heap.size w ((w.alloc (.cells #[.int .i64 kd, .int .i64 lg, .int .i64 n, .string ((str s).extract 0 2000), .slice K 20 c] 62)).alloc (.cells #[.int .i64 kd, .int .i64 lg, .int .i64 n, .string ((str s).extract 0 2000), .slice K 20 c] 62)) from ((Below.refl _ _).alloc (Nat.le_refl _) _).alloc (by simp) _)
      have HB := Lib.hid hb
      clear hb
      go_enter Try.func39, Try.ntmps39
      go_wp2
      (try simp only [Exit.inBlock, Exit.then])
      refine bodyPost_ret (results_act rfl rfl (HB.out.cell 0 _ rfl) (HB.out.cell 1 _ rfl) (HB.out.cell 2 _ rfl) (HB.out.cell 3 _ rfl) (HB.out.cell 4 _ rfl)) rfl ?_
      exact ⟨by unfold actVal; rw [HM2.out, ← HSE.out]; rfl, B.out⟩
    · have hm2 : min m 20 = m := by omega
      have h2 : (m : Int) ≤ 20 := by omega
      have HSE := Lib.hid hse
      have HM2 := Lib.hid hm2
      clear hm2 hse
      have hb := Blk.new (w.alloc (.cells #[.int .i64 kd, .int .i64 lg, .int .i64 n, .string ((str s).extract 0 2000), .slice K m c] 62)) 62 #[.int .i64 kd, .int .i64 lg, .int .i64 n, .string ((str s).extract 0 2000), .slice K m c]
      simp only [World.size_alloc] at hb
      have B := Lib.hid (show Below w.heap.size w ((w.alloc (.cells #[.int .i64 kd, .int .i64 lg, .int .i64 n, .string ((str s).extract 0 2000), .slice K m c] 62)).alloc (.cells #[.int .i64 kd, .int .i64 lg, .int .i64 n, .string ((str s).extract 0 2000), .slice K m c] 62)) from ((Below.refl _ _).alloc (Nat.le_refl _) _).alloc (by simp) _)
      have HB := Lib.hid hb
      clear hb
      go_enter Try.func39, Try.ntmps39
      go_wp2
      (try simp only [Exit.inBlock, Exit.then])
      refine bodyPost_ret (results_act rfl rfl (HB.out.cell 0 _ rfl) (HB.out.cell 1 _ rfl) (HB.out.cell 2 _ rfl) (HB.out.cell 3 _ rfl) (HB.out.cell 4 _ rfl)) rfl ?_
      exact ⟨by unfold actVal; rw [HM2.out, ← HSE.out]; rfl, B.out⟩
  · have h1 : ((str s).size : Int) ≤ 2000 := by rw [str_size]; omega
    have hst : str s = str (s.take 2000) := by rw [List.take_of_length_le (by omega)]
    by_cases hm : 20 < m
    · have hm2 : min m 20 = 20 := by omega
      have h2 : (20 : Int) < (m : Int) := by omega
      have HSE := Lib.hid hst
      have HM2 := Lib.hid hm2
      clear hm2 hst hse
      have hb := Blk.new (w.alloc (.cells #[.int .i64 kd, .int .i64 lg, .int .i64 n, .string (str s), .slice K 20 c] 62)) 62 #[.int .i64 kd, .int .i64 lg, .int .i64 n, .string (str s), .slice K 20 c]
      simp only [World.size_alloc] at hb
      have B := Lib.hid (show Below w.heap.size w ((w.alloc (.cells #[.int .i64 kd, .int .i64 lg, .int .i64 n, .string (str s), .slice K 20 c] 62)).alloc (.cells #[.int .i64 kd, .int .i64 lg, .int .i64 n, .string (str s), .slice K 20 c] 62)) from ((Below.refl _ _).alloc (Nat.le_refl _) _).alloc (by simp) _)
      have HB := Lib.hid hb
      clear hb
      go_enter Try.func39, Try.ntmps39
      go_wp2
      (try simp only [Exit.inBlock, Exit.then])
      refine bodyPost_ret (results_act rfl rfl (HB.out.cell 0 _ rfl) (HB.out.cell 1 _ rfl) (HB.out.cell 2 _ rfl) (HB.out.cell 3 _ rfl) (HB.out.cell 4 _ rfl)) rfl ?_
      exact ⟨by unfold actVal; rw [HM2.out, ← HSE.out]; rfl, B.out⟩
    · have hm2 : min m 20 = m := by omega
      have h2 : (m : Int) ≤ 20 := by omega
      have HSE := Lib.hid hst
      have HM2 := Lib.hid hm2
      clear hm2 hst hse
      have hb := Blk.new (w.alloc (.cells #[.int .i64 kd, .int .i64 lg, .int .i64 n, .string (str s), .slice K m c] 62)) 62 #[.int .i64 kd, .int .i64 lg, .int .i64 n, .string (str s), .slice K m c]
      simp only [World.size_alloc] at hb
      have B := Lib.hid (show Below w.heap.size w ((w.alloc (.cells #[.int .i64 kd, .int .i64 lg, .int .i64 n, .string (str s), .slice K m c] 62)).alloc (.cells #[.int .i64 kd, .int .i64 lg, .int .i64 n, .string (str s), .slice K m c] 62)) from ((Below.refl _ _).alloc (Nat.le_refl _) _).alloc (by simp) _)
      have HB := Lib.hid hb
      clear hb
      go_enter Try.func39, Try.ntmps39
      go_wp2
      (try simp only [Exit.inBlock, Exit.then])
      refine bodyPost_ret (results_act rfl rfl (HB.out.cell 0 _ rfl) (HB.out.cell 1 _ rfl) (HB.out.cell 2 _ rfl) (HB.out.cell 3 _ rfl) (HB.out.cell 4 _ rfl)) rfl ?_
      exact ⟨by unfold actVal; rw [HM2.out, ← HSE.out]; rfl, B.out⟩
end Go.Proofs.Ytimjadjopemefaa
