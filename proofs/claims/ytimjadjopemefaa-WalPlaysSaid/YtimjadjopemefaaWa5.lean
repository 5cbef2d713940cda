/- The walk of the wal law's few. -/
import Derived.Test.YtimjadjopemefaaWa4
set_option linter.unusedVariables false
set_option linter.unusedSimpArgs false
namespace Go.Proofs.Ytimjadjopemefaa
open Go.RowKit

theorem results_wact {fn : Func} {tmps : Array Value} {W : World} {a : Tmp} {g : Nat} {y0 y1 y2 y3 : Value} (hres : fn.results = #[.cell a 92]) (ha : tmps.getD a undef = .pointer (some ⟨g, 0, none⟩))
    (c0 : W.cell? ⟨g, 0, none⟩ = some y0) (c1 : W.cell? ⟨g, 1, none⟩ = some y1) (c2 : W.cell? ⟨g, 2, none⟩ = some y2) (c3 : W.cell? ⟨g, 3, none⟩ = some y3) :
    (results fn tmps).run Try.prog W = .ok (.agg #[y0, y1, y2, y3]) W := by
  have ha' : tmps[a]?.getD undef = .pointer (some ⟨g, 0, none⟩) := by simpa using ha
  simp [results, hres, ha', c0, c1, c2, c3, go_sem]

theorem Try.fieldS2 (w : World) (y0 y1 : Int) (s : ByteArray) (A : Option Addr) (m c : Nat) : (Instr.field 92 (.agg #[.int .i64 y0, .int .i64 y1, .string s, .slice A m c]) 2).run Try.prog w = .ok (.string s) w := by
  kernel_rfl

/-- An act's value. -/
def wactVal (kd n : Int) (s : List UInt8) (K : Option Addr) (m c : Nat) : Value := .agg #[.int .i64 kd, .int .i64 n, .string (str s), .slice K m c]
set_option maxHeartbeats 4000000 in
set_option maxRecDepth 100000 in
theorem wfew_calls (kd n : Int) (s : List UInt8) (K : Option Addr) (m c : Nat) (w : World) (hmc : m ≤ c) :
    Calls Try.prog 57 #[.agg #[.int .i64 kd, .int .i64 n, .string (str s), .slice K m c]] w fun e w' => e = .returned (wactVal kd n (s.take 1000) K (min m 10) c) ∧ Below w.heap.size w w' := by
  have hse : (str s).extract 0 1000 = str (s.take 1000) := by rw [str_extract]; simp
  by_cases hs : 1000 < s.length
  · have h1 : (1000 : Int) < ((str s).size : Int) := by rw [str_size]; omega
    have h1' : 1000 ≤ (str s).size := by rw [str_size]; omega
    by_cases hm : 10 < m
    · have hm2 : min m 10 = 10 := by omega
      have h2 : (10 : Int) < (m : Int) := by omega
      have HSE := Lib.hid hse
      have HM2 := Lib.hid hm2
      clear hm2 hse
      have hb := Blk.new (w.alloc (.cells #[.int .i64 kd, .int .i64 n, .string ((str s).extract 0 1000), .slice K 10 c] 92)) 92 #[.int .i64 kd, .int .i64 n, .string ((str s).extract 0 1000), .slice K 10 c]
      simp only [World.size_alloc] at hb
      have B := Lib.hid (show Below w.heap.size w ((w.alloc (.cells #[.int .i64 kd, .int .i64 n, .string ((str s).extract 0 1000), .slice K 10 c] 92)).alloc (.cells #[.int .i64 kd, .int .i64 n, .string ((str s).extract 0 1000), .slice K 10 c] 92)) from ((Below.refl _ _).alloc (Nat.le_refl _) _).alloc (by simp) _)
      have HB := Lib.hid hb
      clear hb
      go_enter Try.func57, Try.ntmps57
      go_wp2
      (try simp only [Exit.inBlock, Exit.then])
      refine bodyPost_ret (results_wact rfl rfl (HB.out.cell 0 _ rfl) (HB.out.cell 1 _ rfl) (HB.out.cell 2 _ rfl) (HB.out.cell 3 _ rfl)) rfl ?_
      exact ⟨by unfold wactVal; rw [HM2.out, ← HSE.out]; rfl, B.out⟩
    · have hm2 : min m 10 = m := by omega
      have h2 : (m : Int) ≤ 10 := by omega
      have HSE := Lib.hid hse
      have HM2 := Lib.hid hm2
      clear hm2 hse
      have hb := Blk.new (w.alloc (.cells #[.int .i64 kd, .int .i64 n, .string ((str s).extract 0 1000), .slice K m c] 92)) 92 #[.int .i64 kd, .int .i64 n, .string ((str s).extract 0 1000), .slice K m c]
      simp only [World.size_alloc] at hb
      have B := Lib.hid (show Below w.heap.size w ((w.alloc (.cells #[.int .i64 kd, .int .i64 n, .string ((str s).extract 0 1000), .slice K m c] 92)).alloc (.cells #[.int .i64 kd, .int .i64 n, .string ((str s).extract 0 1000), .slice K m c] 92)) from ((Below.refl _ _).alloc (Nat.le_refl _) _).alloc (by simp) _)
      have HB := Lib.hid hb
      clear hb
      go_enter Try.func57, Try.ntmps57
      go_wp2
      (try simp only [Exit.inBlock, Exit.then])
      refine bodyPost_ret (results_wact rfl rfl (HB.out.cell 0 _ rfl) (HB.out.cell 1 _ rfl) (HB.out.cell 2 _ rfl) (HB.out.cell 3 _ rfl)) rfl ?_
      exact ⟨by unfold wactVal; rw [HM2.out, ← HSE.out]; rfl, B.out⟩
  · have h1 : ((str s).size : Int) ≤ 1000 := by rw [str_size]; omega
    have hst : str s = str (s.take 1000) := by rw [List.take_of_length_le (by omega)]
    by_cases hm : 10 < m
    · have hm2 : min m 10 = 10 := by omega
      have h2 : (10 : Int) < (m : Int) := by omega
      have HSE := Lib.hid hst
      have HM2 := Lib.hid hm2
      clear hm2 hst hse
      have hb := Blk.new (w.alloc (.cells #[.int .i64 kd, .int .i64 n, .string (str s), .slice K 10 c] 92)) 92 #[.int .i64 kd, .int .i64 n, .string (str s), .slice K 10 c]
      simp only [World.size_alloc] at hb
      have B := Lib.hid (show Below w.heap.size w ((w.alloc (.cells #[.int .i64 kd, .int .i64 n, .string (str s), .slice K 10 c] 92)).alloc (.cells #[.int .i64 kd, .int .i64 n, .string (str s), .slice K 10 c] 92)) from ((Below.refl _ _).alloc (Nat.le_refl _) _).alloc (by simp) _)
      have HB := Lib.hid hb
      clear hb
      go_enter Try.func57, Try.ntmps57
      go_wp2
      (try simp only [Exit.inBlock, Exit.then])
      refine bodyPost_ret (results_wact rfl rfl (HB.out.cell 0 _ rfl) (HB.out.cell 1 _ rfl) (HB.out.cell 2 _ rfl) (HB.out.cell 3 _ rfl)) rfl ?_
      exact ⟨by unfold wactVal; rw [HM2.out, ← HSE.out]; rfl, B.out⟩
    · have hm2 : min m 10 = m := by omega
      have h2 : (m : Int) ≤ 10 := by omega
      have HSE := Lib.hid hst
      have HM2 := Lib.hid hm2
      clear hm2 hst hse
      have hb := Blk.new (w.alloc (.cells #[.int .i64 kd, .int .i64 n, .string (str s), .slice K m c] 92)) 92 #[.int .i64 kd, .int .i64 n, .string (str s), .slice K m c]
      simp only [World.size_alloc] at hb
      have B := Lib.hid (show Below w.heap.size w ((w.alloc (.cells #[.int .i64 kd, .int .i64 n, .string (str s), .slice K m c] 92)).alloc (.cells #[.int .i64 kd, .int .i64 n, .string (str s), .slice K m c] 92)) from ((Below.refl _ _).alloc (Nat.le_refl _) _).alloc (by simp) _)
      have HB := Lib.hid hb
      clear hb
      go_enter Try.func57, Try.ntmps57
      go_wp2
      (try simp only [Exit.inBlock, Exit.then])
      refine bodyPost_ret (results_wact rfl rfl (HB.out.cell 0 _ rfl) (HB.out.cell 1 _ rfl) (HB.out.cell 2 _ rfl) (HB.out.cell 3 _ rfl)) rfl ?_
      exact ⟨by unfold wactVal; rw [HM2.out, ← HSE.out]; rfl, B.out⟩
end Go.Proofs.Ytimjadjopemefaa
