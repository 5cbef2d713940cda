/- The walks of moietyref16's Vote, Fate, stamp. -/
import Derived.Test.YtpacbbnnmopkjaaPledgeEnds
set_option linter.unusedVariables false
set_option linter.unusedSimpArgs false
namespace Go.Proofs.Ytpacbbnnmopkjaa
open Go.RowKit

theorem results_saidb {fn : Func} {tmps : Array Value} {W : World} {a u : Tmp} {g : Nat} {y0 y1 y2 y3 : Value} (hres : fn.results = #[.cell a 67, .tmp u]) (ha : tmps.getD a undef = .pointer (some ⟨g, 0, Option.none⟩))
    (c0 : W.cell? ⟨g, 0, Option.none⟩ = some y0) (c1 : W.cell? ⟨g, 1, Option.none⟩ = some y1) (c2 : W.cell? ⟨g, 2, Option.none⟩ = some y2) (c3 : W.cell? ⟨g, 3, Option.none⟩ = some y3) :
    (results fn tmps).run Try.prog W = .ok (.tuple #[.agg #[y0, y1, y2, y3], tmps.getD u undef]) W := by
  have ha' : tmps[a]?.getD undef = .pointer (some ⟨g, 0, Option.none⟩) := by simpa using ha
  simp [results, hres, ha', c0, c1, c2, c3, go_sem]

theorem rvote_take {l : List Sd} {k : Nat} {b : Bool} (hk : k < l.length) (h : rvote (l.take k) b = Option.none) : rvote (l.take (k + 1)) b = if (decide ((l[k]).kind = 0) && ((l[k]).pays == b)) = true then some l[k] else Option.none := by
  rw [List.take_succ_eq_append_getElem hk, rvote_append, h]
  by_cases h1 : (l[k]).kind = 0 ∧ (l[k]).pays = b
  · rw [if_pos h1, if_pos (by simp [h1])]
  · rw [if_neg h1, if_neg]
    simp only [Bool.and_eq_true, decide_eq_true_eq, beq_iff_eq]
    exact h1
theorem rvote_prefix {l : List Sd} {k : Nat} {b : Bool} {s : Sd} (h : rvote (l.take k) b = some s) : rvote l b = some s := by
  rw [← List.take_append_drop k l]
  unfold rvote at h ⊢
  rw [List.find?_append, h]; rfl
theorem rfate_app (t m : List Sd) (h : (rfate t).1 ≠ 0) : rfate (t ++ m) = rfate t := by
  induction t with
  | nil => exact absurd rfl h
  | cons x t ih =>
    rw [List.cons_append]
    unfold rfate at h ⊢
    split
    · rfl
    · rename_i h1
      rw [if_neg h1] at h
      split
      · rfl
      · rename_i h2
        rw [if_neg h2] at h
        exact ih h
theorem rfate_prefix {l : List Sd} {k : Nat} (h : (rfate (l.take k)).1 ≠ 0) : rfate l = rfate (l.take k) := by
  have := rfate_app (l.take k) (l.drop k) h
  rwa [List.take_append_drop] at this
theorem rfate_take {l : List Sd} {k : Nat} (hk : k < l.length) (h : rfate (l.take k) = (0, 0)) : rfate (l.take (k + 1)) = rfate [l[k]] := by
  rw [List.take_succ_eq_append_getElem hk, rfate_append, h, if_pos rfl]

set_option maxHeartbeats 4000000 in
set_option maxRecDepth 100000 in
theorem rvote_calls (i f t n : Value) (A : Option Addr) (m c : Nat) (l : List Sd) (b : Bool) (w : World) (hm : m = l.length) (hA : Cells w A (sds l)) :
    Calls Try.prog 50 #[.agg #[i, f, t, n, .slice A m c], .bool b] w fun e w' => e = .returned (.tuple #[.agg #[.int .i64 ((rvote l b).getD ⟨0, false, false, 0⟩).kind, .bool ((rvote l b).getD ⟨0, false, false, 0⟩).pays, .bool ((rvote l b).getD ⟨0, false, false, 0⟩).yes, .int .i64 ((rvote l b).getD ⟨0, false, false, 0⟩).t], .bool (rvote l b).isSome]) ∧ Below w.heap.size w w' := by
  subst hm
  have hlen : l.length ≤ 2305843009213693952 := by have := hA.small; rw [sds_length] at this; omega
  obtain ⟨W0, hW0⟩ : ∃ W0, W0 = (w.alloc (.cells #[i, f, t, n, .slice A l.length c] 65)).alloc (.cells #[.int .i64 0, .bool false, .bool false, .int .i64 0] 67) := ⟨_, rfl⟩
  have b0 : Below w.heap.size w W0 := by rw [hW0]; exact ((Below.refl _ _).alloc (Nat.le_refl _) _).alloc (by simp) _
  have n2 : Blk W0 w.heap.size 65 #[i, f, t, n, .slice A l.length c] := by rw [hW0]; exact (Blk.new w 65 _).below (pbelow_one _ _)
  have n4 : Blk W0 (w.heap.size + 1) 67 #[.int .i64 0, .bool false, .bool false, .int .i64 0] := by
    have := Blk.new (w.alloc (.cells #[i, f, t, n, .slice A l.length c] 65)) 67 #[.int .i64 0, .bool false, .bool false, .int .i64 0]
    rw [hW0]; simpa using this
  have HA := Lib.hid (hA.below b0)
  have HW0 := Lib.hid hW0
  have B0 := Lib.hid b0
  have c4 : W0.cell? ⟨w.heap.size, 4, Option.none⟩ = some (.slice A l.length c) := n2.cell 4 _ rfl
  have HB : Hid (∀ k p y t', Blk ((((W0.setCell ⟨w.heap.size + 1, 0, Option.none⟩ k).setCell ⟨w.heap.size + 1, 1, Option.none⟩ p).setCell ⟨w.heap.size + 1, 2, Option.none⟩ y).setCell ⟨w.heap.size + 1, 3, Option.none⟩ t') (w.heap.size + 1) 67 #[k, p, y, t'] ∧
      Below w.heap.size w ((((W0.setCell ⟨w.heap.size + 1, 0, Option.none⟩ k).setCell ⟨w.heap.size + 1, 1, Option.none⟩ p).setCell ⟨w.heap.size + 1, 2, Option.none⟩ y).setCell ⟨w.heap.size + 1, 3, Option.none⟩ t')) := Lib.hid (fun k p y t' => by
    refine ⟨by simpa using (((n4.set 0 k).set 1 p).set 2 y).set 3 t', ?_⟩
    have hle : w.heap.size ≤ w.heap.size + 1 := by omega
    exact (((b0.setCell (p := ⟨w.heap.size + 1, 0, Option.none⟩) hle _).setCell (p := ⟨w.heap.size + 1, 1, Option.none⟩) hle _).setCell (p := ⟨w.heap.size + 1, 2, Option.none⟩) hle _).setCell (p := ⟨w.heap.size + 1, 3, Option.none⟩) hle _)
  have e0 : W0.cell? ⟨w.heap.size + 1, 0, Option.none⟩ = some (.int .i64 0) := n4.cell 0 _ rfl
  have e1 : W0.cell? ⟨w.heap.size + 1, 1, Option.none⟩ = some (.bool false) := n4.cell 1 _ rfl
  have e2 : W0.cell? ⟨w.heap.size + 1, 2, Option.none⟩ = some (.bool false) := n4.cell 2 _ rfl
  have e3 : W0.cell? ⟨w.heap.size + 1, 3, Option.none⟩ = some (.int .i64 0) := n4.cell 3 _ rfl
  have f0 := n4.free 0 Option.none
  have f1 := n4.free 1 Option.none
  have f2 := n4.free 2 Option.none
  have f3 := n4.free 3 Option.none
  clear hA b0 n2 n4 hW0
  go_enter Try.func50, Try.ntmps50
  go_wp2
  rw [← HW0.out]
  go_loopw [6] (fun i wr => ∃ k : Nat, k ≤ l.length ∧ i = .int .i64 k ∧ rvote (l.take k) b = Option.none ∧ Hid (wr = W0)) (fun i _ => l.length - (intOf i).toNat)
  case atStart => exact ⟨0, Nat.zero_le _, rfl, rfl, Lib.hid rfl⟩
  case round =>
    obtain ⟨k, hk, rfl, hv, hwr⟩ := hrel
    have hww := hwr.out
    subst hww
    by_cases hlt : k < l.length
    · obtain ⟨ad, rfl, d0, d1, d2, d3⟩ := HA.out.said k hlt
      have hnx := rvote_take hlt hv
      have HRE := Lib.hid (fun s (h : rvote (l.take (k + 1)) b = some s) => rvote_prefix h)
      obtain ⟨s, hs⟩ : ∃ s, s = l[k] := ⟨_, rfl⟩
      rw [← hs] at d0 d1 d2 d3 hnx
      have HNX := Lib.hid hnx
      clear hnx hs hv
      obtain ⟨sk, sp, sy, st⟩ := s
      simp only at d0 d1 d2 d3
      by_cases hkd : sk = 0
      · subst hkd
        have hpp : sp = b ∨ sp = !b := by cases sp <;> cases b <;> simp
        rcases hpp with rfl | rfl
        · have hfd := HRE.out ⟨0, sp, sy, st⟩ (by rw [HNX.out, if_pos (by simp)])
          have HFD := Lib.hid hfd
          clear hfd
          cases sp
          all_goals
            go_wp2
            (try simp only [Exit.inBlock, Exit.then])
            refine bodyPost_ret (results_saidb rfl rfl ((HB.out _ _ _ _).1.cell 0 _ rfl) ((HB.out _ _ _ _).1.cell 1 _ rfl) ((HB.out _ _ _ _).1.cell 2 _ rfl) ((HB.out _ _ _ _).1.cell 3 _ rfl)) rfl ?_
            exact ⟨by rw [HFD.out]; rfl, (HB.out _ _ _ _).2⟩
        · have hn : rvote (l.take (k + 1)) b = Option.none := by rw [HNX.out, if_neg (by cases b <;> simp)]
          have HN := Lib.hid hn
          clear hn
          cases b
          all_goals
            go_wp2
            go_roundw
            case rel => exact ⟨k + 1, by omega, by go_num, HN.out, by first | exact Lib.hid rfl | exact Lib.hid trivial⟩
            case measure => simp [intOf]; omega
      · have hkb : (sk == 0) = false := by simpa using hkd
        have hn : rvote (l.take (k + 1)) b = Option.none := by rw [HNX.out, if_neg (by simp [hkd])]
        have HN := Lib.hid hn
        clear hn hkd
        go_wp2
        go_roundw
        case rel => exact ⟨k + 1, by omega, by go_num, HN.out, by first | exact Lib.hid rfl | exact Lib.hid trivial⟩
        case measure => simp [intOf]; omega
    · obtain rfl : k = l.length := by omega
      have hfin : rvote l b = Option.none := by rwa [List.take_of_length_le (Nat.le_refl _)] at hv
      have HFI := Lib.hid hfin
      clear hfin hv
      go_wp2
      (try simp only [Exit.inBlock, Exit.then])
      refine bodyPost_ret (results_saidb rfl rfl ((HB.out _ _ _ _).1.cell 0 _ rfl) ((HB.out _ _ _ _).1.cell 1 _ rfl) ((HB.out _ _ _ _).1.cell 2 _ rfl) ((HB.out _ _ _ _).1.cell 3 _ rfl)) rfl ?_
      exact ⟨by rw [HFI.out]; rfl, (HB.out _ _ _ _).2⟩

set_option maxHeartbeats 1000000 in
theorem rstamp_calls (a : Int) (w : World) : Calls Try.prog 51 #[.int .i64 a] w fun e w' => e = .returned (.bool (stampOk a)) ∧ w = w' := by
  unfold stampOk
  by_cases h : 0 < a
  · have h1 : 1 ≤ a := by omega
    go_enter Try.func51, Try.ntmps51
    go_wp2
    go_ret
    exact ⟨by simp [h1], rfl⟩
  · go_enter Try.func51, Try.ntmps51
    go_wp2
    go_ret
    exact ⟨by simp; omega, rfl⟩
end Go.Proofs.Ytpacbbnnmopkjaa
