/- DiskFull: the walk of the law. -/
import Derived.Test.YtimjadjopemefaaDkc
import Derived.OpenShut
set_option linter.unusedVariables false
set_option linter.unusedSimpArgs false
namespace Go.Proofs.Ytimjadjopemefaa
open Go.RowKit

def fullD (b : List UInt8) (k a : Nat) : DS := ⟨[(b, k)], a, false, 0, []⟩
theorem full_swap (b : List UInt8) (hb : b.length ≤ 4194304) : (freshD 1).actErr 0 (b.length : Int) = 0 ∧ (freshD 1).swap 0 b = fullD b b.length 1 := by
  have h1 : ¬ (4194304 : Int) < (b.length : Int) := by omega
  have he : (freshD 1).actErr 0 (b.length : Int) = 0 := by
    simp [DS.actErr, DS.has, freshD]
    omega
  refine ⟨he, ?_⟩
  unfold DS.swap
  rw [show (0 : Int) = ((0 : Nat) : Int) from rfl] at he ⊢
  rw [DS.act_ok he (by simp [freshD])]
  simp [DS.pre, freshD, fullD]
theorem full_app (b s : List UInt8) (k : Nat) (h : b.length + s.length ≤ 4194304) : (fullD b k 1).appErr 0 s = 0 ∧ (fullD b k 1).append 0 s = fullD (b ++ s) k 2 := by
  have h1 : ¬ (4194304 : Int) < (s.length : Int) + (b.length : Int) := by omega
  have he : (fullD b k 1).actErr 0 ((fullD b k 1).appSize 0 s) = 0 := by
    simp [DS.actErr, DS.has, DS.appSize, DS.log, fullD]
    omega
  refine ⟨he, ?_⟩
  unfold DS.append
  rw [show (0 : Int) = ((0 : Nat) : Int) from rfl] at he ⊢
  rw [DS.act_ok he (by simp [fullD])]
  simp [DS.pre, fullD]
theorem full_no (b s : List UInt8) (k : Nat) (h : 4194304 < b.length + s.length) : (fullD b k 1).appErr 0 s = 72 ∧ (fullD b k 1).append 0 s = fullD b k 1 := by
  have he : (fullD b k 1).actErr 0 ((fullD b k 1).appSize 0 s) = 72 := by
    simp [DS.actErr, DS.has, DS.appSize, DS.log, fullD]
    omega
  refine ⟨he, ?_⟩
  unfold DS.append
  rw [DS.act_no (by rw [he]; decide)]
  unfold DS.fail
  rw [if_neg (by simp [fullD])]
theorem full_long (b s : List UInt8) (k a : Nat) (h : 4194304 < s.length) : (fullD b k a).actErr 0 (s.length : Int) = 72 ∧ (fullD b k a).swap 0 s = fullD b k a := by
  have he : (fullD b k a).actErr 0 (s.length : Int) = 72 := by
    simp [DS.actErr, DS.has, fullD]
    omega
  refine ⟨he, ?_⟩
  unfold DS.swap
  rw [DS.act_no (by rw [he]; decide)]
  unfold DS.fail
  rw [if_neg (by simp [fullD])]
theorem full_read (b : List UInt8) (k a : Nat) : (fullD b k a).readErr 0 = 0 ∧ ((fullD b k a).log 0).1 = b := ⟨rfl, rfl⟩

set_option maxHeartbeats 4000000 in
set_option maxRecDepth 100000 in
theorem diskFull_walk (a0 : Int) (s : List UInt8) (w : World) (wa : (Lit.int .u8 a0).wf = true) (hs : s.length ≤ 140737488351232) :
    Calls Try.prog 13 #[.int .u8 a0, .string (str s)] w fun e w' => e = .returned (.bool true) ∧ Below w.heap.size w w' := by
  have hu := bounds_u8 wa
  obtain ⟨N, rfl⟩ := Int.eq_ofNat_of_zero_le hu.1
  have hN : N ≤ 255 := by omega
  obtain ⟨k, hk⟩ : ∃ k, k = 4194304 - N := ⟨_, rfl⟩
  have hkn : (4194304 : Int) - (N : Int) = (k : Int) := by omega
  have hkb : k ≤ 4194304 := by omega
  have HKN := Lib.hid hkn
  clear hu wa hk hkn
  go_enter Try.func13, Try.ntmps13
  go_wp2_with fail
  refine (held_new 1 w w (Below.refl _ _) (by decide) (by decide)).mono ?_
  rintro e w1 ⟨g, S1, rfl, h1, _⟩
  have H1 := Lib.hid h1
  clear h1
  go_wp2_with fail
  refine (dawake_calls w1).mono ?_
  rintro e w2 ⟨rfl, b2⟩
  have H2 := Lib.hid (H1.out.later b2)
  clear b2 H1
  go_wp2_with (with_reducible refine halt_dst 32 ?_)
  rw [HKN.out]
  refine wpList_maken rfl _ _ 22 rfl w2.heap.size 5 (.int .u8 0) 1 1 Try.underlying22 Try.inf5 .i64 .i64 _ _ k rfl rfl rfl rfl (by omega) (by simp only [maxLen]; omega) (Nat.le_refl _) ?_
  intro w3 r3 b3 _
  rw [made_u8] at r3
  obtain ⟨_, _, hv3, _, _, hA3, ho3⟩ := r3.cells1
  cases hv3
  clear r3
  go_wp2_with fail
  refine (held_swap H2.out b3 0 _ k k (List.replicate k 0) (by simp) hA3 (fun ad e => .inr (ho3 ad e).1) (by decide)).mono ?_
  rintro e w4 ⟨rfl, S4, h4, _⟩
  obtain ⟨f1, f2⟩ := full_swap (List.replicate k 0) (by simpa using hkb)
  rw [f2] at h4
  rw [f1]
  have H4 := Lib.hid h4
  clear h4 f1 f2 hA3 ho3 b3 H2
  by_cases hl : 600 < s.length
  · have h1 : (600 : Int) < ((str s).size : Int) := by rw [str_size]; omega
    have h1' : 600 ≤ (str s).size := by rw [str_size]; omega
    have hse : (str s).extract 0 600 = str (s.take 600) := by rw [str_extract]; simp
    have hl2 : (s.take 600).length ≤ 600 := by simp; omega
    obtain ⟨s2, hs2⟩ : ∃ s2, s2 = s.take 600 := ⟨_, rfl⟩
    rw [← hs2] at hse hl2
    have HSE := Lib.hid hse
    clear hse hs2
    go_upto_region 8 with fail
    rw [HSE.out]
    go_wp2_with (with_reducible refine halt_dst 41 ?_)
    refine wpList_bytes rfl (.tmp 40) 9 22 rfl Try.underlying9 Try.underlying22 Try.underlying5 s2 rfl ?_
    intro c7 w7 hc7 hB7 b7 _
    by_cases hfit : k + s2.length ≤ 4194304
    · have hfi : ¬ (4194304 : Int) < (k : Int) + (s2.length : Int) := by omega
      have hA7 := hB7.cells (by omega)
      go_wp2_with fail
      refine (held_append H4.out b7 0 _ s2.length c7 s2 rfl hA7 (fun ad e => by cases e; exact .inr (Nat.le_refl _)) (by omega) (by simp [fullD])).mono ?_
      rintro e w8 ⟨rfl, S8, h8, _⟩
      obtain ⟨f1, f2⟩ := full_app (List.replicate k 0) s2 (List.replicate k (0 : UInt8)).length (by simp; omega)
      rw [f2] at h8
      rw [f1]
      have H8 := Lib.hid h8
      clear h8 f1 f2 hA7 hB7 b7 H4
      go_wp2_with fail
      refine (held_read H8.out 0).mono ?_
      rintro e w9 ⟨A9, c9, rfl, _, h9, _⟩
      rw [(full_read _ _ _).1, if_pos rfl, (full_read _ _ _).2, show (List.replicate k (0 : UInt8) ++ s2).length = k + s2.length by simp]
      have H9 := Lib.hid h9
      clear h9 H8
      go_wp2_with (with_reducible refine halt_dst 52 ?_)
      refine wpList_maken rfl _ _ 22 rfl w9.heap.size 5 (.int .u8 0) 1 1 Try.underlying22 Try.inf5 .i64 .i64 _ _ (4194305 + N) rfl rfl (by omega) (by omega) (by omega) (by simp only [maxLen]; omega) (Nat.le_refl _) ?_
      intro wa ra ba _
      rw [made_u8] at ra
      obtain ⟨_, _, hva, _, _, hAa, hoa⟩ := ra.cells1
      cases hva
      clear ra
      go_wp2_with fail
      refine (held_swap H9.out ba 0 _ (4194305 + N) (4194305 + N) (List.replicate (4194305 + N) 0) (by simp) hAa (fun ad e => .inr (hoa ad e).1) (by simp [fullD])).mono ?_
      rintro e wb ⟨rfl, Sb, hb, _⟩
      obtain ⟨f1, f2⟩ := full_long (List.replicate k 0 ++ s2) (List.replicate (4194305 + N) 0) (List.replicate k (0 : UInt8)).length 2 (by simp; omega)
      rw [f2] at hb
      rw [f1]
      have HB := Lib.hid hb
      clear hb f1 f2 hAa hoa ba H9
      have hsz : ((str s2).size : Int) = (s2.length : Int) := by rw [str_size]
      go_wp2_with fail
      refine (dacts_calls _ _ _ wb HB.out.disk).mono ?_
      rintro e wc ⟨rfl, rfl⟩
      have HBB := Lib.hid HB.out.below
      go_wp2
      go_ret
      exact ⟨rfl, HBB.out⟩
    · have hfi : (4194304 : Int) < (k : Int) + (s2.length : Int) := by omega
      have hA7 := hB7.cells (by omega)
      go_wp2_with fail
      refine (held_append H4.out b7 0 _ s2.length c7 s2 rfl hA7 (fun ad e => by cases e; exact .inr (Nat.le_refl _)) (by omega) (by simp [fullD])).mono ?_
      rintro e w8 ⟨rfl, S8, h8, _⟩
      obtain ⟨f1, f2⟩ := full_no (List.replicate k 0) s2 (List.replicate k (0 : UInt8)).length (by simp; omega)
      rw [f2] at h8
      rw [f1]
      have H8 := Lib.hid h8
      clear h8 f1 f2 hA7 hB7 b7 H4
      go_wp2_with fail
      refine (held_read H8.out 0).mono ?_
      rintro e w9 ⟨A9, c9, rfl, _, h9, _⟩
      rw [(full_read _ _ _).1, if_pos rfl, (full_read _ _ _).2, show (List.replicate k (0 : UInt8)).length = k by simp]
      have H9 := Lib.hid h9
      clear h9 H8
      go_wp2_with (with_reducible refine halt_dst 52 ?_)
      refine wpList_maken rfl _ _ 22 rfl w9.heap.size 5 (.int .u8 0) 1 1 Try.underlying22 Try.inf5 .i64 .i64 _ _ (4194305 + N) rfl rfl (by omega) (by omega) (by omega) (by simp only [maxLen]; omega) (Nat.le_refl _) ?_
      intro wa ra ba _
      rw [made_u8] at ra
      obtain ⟨_, _, hva, _, _, hAa, hoa⟩ := ra.cells1
      cases hva
      clear ra
      go_wp2_with fail
      refine (held_swap H9.out ba 0 _ (4194305 + N) (4194305 + N) (List.replicate (4194305 + N) 0) (by simp) hAa (fun ad e => .inr (hoa ad e).1) (by simp [fullD])).mono ?_
      rintro e wb ⟨rfl, Sb, hb, _⟩
      obtain ⟨f1, f2⟩ := full_long (List.replicate k 0) (List.replicate (4194305 + N) 0) (List.replicate k (0 : UInt8)).length 1 (by simp; omega)
      rw [f2] at hb
      rw [f1]
      have HB := Lib.hid hb
      clear hb f1 f2 hAa hoa ba H9
      have hsz : ((str s2).size : Int) = (s2.length : Int) := by rw [str_size]
      go_wp2_with fail
      refine (dacts_calls _ _ _ wb HB.out.disk).mono ?_
      rintro e wc ⟨rfl, rfl⟩
      have HBB := Lib.hid HB.out.below
      go_wp2
      go_ret
      exact ⟨rfl, HBB.out⟩
  · have h1 : ((str s).size : Int) ≤ 600 := by rw [str_size]; omega
    have hl2 : s.length ≤ 600 := by omega
    obtain ⟨s2, hs2⟩ : ∃ s2, s2 = s := ⟨_, rfl⟩
    rw [← hs2] at h1 hl2 ⊢
    clear hs2 hl hs s
    go_wp2_with (with_reducible refine halt_dst 41 ?_)
    refine wpList_bytes rfl (.tmp 40) 9 22 rfl Try.underlying9 Try.underlying22 Try.underlying5 s2 rfl ?_
    intro c7 w7 hc7 hB7 b7 _
    by_cases hfit : k + s2.length ≤ 4194304
    · have hfi : ¬ (4194304 : Int) < (k : Int) + (s2.length : Int) := by omega
      have hA7 := hB7.cells (by omega)
      go_wp2_with fail
      refine (held_append H4.out b7 0 _ s2.length c7 s2 rfl hA7 (fun ad e => by cases e; exact .inr (Nat.le_refl _)) (by omega) (by simp [fullD])).mono ?_
      rintro e w8 ⟨rfl, S8, h8, _⟩
      obtain ⟨f1, f2⟩ := full_app (List.replicate k 0) s2 (List.replicate k (0 : UInt8)).length (by simp; omega)
      rw [f2] at h8
      rw [f1]
      have H8 := Lib.hid h8
      clear h8 f1 f2 hA7 hB7 b7 H4
      go_wp2_with fail
      refine (held_read H8.out 0).mono ?_
      rintro e w9 ⟨A9, c9, rfl, _, h9, _⟩
      rw [(full_read _ _ _).1, if_pos rfl, (full_read _ _ _).2, show (List.replicate k (0 : UInt8) ++ s2).length = k + s2.length by simp]
      have H9 := Lib.hid h9
      clear h9 H8
      go_wp2_with (with_reducible refine halt_dst 52 ?_)
      refine wpList_maken rfl _ _ 22 rfl w9.heap.size 5 (.int .u8 0) 1 1 Try.underlying22 Try.inf5 .i64 .i64 _ _ (4194305 + N) rfl rfl (by omega) (by omega) (by omega) (by simp only [maxLen]; omega) (Nat.le_refl _) ?_
      intro wa ra ba _
      rw [made_u8] at ra
      obtain ⟨_, _, hva, _, _, hAa, hoa⟩ := ra.cells1
      cases hva
      clear ra
      go_wp2_with fail
      refine (held_swap H9.out ba 0 _ (4194305 + N) (4194305 + N) (List.replicate (4194305 + N) 0) (by simp) hAa (fun ad e => .inr (hoa ad e).1) (by simp [fullD])).mono ?_
      rintro e wb ⟨rfl, Sb, hb, _⟩
      obtain ⟨f1, f2⟩ := full_long (List.replicate k 0 ++ s2) (List.replicate (4194305 + N) 0) (List.replicate k (0 : UInt8)).length 2 (by simp; omega)
      rw [f2] at hb
      rw [f1]
      have HB := Lib.hid hb
      clear hb f1 f2 hAa hoa ba H9
      have hsz : ((str s2).size : Int) = (s2.length : Int) := by rw [str_size]
      go_wp2_with fail
      refine (dacts_calls _ _ _ wb HB.out.disk).mono ?_
      rintro e wc ⟨rfl, rfl⟩
      have HBB := Lib.hid HB.out.below
      go_wp2
      go_ret
      exact ⟨rfl, HBB.out⟩
    · have hfi : (4194304 : Int) < (k : Int) + (s2.length : Int) := by omega
      have hA7 := hB7.cells (by omega)
      go_wp2_with fail
      refine (held_append H4.out b7 0 _ s2.length c7 s2 rfl hA7 (fun ad e => by cases e; exact .inr (Nat.le_refl _)) (by omega) (by simp [fullD])).mono ?_
      rintro e w8 ⟨rfl, S8, h8, _⟩
      obtain ⟨f1, f2⟩ := full_no (List.replicate k 0) s2 (List.replicate k (0 : UInt8)).length (by simp; omega)
      rw [f2] at h8
      rw [f1]
      have H8 := Lib.hid h8
      clear h8 f1 f2 hA7 hB7 b7 H4
      go_wp2_with fail
      refine (held_read H8.out 0).mono ?_
      rintro e w9 ⟨A9, c9, rfl, _, h9, _⟩
      rw [(full_read _ _ _).1, if_pos rfl, (full_read _ _ _).2, show (List.replicate k (0 : UInt8)).length = k by simp]
      have H9 := Lib.hid h9
      clear h9 H8
      go_wp2_with (with_reducible refine halt_dst 52 ?_)
      refine wpList_maken rfl _ _ 22 rfl w9.heap.size 5 (.int .u8 0) 1 1 Try.underlying22 Try.inf5 .i64 .i64 _ _ (4194305 + N) rfl rfl (by omega) (by omega) (by omega) (by simp only [maxLen]; omega) (Nat.le_refl _) ?_
      intro wa ra ba _
      rw [made_u8] at ra
      obtain ⟨_, _, hva, _, _, hAa, hoa⟩ := ra.cells1
      cases hva
      clear ra
      go_wp2_with fail
      refine (held_swap H9.out ba 0 _ (4194305 + N) (4194305 + N) (List.replicate (4194305 + N) 0) (by simp) hAa (fun ad e => .inr (hoa ad e).1) (by simp [fullD])).mono ?_
      rintro e wb ⟨rfl, Sb, hb, _⟩
      obtain ⟨f1, f2⟩ := full_long (List.replicate k 0) (List.replicate (4194305 + N) 0) (List.replicate k (0 : UInt8)).length 1 (by simp; omega)
      rw [f2] at hb
      rw [f1]
      have HB := Lib.hid hb
      clear hb f1 f2 hAa hoa ba H9
      have hsz : ((str s2).size : Int) = (s2.length : Int) := by rw [str_size]
      go_wp2_with fail
      refine (dacts_calls _ _ _ wb HB.out.disk).mono ?_
      rintro e wc ⟨rfl, rfl⟩
      have HBB := Lib.hid HB.out.below
      go_wp2
      go_ret
      exact ⟨rfl, HBB.out⟩
end Go.Proofs.Ytimjadjopemefaa
