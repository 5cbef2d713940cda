/- WalLong: the walk of the law. -/
import Derived.Test.YtimjadjopemefaaWa8
import Derived.OpenShut
set_option linter.unusedVariables false
set_option linter.unusedSimpArgs false
namespace Go.Proofs.Ytimjadjopemefaa
open Go.RowKit

/-- A slice of two slices of bytes. -/
theorem LCells.two (w : World) (A B : Option Addr) (x y : List UInt8) (n m c d : Nat) (hn : n = x.length) (hm : m = y.length) (h1 : Cells w A (byts x)) (h2 : Cells w B (byts y)) :
    LCells (w.alloc (.cells #[.slice A n c, .slice B m d] 22)) (some ⟨w.heap.size, 0, none⟩) [x, y] := by
  subst hn hm
  have hc := cells_new w #[.slice A x.length c, .slice B y.length d] 22 (by simp)
  refine ⟨fun k hk => ?_⟩
  have hk2 : k = 0 ∨ k = 1 := by simp at hk; omega
  rcases hk2 with rfl | rfl
  · obtain ⟨ad, e, h⟩ := hc.get 0 _ rfl
    exact ⟨ad, A, c, e, h, h1.below (below_one w _)⟩
  · obtain ⟨ad, e, h⟩ := hc.get 1 _ rfl
    exact ⟨ad, B, d, e, h, h2.below (below_one w _)⟩

set_option maxHeartbeats 4000000 in
set_option maxRecDepth 100000 in
theorem walLong_walk (a0 : Int) (l : List UInt8) (w : World) (w0 : (Lit.int .u8 a0).wf = true) (hl : l.length ≤ 140737488351232) :
    Calls Try.prog 20 #[.int .u8 a0, .string (str l)] w fun e w' => e = .returned (.bool true) ∧ Below w.heap.size w w' := by
  have hr0 := Go.bounds_u8 w0
  obtain ⟨hr1, hr2⟩ := hr0
  go_enter Try.func20, Try.ntmps20
  go_wp2_with fail
  refine (held_new 1 w w (Below.refl _ _) (by decide) (by decide)).mono ?_
  rintro e w1 ⟨g, S1, rfl, h1, _⟩
  have H1 := Lib.hid h1
  clear h1
  go_wp2_with fail
  refine (wopen_fresh H1.out (i := 0) (by decide)).mono ?_
  rintro e w2 ⟨S2, gw, A2, c2, rfl, h2, _, _⟩
  have H2 := Lib.hid h2
  clear h2 H1
  go_wp2_with fail
  refine (wopen_nil 0 w2).mono ?_
  rintro e w' ⟨rfl, rfl⟩
  go_wp2_with fail
  refine (wawake_calls w2).mono ?_
  rintro e w3 ⟨rfl, b3⟩
  have H3 := Lib.hid (H2.out.later b3)
  clear b3 H2
  go_wp2_with fail
  refine (wfewS_calls l w3).mono ?_
  rintro e w4 ⟨rfl, b4⟩
  have H4 := Lib.hid (H3.out.later b4)
  obtain ⟨s, hs⟩ : ∃ s, s = l.take 1000 := ⟨_, rfl⟩
  have hsl : s.length ≤ 1000 := by rw [hs]; simp; omega
  rw [← hs]
  have HSL := Lib.hid hsl
  clear b4 H3 hs hsl
  have kf := fun w => Try.fieldS2 w 0 0 (str s) none 0 0
  go_upto_region 8 with fail
  obtain ⟨N, hN, hlo, hhi⟩ : ∃ N : Nat, 65535 + a0 % 3 = (N : Int) ∧ 65535 ≤ N ∧ N ≤ 65537 := ⟨(65535 + a0 % 3).toNat, by omega, by omega, by omega⟩
  rw [hN]
  clear hN w0
  go_wp2_with (with_reducible refine halt_dst 55 ?_)
  refine wpList_maken rfl _ _ 22 rfl w4.heap.size 5 (.int .u8 0) 1 1 Try.underlying22 Try.inf5 .i64 .i64 _ _ N rfl rfl rfl rfl (by omega) (by simp only [maxLen]; omega) (Nat.le_refl _) ?_
  intro w5 r5 b5 _
  rw [made_u8] at r5
  obtain ⟨A5, c5, hv5, _, _, hA5, ho5⟩ := r5.cells1
  cases hv5
  clear r5
  have hz : N = (List.replicate N (0 : UInt8)).length := by simp
  by_cases hbig : 65536 < N
  · have H5 := Lib.hid (H4.out.later b5)
    have HZ := Lib.hid hz
    clear hA5 ho5 b5 H4 hz
    go_wp2_with fail
    refine (wappend_long g gw _ _ _ _ w5 H5.out.wal rfl hbig (by omega)).mono ?_
    rintro e w' ⟨rfl, rfl⟩
    go_wp2_with (with_reducible refine halt_dst 59 ?_)
    refine wpList_bytes rfl (.tmp 58) 9 22 rfl Try.underlying9 Try.underlying22 Try.underlying5 s rfl ?_
    intro c6 w6 hc6 by6 b6 sz6
    go_wp2_with (with_reducible refine halt_dst 61 ?_)
    refine wpList_maken rfl _ _ 22 rfl w6.heap.size 5 (.int .u8 0) 1 1 Try.underlying22 Try.inf5 .i64 .i64 _ _ N rfl rfl rfl rfl (by omega) (by simp only [maxLen]; omega) (Nat.le_refl _) ?_
    intro w7 r7 b7 _
    rw [made_u8] at r7
    obtain ⟨A7, c7, hv7, _, _, hA7, _⟩ := r7.cells1
    cases hv7
    clear r7
    have hB6 : Cells w7 (some ⟨w5.heap.size, 0, none⟩) (byts s) := (by6.cells (by have := HSL.out; omega)).below b7
    have H7 := Lib.hid ((H5.out.later b6).later b7)
    have LC := Lib.hid (LCells.two w7 _ _ s (List.replicate N 0) s.length N c6 N rfl HZ.out hB6 hA7)
    clear hB6 hA7 b7 by6 b6 sz6 hc6 H5
    go_wp2_with fail
    refine (wfresh_calls (H7.out.later (below_one w7 _)) _ 2 2 _ rfl LC.out (by simp) rfl (by simp [freshD])).mono ?_
    rintro e w8 (⟨hsh, _⟩ | ⟨_, rfl, b8⟩)
    · exact absurd (hsh (List.replicate N 0) (by simp)) (by rw [← HZ.out]; omega)
    have H8 := Lib.hid ((H7.out.later (below_one w7 _)).later b8)
    obtain ⟨e1, e2⟩ := (live_fresh (k := 1) (i := 0) (by decide)).append (c := frameOf s) (by rw [frameOf_length]; have := HSL.out; simp; omega)
    have E1 := Lib.hid e1
    have E2 := Lib.hid e2
    clear b8 H7 LC e1 e2
    go_wp2_with fail
    refine (wlen_calls g gw _ w8 H8.out.wal).mono ?_
    rintro e w' ⟨rfl, rfl⟩
    go_wp2_with (with_reducible refine halt_dst 84 ?_)
    refine wpList_bytes rfl (.tmp 83) 9 22 rfl Try.underlying9 Try.underlying22 Try.underlying5 s rfl ?_
    intro c9 w9 hc9 by9 b9 sz9
    have hB9 := by9.cells (by have := HSL.out; omega)
    have H9 := Lib.hid (H8.out.later b9)
    have HB9 := Lib.hid hB9
    clear by9 b9 sz9 hc9 hB9 H8
    go_wp2_with fail
    refine (wappend_calls H9.out _ _ _ s rfl HB9.out (by have := HSL.out; omega) rfl (by simp [freshD]) (by decide)).mono ?_
    rintro e wa ⟨rfl, Sa, ha, _⟩
    rw [show (⟨0, 0, ((0 : Nat) : Int), false⟩ : WS).log = ((0 : Nat) : Int) from rfl] at ha ⊢
    rw [E1.out] at ha ⊢
    have HA := Lib.hid ha
    clear ha H9 HB9 E1 E2
    go_wp2_with fail
    refine (wlen_calls g gw _ wa HA.out.wal).mono ?_
    rintro e w' ⟨rfl, rfl⟩
    have HB := Lib.hid HA.out.below
    clear HA
    go_wp2
    go_ret
    exact ⟨rfl, HB.out⟩
  · obtain ⟨z, hzz⟩ : ∃ z, z = List.replicate N (0 : UInt8) := ⟨_, rfl⟩
    rw [← hzz] at hA5 hz
    have hzl : z.length ≤ 65536 := by omega
    obtain ⟨e1, e2⟩ := (live_fresh (k := 1) (i := 0) (by decide)).append (c := frameOf z) (by rw [frameOf_length]; simp; omega)
    rw [List.nil_append] at e2
    obtain ⟨D1, hD1⟩ : ∃ D1, D1 = (freshD 1).append ((0 : Nat) : Int) (frameOf z) := ⟨_, rfl⟩
    rw [← hD1] at e2
    have hfl := frameOf_length z
    have hL1 : Live D1 0 (frameOf z) 0 := by rw [e2]; exact ⟨by simp [DS.pre, freshD], rfl, rfl, by simp [DS.pre, freshD], by omega, by omega⟩
    have hac1 : D1.acts < 1000000000 := by rw [e2]; simp [DS.pre, freshD]
    have hls : ∀ x ∈ [s, z], x.length ≤ 65536 := by
      intro x hx
      have := HSL.out
      simp at hx
      rcases hx with rfl | rfl <;> omega
    have hfs := framesOf_len 65536 [s, z] hls
    obtain ⟨e3, e4⟩ := hL1.swap (c := framesOf [s, z]) (by simp at hfs; omega)
    have E1 := Lib.hid e1
    have E3 := Lib.hid e3
    have HD1 := Lib.hid hD1
    have HLS := Lib.hid hls
    have HAC := Lib.hid hac1
    have HZ := Lib.hid hz
    have HZZ := Lib.hid hzz
    have HZL := Lib.hid hzl
    have H5 := Lib.hid (H4.out.later b5)
    have HA5 := Lib.hid hA5
    clear e1 e2 e3 e4 hD1 hls hfs hL1 hac1 hfl hz hzz hzl hA5 ho5 b5 H4
    go_wp2_with fail
    refine (wappend_calls H5.out _ N N z HZ.out HA5.out HZL.out rfl (by simp [freshD]) (by decide)).mono ?_
    rintro e w6 ⟨rfl, S6, h6, _⟩
    rw [show (⟨0, 0, ((0 : Nat) : Int), false⟩ : WS).log = ((0 : Nat) : Int) from rfl] at h6 ⊢
    rw [E1.out, ← HD1.out] at h6
    rw [E1.out]
    have H6 := Lib.hid h6
    clear h6 H5 HA5 E1
    go_wp2_with (with_reducible refine halt_dst 59 ?_)
    refine wpList_bytes rfl (.tmp 58) 9 22 rfl Try.underlying9 Try.underlying22 Try.underlying5 s rfl ?_
    intro c7 w7 hc7 by7 b7 sz7
    go_wp2_with (with_reducible refine halt_dst 61 ?_)
    refine wpList_maken rfl _ _ 22 rfl w7.heap.size 5 (.int .u8 0) 1 1 Try.underlying22 Try.inf5 .i64 .i64 _ _ N rfl rfl rfl rfl (by omega) (by simp only [maxLen]; omega) (Nat.le_refl _) ?_
    intro w8 r8 b8 _
    rw [made_u8, ← HZZ.out] at r8
    obtain ⟨_, _, hv8, _, _, hA8, _⟩ := r8.cells1
    cases hv8
    clear r8
    have hB7 : Cells w8 (some ⟨w6.heap.size, 0, none⟩) (byts s) := (by7.cells (by have := HSL.out; omega)).below b8
    have H8 := Lib.hid ((H6.out.later b7).later b8)
    have LC := Lib.hid (LCells.two w8 _ _ s z s.length N c7 N rfl HZ.out hB7 hA8)
    clear hB7 hA8 b8 by7 b7 sz7 hc7 H6
    go_wp2_with fail
    refine (wfresh_calls (H8.out.later (below_one w8 _)) _ 2 2 _ rfl LC.out (by simp) rfl HAC.out).mono ?_
    rintro e w9 (⟨_, rfl, S9, h9, _⟩ | ⟨⟨x, hx, hx2⟩, _⟩)
    rotate_left
    · exact absurd (HLS.out x hx) (by omega)
    rw [show (WS.app (⟨0, 0, ((0 : Nat) : Int), false⟩ : WS) 0).log = ((0 : Nat) : Int) from rfl] at h9 ⊢
    rw [E3.out] at h9 ⊢
    have H9 := Lib.hid h9
    clear h9 H8 LC E3 HLS
    go_wp2_with fail
    refine (wlen_calls g gw _ w9 H9.out.wal).mono ?_
    rintro e w' ⟨rfl, rfl⟩
    go_wp2_with fail
    refine (wsure_calls g gw _ w9 H9.out.wal).mono ?_
    rintro e w' ⟨rfl, rfl⟩
    have HB := Lib.hid H9.out.below
    clear H9
    go_wp2
    go_ret
    exact ⟨rfl, HB.out⟩
end Go.Proofs.Ytimjadjopemefaa
