/- WalPlays: the walk of does, arm by arm, and whole. -/
import Derived.Test.YtimjadjopemefaaWpx
set_option linter.unusedVariables false
set_option linter.unusedSimpArgs false
namespace Go.Proofs.Ytimjadjopemefaa
open Go.RowKit

/- WalPlays: the walk of does. -/
set_option maxHeartbeats 16000000 in
set_option maxRecDepth 100000 in
theorem bdoes_0 (w0 w : World) (bb : Nat) (S : Nat → Prop) (gw g : Nat) (D : DS) (V : WS) (ls : List (List UInt8)) (A : Option Addr) (c : Nat) (B : Option Addr) (d : Nat) (LA : Option Addr) (lc : Nat) (n : Int) (s : List UInt8) (K : Option Addr) (m c5 : Nat) (ks : List Int) (j : Nat)
    (h : WP w0 w bb S (some gw) g D V ls A c B d LA lc) (hm : m = ks.length) (hK : Cells w0 K (ints ks)) (hs : s.length ≤ 1000) (hks : ks.length ≤ 10) (hn : n ≤ 9223372036854775807) (hj : j ≤ 95) (hg : Good D ls j) :
    Calls Try.prog 64 #[.pointer (some ⟨bb, 0, none⟩), .agg #[.int .i64 0, .int .i64 n, .string (str s), .slice K m c5]] w fun e w' => e = .returned (.bool true) ∧ ∃ S' G' D' V' ls' A' c' B' d' LA' lc', WP w0 w' bb S' G' g D' V' ls' A' c' B' d' LA' lc' ∧ Good D' ls' (j + 2) := by
  subst hm
  have b0 := below_one w (.cells #[.int .i64 0, .int .i64 n, .string (str s), .slice K ks.length c5] 92)
  have n0 := Blk.new w 92 #[.int .i64 0, .int .i64 n, .string (str s), .slice K ks.length c5]
  obtain ⟨W0, hW0⟩ : ∃ W0, W0 = w.alloc (.cells #[.int .i64 0, .int .i64 n, .string (str s), .slice K ks.length c5] 92) := ⟨_, rfl⟩
  rw [← hW0] at b0 n0
  have Q0 := Lib.hid (h.q.later b0)
  have HT := Lib.hid (And.intro h.all (And.intro (h.wal gw rfl).2.2.2 hg))
  have TB := Lib.hid (show ∀ (S1 : Nat → Prop) W, GrewW S S1 gw W0 W → Blk W w.heap.size 92 #[.int .i64 0, .int .i64 n, .string (str s), .slice K ks.length c5] from fun S1 W hg => n0.upd hg.upd (fun hz => by
    rcases hz with hz | hz
    · have := (h.held.own _ hz).2; omega
    · have := h.hw.lt; omega))
  have HW0 := Lib.hid hW0
  have HK := Lib.hid hK
  have HS := Lib.hid hs
  have HKS := Lib.hid hks
  obtain ⟨⟨x0, x1, x2, x3⟩, _⟩ := blk4 n0
  have hdis := h.held.disk
  have HDI := Lib.hid (And.intro hdis.small hdis.armed)
  have HB0 := Lib.hid b0
  have GG := Lib.hid (show D.logs.length ≤ 16 ∧ D.keep.length ≤ 1000000 ∧ D.acts < 1000000000 ∧ (D.log 1).1.length ≤ 1000000 ∧ ls.length ≤ 10000000 from hg.bounds (by omega))
  clear h b0 n0 hW0 hK hg hdis hs hks
  go_enter Try.func64, Try.ntmps64
  go_upto_region 1 with fail
  rw [← HW0.out]
  clear HW0
  go_upto_block 0 with fail
  clear x0 x1 x2 x3
  obtain ⟨⟨x0, x1, x2, x3⟩, _⟩ := blk4 (TB.out S W0 GrewW.refl)
  go_wp2_with (with_reducible refine halt_dst 17 ?_)
  refine wpList_bytes rfl (.tmp 16) 9 22 rfl Try.underlying9 Try.underlying22 Try.underlying5 s rfl ?_
  intro c7 w1 hc7 hB7 b7 _
  have Q1 := Lib.hid (Q0.out.fence (X := fun i => i = W0.heap.size) b7 (fun i hi => by subst hi; exact ⟨Nat.le_refl _, hB7.lt⟩))
  have HB7 := Lib.hid hB7
  have B7 := Lib.hid b7
  clear x0 x1 x2 x3 hB7 b7
  obtain ⟨⟨y0, y1, y2, y3, y4, y5, y6, y7, y8, y9, y10⟩, f0, f1, f2, f3, f4, f5, f6, f7, f8, f9, f10⟩ := blk11 Q1.out.cells
  go_wp2_with fail
  refine (kapp_calls (ls := ls) Q1.out.real HT.out.1 _ s.length c7 s rfl (HB7.out.cells (by have := HS.out; omega)) HS.out GG.out.2.2.1 (by have := GG.out.2.2.2.2; omega)).mono ?_
  rintro e v1 ⟨rfl, S1, h1, g1⟩
  have Q2 := Lib.hid (Q1.out.wal h1 g1)
  have HB8 := Lib.hid (show Bytes v1 W0.heap.size s from HB7.out.kept (g1.upd.block _ HB7.out.lt (fun hz => by
    obtain ⟨_, x2, x3, _⟩ := Q1.out.xo _ rfl
    exact hz.elim x2 x3)))
  have TB1 := Lib.hid (TB.out S1 v1 ((GrewW.later B7.out).trans g1))
  have GR := Lib.hid (Good.k (kind := 0) (V := V) (xs := [s]) HT.out.2.2 (by intro l hl; simp at hl; subst hl; exact HS.out) (by simp))
  clear y0 y1 y2 y3 y4 y5 y6 y7 y8 y9 y10 f0 f1 f2 f3 f4 f5 f6 f7 f8 f9 f10 h1 g1 Q1 HB7 B7 TB
  go_upto_region 7 with fail
  go_cut [6] from 24 to 45 (fun s6 wx => s6 = .int .i64 (kE D V 0 [s]) ∧ ∃ A' c' B' d' LA' lc', WQ w0 wx bb (fun i => i = W0.heap.size) S1 gw g (kD D V 0 [s]) (kV D V 0 ls [s]) (kD D V 0 [s]) (kV D V 0 ls [s]) (kLs D V 0 ls [s]) A' c' B' d' LA' lc' ∧ Bytes wx W0.heap.size s)
  case first =>
    have hbr : Below v1.heap.size v1 (v1.alloc (.cells #[.string (str s)] 9)).drew := bdrew (below_one _ _)
    have HR := Lib.hid (Q2.out.k82 0 (some ⟨v1.heap.size, 0, none⟩) 1 [s] (v1.alloc (.cells #[.string (str s)] 9)).drew hbr (sets_one s v1) (by intro l hl; simp at hl; subst hl; exact HS.out) (by simp) GG.out.1 GG.out.2.1 HDI.out.1 (.inl rfl) GG.out.2.2.1 HDI.out.2 GG.out.2.2.2.2)
    obtain ⟨⟨x0, x1, x2, x3⟩, _⟩ := blk4 TB1.out
    obtain ⟨⟨y0, y1, y2, y3, y4, y5, y6, y7, y8, y9, y10⟩, f0, f1, f2, f3, f4, f5, f6, f7, f8, f9, f10⟩ := blk11 Q2.out.cells
    have ZA := Lib.hid (show ∀ W, Below v1.heap.size v1 W → (Blk W bb 108 #[.pointer (some ⟨g, 0, none⟩), .pointer (some ⟨gw, 0, none⟩), .slice A D.logs.length c, .int .i64 (D.acts : Int), .bool D.down, .int .i64 D.armed, .slice B D.keep.length d, .int .i64 V.log, .slice LA ls.length lc, .int .i64 (V.sure : Int), .bool V.dead] ∧ Blk W w.heap.size 92 #[.int .i64 0, .int .i64 n, .string (str s), .slice K ks.length c5]) from fun W hb => ⟨Q2.out.cells.below hb, TB1.out.below hb⟩)
    obtain ⟨p0, p1⟩ := ZA.out (v1.alloc (.cells #[.string (str s)] 9)) (below_one _ _)
    obtain ⟨⟨p0, p1, p2, p3, p4, p5, p6, p7, p8, p9, p10⟩, _⟩ := blk11 p0
    obtain ⟨⟨q0, q1, q2, q3⟩, _⟩ := blk4 (ZA.out (v1.alloc (.cells #[.string (str s)] 9)) (below_one _ _)).2
    obtain ⟨E, hE1⟩ : ∃ E, E = kE D V 0 [s] := ⟨_, rfl⟩
    obtain ⟨D1, hD1⟩ : ∃ D1, D1 = kD D V 0 [s] := ⟨_, rfl⟩
    obtain ⟨V1, hV1⟩ : ∃ V1, V1 = kV D V 0 ls [s] := ⟨_, rfl⟩
    obtain ⟨L1, hL1⟩ : ∃ L1, L1 = kLs D V 0 ls [s] := ⟨_, rfl⟩
    rw [← hE1, ← hD1, ← hV1, ← hL1] at HR
    have HE1 := Lib.hid hE1
    have HD1 := Lib.hid hD1
    have HV1 := Lib.hid hV1
    have HL1 := Lib.hid hL1
    clear hE1 hD1 hV1 hL1
    go_region_with (first
      | (go_at_call 82; (with_reducible refine Calls.mono HR.out ?_); rintro e v2 ⟨A', c', B', d', LA', lc', rfl, b2, due⟩; have DUE := Lib.hid due; have B2 := Lib.hid b2; have z9 := (ZA.out v2 b2).1; clear due b2; have Z9 := Lib.hid z9; obtain ⟨⟨z0, z1, z2, z3, z4, z5, z6, z7, z8, z9, z10⟩, f0, f1, f2, f3, f4, f5, f6, f7, f8, f9, f10⟩ := blk11 z9))
    all_goals
      clear ZA HR hbr p0 p1 p2 p3 p4 p5 p6 p7 p8 p9 p10 q0 q1 q2 q3 x0 x1 x2 x3
      go_wp2_with fail
      go_meet
      obtain ⟨e9, u9⟩ := nine_bset Z9.out (.slice A' D1.logs.length c') (.int .i64 (D1.acts : Int)) (.bool D1.down) (.int .i64 D1.armed) (.slice B' D1.keep.length d') (.int .i64 V1.log) (.slice LA' L1.length lc') (.int .i64 (V1.sure : Int)) (.bool V1.dead)
      rw [← HE1.out, ← HD1.out, ← HV1.out, ← HL1.out]
      exact ⟨rfl, A', c', B', d', LA', lc', DUE.out _ u9 e9, (HB8.out.kept (B2.out.block _ HB8.out.lt)).kept (u9.block _ (Nat.lt_of_lt_of_le HB8.out.lt B2.out.size) (fun hz => (Q2.out.xo _ rfl).2.2.2.1 hz))⟩
  case rest =>
    obtain ⟨rfl, A', c', B', d', LA', lc', hq, hby⟩ := hcut
    obtain ⟨w3, rfl⟩ : ∃ x, x = wc := ⟨_, rfl⟩
    have Q3 := Lib.hid hq
    have SL := Lib.hid hby.slots
    clear hq hby Q2 HB8 TB1
    go_wp2
    go_loopw [8] (fun i wr => ∃ k : Nat, k ≤ s.length ∧ i = .int .i64 k ∧ Slots .u8 wr (some ⟨W0.heap.size, 0, none⟩) s.length ∧ Upd (fun i => i = W0.heap.size) w3 wr) (fun i _ => s.length - (intOf i).toNat)
    case atStart => exact ⟨0, Nat.zero_le _, rfl, SL.out, Upd.refl _ _⟩
    case round =>
      obtain ⟨k, hk, rfl, hs, hu⟩ := hrel
      clear SL
      by_cases hlt : k < s.length
      · obtain ⟨gg, xx, e7, z0, z1, hset⟩ := hs.get hlt
        cases e7
        have HU := Lib.hid hu
        have HST := Lib.hid hset
        have hgl := HS.out
        clear hs hu hset
        go_wp2
        go_roundw
        case rel => exact ⟨k + 1, by omega, by go_num, HST.out _, HU.out.set _ _ (fun _ => rfl)⟩
        case measure => simp [intOf]; omega
      · obtain rfl : k = s.length := by omega
        have Q4 := Lib.hid (Q3.out.write hu (fun i h => h))
        clear hs hu
        go_wp2
        go_ret
        exact ⟨by simp, S1, some gw, kD D V 0 [s], kV D V 0 ls [s], kLs D V 0 ls [s], A', c', B', d', LA', lc', Q4.out.p (kV_log.trans HT.out.2.1) (kV_all HT.out.1), GR.out.mono (by omega)⟩

/- WalPlays: the walk of does. -/
set_option maxHeartbeats 16000000 in
set_option maxRecDepth 100000 in
theorem bdoes_1 (w0 w : World) (bb : Nat) (S : Nat → Prop) (gw g : Nat) (D : DS) (V : WS) (ls : List (List UInt8)) (A : Option Addr) (c : Nat) (B : Option Addr) (d : Nat) (LA : Option Addr) (lc : Nat) (n : Int) (s : List UInt8) (K : Option Addr) (m c5 : Nat) (ks : List Int) (j : Nat)
    (h : WP w0 w bb S (some gw) g D V ls A c B d LA lc) (hm : m = ks.length) (hK : Cells w0 K (ints ks)) (hs : s.length ≤ 1000) (hks : ks.length ≤ 10) (hn : n ≤ 9223372036854775807) (hj : j ≤ 95) (hg : Good D ls j) :
    Calls Try.prog 64 #[.pointer (some ⟨bb, 0, none⟩), .agg #[.int .i64 1, .int .i64 n, .string (str s), .slice K m c5]] w fun e w' => e = .returned (.bool true) ∧ ∃ S' G' D' V' ls' A' c' B' d' LA' lc', WP w0 w' bb S' G' g D' V' ls' A' c' B' d' LA' lc' ∧ Good D' ls' (j + 2) := by
  subst hm
  have b0 := below_one w (.cells #[.int .i64 1, .int .i64 n, .string (str s), .slice K ks.length c5] 92)
  have n0 := Blk.new w 92 #[.int .i64 1, .int .i64 n, .string (str s), .slice K ks.length c5]
  obtain ⟨W0, hW0⟩ : ∃ W0, W0 = w.alloc (.cells #[.int .i64 1, .int .i64 n, .string (str s), .slice K ks.length c5] 92) := ⟨_, rfl⟩
  rw [← hW0] at b0 n0
  have Q0 := Lib.hid (h.q.later b0)
  have HT := Lib.hid (And.intro h.all (And.intro (h.wal gw rfl).2.2.2 hg))
  have TB := Lib.hid (show ∀ (S1 : Nat → Prop) W, GrewW S S1 gw W0 W → Blk W w.heap.size 92 #[.int .i64 1, .int .i64 n, .string (str s), .slice K ks.length c5] from fun S1 W hg => n0.upd hg.upd (fun hz => by
    rcases hz with hz | hz
    · have := (h.held.own _ hz).2; omega
    · have := h.hw.lt; omega))
  have HW0 := Lib.hid hW0
  have HK := Lib.hid hK
  have HS := Lib.hid hs
  have HKS := Lib.hid hks
  obtain ⟨⟨x0, x1, x2, x3⟩, _⟩ := blk4 n0
  have hdis := h.held.disk
  have HDI := Lib.hid (And.intro hdis.small hdis.armed)
  have HB0 := Lib.hid b0
  have GG := Lib.hid (show D.logs.length ≤ 16 ∧ D.keep.length ≤ 1000000 ∧ D.acts < 1000000000 ∧ (D.log 1).1.length ≤ 1000000 ∧ ls.length ≤ 10000000 from hg.bounds (by omega))
  clear h b0 n0 hW0 hK hg hdis hs hks
  go_enter Try.func64, Try.ntmps64
  go_upto_region 1 with fail
  rw [← HW0.out]
  clear HW0
  go_upto_block 0 with fail
  clear x0 x1 x2 x3
  obtain ⟨⟨y0, y1, y2, y3, y4, y5, y6, y7, y8, y9, y10⟩, f0, f1, f2, f3, f4, f5, f6, f7, f8, f9, f10⟩ := blk11 Q0.out.cells
  go_wp2_with fail
  refine (ksync_calls (ls := ls) Q0.out.real HT.out.1 GG.out.2.2.1).mono ?_
  rintro e v1 ⟨rfl, S1, h1, g1⟩
  have Q2 := Lib.hid (Q0.out.wal h1 g1)
  have GR := Lib.hid (Good.k (kind := 1) (V := V) (xs := []) HT.out.2.2 (by simp) (by simp))
  clear y0 y1 y2 y3 y4 y5 y6 y7 y8 y9 y10 f0 f1 f2 f3 f4 f5 f6 f7 f8 f9 f10 h1 g1 TB
  go_upto_region 14 with fail
  have HR := Lib.hid (show Calls Try.prog 82 #[.agg #[.slice A D.logs.length c, .int .i64 (D.acts : Int), .bool D.down, .int .i64 D.armed, .slice B D.keep.length d], .agg #[.int .i64 V.log, .slice LA ls.length lc, .int .i64 (V.sure : Int), .bool V.dead], .int .i64 1, .slice none 0 0] v1.drew _ from Q2.out.k82 1 none 0 [] v1.drew (bdrew (Below.refl _ _)) (Cells.nil _ _) (by simp) (by simp) GG.out.1 GG.out.2.1 HDI.out.1 (.inr (.inl ⟨rfl, rfl⟩)) GG.out.2.2.1 HDI.out.2 GG.out.2.2.2.2)
  obtain ⟨E, hE1⟩ : ∃ E, E = kE D V 1 [] := ⟨_, rfl⟩
  obtain ⟨D1, hD1⟩ : ∃ D1, D1 = kD D V 1 [] := ⟨_, rfl⟩
  obtain ⟨V1, hV1⟩ : ∃ V1, V1 = kV D V 1 ls [] := ⟨_, rfl⟩
  obtain ⟨L1, hL1⟩ : ∃ L1, L1 = kLs D V 1 ls [] := ⟨_, rfl⟩
  rw [← hE1, ← hD1, ← hV1, ← hL1] at HR
  have HE1 := Lib.hid hE1
  have HD1 := Lib.hid hD1
  have HV1 := Lib.hid hV1
  have HL1 := Lib.hid hL1
  clear hE1 hD1 hV1 hL1
  obtain ⟨⟨y0, y1, y2, y3, y4, y5, y6, y7, y8, y9, y10⟩, f0, f1, f2, f3, f4, f5, f6, f7, f8, f9, f10⟩ := blk11 Q2.out.cells
  go_region_with (first
    | (go_at_call 82; (with_reducible refine Calls.mono HR.out ?_); rintro e v2 ⟨A', c', B', d', LA', lc', rfl, b2, due⟩; have DUE := Lib.hid due; have B2 := Lib.hid b2; have z9 := Q2.out.cells.below b2; clear due b2; have Z9 := Lib.hid z9; obtain ⟨⟨z0, z1, z2, z3, z4, z5, z6, z7, z8, z9, z10⟩, f0, f1, f2, f3, f4, f5, f6, f7, f8, f9, f10⟩ := blk11 z9))
  all_goals
    clear HR
    go_wp2
    go_ret
    obtain ⟨e9, u9⟩ := nine_bset Z9.out (.slice A' D1.logs.length c') (.int .i64 (D1.acts : Int)) (.bool D1.down) (.int .i64 D1.armed) (.slice B' D1.keep.length d') (.int .i64 V1.log) (.slice LA' L1.length lc') (.int .i64 (V1.sure : Int)) (.bool V1.dead)
    exact ⟨by rw [HE1.out]; simp, S1, some gw, D1, V1, L1, A', c', B', d', LA', lc', (DUE.out _ u9 e9).p (by rw [HV1.out]; exact kV_log.trans HT.out.2.1) (by rw [HV1.out, HL1.out]; exact kV_all HT.out.1), by rw [HD1.out, HL1.out]; exact GR.out.mono (by omega)⟩

/- WalPlays: the walk of does. -/
set_option maxHeartbeats 16000000 in
set_option maxRecDepth 100000 in
theorem bdoes_2 (w0 w : World) (bb : Nat) (S : Nat → Prop) (gw g : Nat) (D : DS) (V : WS) (ls : List (List UInt8)) (A : Option Addr) (c : Nat) (B : Option Addr) (d : Nat) (LA : Option Addr) (lc : Nat) (n : Int) (s : List UInt8) (K : Option Addr) (m c5 : Nat) (ks : List Int) (j : Nat)
    (h : WP w0 w bb S (some gw) g D V ls A c B d LA lc) (hm : m = ks.length) (hK : Cells w0 K (ints ks)) (hs : s.length ≤ 1000) (hks : ks.length ≤ 10) (hn : n ≤ 9223372036854775807) (hj : j ≤ 95) (hg : Good D ls j) :
    Calls Try.prog 64 #[.pointer (some ⟨bb, 0, none⟩), .agg #[.int .i64 2, .int .i64 n, .string (str s), .slice K m c5]] w fun e w' => e = .returned (.bool true) ∧ ∃ S' G' D' V' ls' A' c' B' d' LA' lc', WP w0 w' bb S' G' g D' V' ls' A' c' B' d' LA' lc' ∧ Good D' ls' (j + 2) := by
  subst hm
  have b0 := below_one w (.cells #[.int .i64 2, .int .i64 n, .string (str s), .slice K ks.length c5] 92)
  have n0 := Blk.new w 92 #[.int .i64 2, .int .i64 n, .string (str s), .slice K ks.length c5]
  obtain ⟨W0, hW0⟩ : ∃ W0, W0 = w.alloc (.cells #[.int .i64 2, .int .i64 n, .string (str s), .slice K ks.length c5] 92) := ⟨_, rfl⟩
  rw [← hW0] at b0 n0
  have Q0 := Lib.hid (h.q.later b0)
  have HT := Lib.hid (And.intro h.all (And.intro (h.wal gw rfl).2.2.2 hg))
  have TB := Lib.hid (show ∀ (S1 : Nat → Prop) W, GrewW S S1 gw W0 W → Blk W w.heap.size 92 #[.int .i64 2, .int .i64 n, .string (str s), .slice K ks.length c5] from fun S1 W hg => n0.upd hg.upd (fun hz => by
    rcases hz with hz | hz
    · have := (h.held.own _ hz).2; omega
    · have := h.hw.lt; omega))
  have HW0 := Lib.hid hW0
  have HK := Lib.hid hK
  have HS := Lib.hid hs
  have HKS := Lib.hid hks
  obtain ⟨⟨x0, x1, x2, x3⟩, _⟩ := blk4 n0
  have hdis := h.held.disk
  have HDI := Lib.hid (And.intro hdis.small hdis.armed)
  have HB0 := Lib.hid b0
  have GG := Lib.hid (show D.logs.length ≤ 16 ∧ D.keep.length ≤ 1000000 ∧ D.acts < 1000000000 ∧ (D.log 1).1.length ≤ 1000000 ∧ ls.length ≤ 10000000 from hg.bounds (by omega))
  clear h b0 n0 hW0 hK hg hdis hs hks
  go_enter Try.func64, Try.ntmps64
  go_upto_region 1 with fail
  rw [← HW0.out]
  clear HW0
  go_upto_block 0 with fail
  clear x0 x1 x2 x3
  obtain ⟨⟨y0, y1, y2, y3, y4, y5, y6, y7, y8, y9, y10⟩, f0, f1, f2, f3, f4, f5, f6, f7, f8, f9, f10⟩ := blk11 Q0.out.cells
  obtain ⟨⟨x0, x1, x2, x3⟩, _⟩ := blk4 (TB.out S W0 GrewW.refl)
  have hxb := freshOf_le (ks := ks) HS.out
  have hxl : (freshOf s ks).length ≤ 10 := by rw [freshOf_len]; exact HKS.out
  have HF0 := Lib.hid (fun W (hb : Below w0.heap.size w0 W) => lfresh_calls 2 n s K ks.length c5 ks W rfl (HK.out.below hb) HS.out HKS.out)
  generalize freshOf s ks = xs at hxb hxl HF0
  have HF1 := Lib.hid (show ∀ W, Below W0.heap.size W0 W → Calls Try.prog 83 #[.agg #[.int .i64 2, .int .i64 n, .string (str s), .slice K ks.length c5]] W (fun e w' => ∃ A1 c1, e = .returned (.slice A1 xs.length c1) ∧ Below W.heap.size W w' ∧ Hid (Cells w' A1 (strs xs))) from fun W hb => (HF0.out W (Q0.out.real.below.trans (hb.mono Q0.out.real.below.size))).mono (by
    rintro e w' ⟨A1, c1, rfl, h1, _, h3⟩
    exact ⟨A1, c1, rfl, h3, Lib.hid h1⟩))
  have HF2 := Lib.hid (show ∀ W A1 c1, Cells W A1 (strs xs) → Calls Try.prog 61 #[.slice A1 xs.length c1] W (fun e w' => ∃ A2 c2, e = .returned (.slice A2 xs.length c2) ∧ Below W.heap.size W w' ∧ Hid (LCells w' A2 xs)) from fun W A1 c1 hc => (pbytes_calls A1 xs.length c1 xs W rfl hc hxb (by omega)).mono (by
    rintro e w' ⟨A2, c2, rfl, h1, h2⟩
    exact ⟨A2, c2, rfl, h2, Lib.hid h1⟩))
  have HF3 := Lib.hid (show ∀ W A2 c2, Below W0.heap.size W0 W → LCells W A2 xs → Calls Try.prog 60 #[.pointer (some ⟨gw, 0, none⟩), .slice A2 xs.length c2] W (fun e w' => e = .returned (.int .i64 (kE D V 2 xs)) ∧ ∃ S1, Hid (WQ w0 w' bb NoX S1 gw g (kD D V 2 xs) (kV D V 2 ls xs) D V ls A c B d LA lc) ∧ Hid (Blk w' w.heap.size 92 #[.int .i64 2, .int .i64 n, .string (str s), .slice K ks.length c5])) from fun W A2 c2 hb hl => (kfresh_calls (ls := ls) (Q0.out.later hb).real HT.out.1 A2 xs.length c2 xs rfl hl hxb (by omega) GG.out.2.2.1).mono (by
    rintro e w' ⟨rfl, S1, h1, h2⟩
    exact ⟨rfl, S1, Lib.hid ((Q0.out.later hb).wal h1 h2), Lib.hid (TB.out S1 w' ((GrewW.later hb).trans h2))⟩))
  have FK := Lib.hid (show ∀ W, Below W0.heap.size W0 W → (W.cell? ⟨bb, 1, none⟩ = some (.pointer (some ⟨gw, 0, none⟩))) ∧ W.cell? ⟨w.heap.size, 0, none⟩ = some (.int .i64 2) ∧ W.cell? ⟨w.heap.size, 1, none⟩ = some (.int .i64 n) ∧ W.cell? ⟨w.heap.size, 2, none⟩ = some (.string (str s)) ∧ W.cell? ⟨w.heap.size, 3, none⟩ = some (.slice K ks.length c5) from fun W hb =>
    ⟨(Q0.out.cells.below hb).cell 1 _ rfl, ((TB.out S W0 GrewW.refl).below hb).cell 0 _ rfl, ((TB.out S W0 GrewW.refl).below hb).cell 1 _ rfl, ((TB.out S W0 GrewW.refl).below hb).cell 2 _ rfl, ((TB.out S W0 GrewW.refl).below hb).cell 3 _ rfl⟩)
  have hb0 : Below W0.heap.size W0 W0.drew := bdrew (Below.refl _ _)
  have HF9 := HF0
  clear HF0
  go_upto_region 16 with fail
  go_region_held3 (fun W => W.cell? ⟨bb, 1, none⟩ = some (.pointer (some ⟨gw, 0, none⟩)) ∧ W.cell? ⟨w.heap.size, 0, none⟩ = some (.int .i64 2) ∧ W.cell? ⟨w.heap.size, 1, none⟩ = some (.int .i64 n) ∧ W.cell? ⟨w.heap.size, 2, none⟩ = some (.string (str s)) ∧ W.cell? ⟨w.heap.size, 3, none⟩ = some (.slice K ks.length c5)) (go_keep)
    (first
      | (go_at_call 83; (with_reducible refine Calls.mono (HF1.out _ hb0) ?_); rintro e va ⟨A1, c1, rfl, ba, ca⟩; have hb1 := hb0.trans (ba.mono hb0.size); obtain ⟨s0, s1, s2, s3, s4⟩ := FK.out va hb1)
      | (go_at_call 61; (with_reducible refine Calls.mono (HF2.out _ _ _ ca.out) ?_); rintro e vb ⟨A2, c2, rfl, bb2, la⟩; have hb2 := hb1.trans (bb2.mono hb1.size); obtain ⟨t0, t1, t2, t3, t4⟩ := FK.out vb hb2)
      | (go_at_call 60; (with_reducible refine Calls.mono (HF3.out _ _ _ hb2 la.out) ?_); rintro e v1 ⟨rfl, S1, Q2, TB1⟩; have u0 := Q2.out.cells.cell 1 _ rfl; obtain ⟨⟨u1, u2, u3, u4⟩, _⟩ := blk4 TB1.out))
  clear y0 y1 y2 y3 y4 y5 y6 y7 y8 y9 y10 f0 f1 f2 f3 f4 f5 f6 f7 f8 f9 f10 x0 x1 x2 x3 s0 s1 s2 s3 s4 t0 t1 t2 t3 t4 HF1 HF2 HF3 FK hb0 hb1 hb2 ba ca bb2 la u0 u1 u2 u3 u4
  have GR := Lib.hid (Good.k (kind := 2) (V := V) (xs := xs) HT.out.2.2 hxb hxl)
  go_upto_region 17 with fail
  have HR := Lib.hid (show ∀ W Xa xc, Below v1.heap.size v1 W → Cells W Xa (strs xs) → Calls Try.prog 82 #[.agg #[.slice A D.logs.length c, .int .i64 (D.acts : Int), .bool D.down, .int .i64 D.armed, .slice B D.keep.length d], .agg #[.int .i64 V.log, .slice LA ls.length lc, .int .i64 (V.sure : Int), .bool V.dead], .int .i64 2, .slice Xa xs.length xc] W _ from fun W Xa xc hb hX => Q2.out.k82 2 Xa xc xs W hb hX hxb (by omega) GG.out.1 GG.out.2.1 HDI.out.1 (.inr (.inr rfl)) GG.out.2.2.1 HDI.out.2 GG.out.2.2.2.2)
  have HF1 := Lib.hid (show ∀ W, Below v1.heap.size v1 W → Calls Try.prog 83 #[.agg #[.int .i64 2, .int .i64 n, .string (str s), .slice K ks.length c5]] W (fun e w' => ∃ A1 c1, e = .returned (.slice A1 xs.length c1) ∧ Below W.heap.size W w' ∧ Hid (Cells w' A1 (strs xs))) from fun W hb => (HF9.out W (Q2.out.real.below.trans (hb.mono Q2.out.real.below.size))).mono (by
    rintro e w' ⟨A1, c1, rfl, h1, _, h3⟩
    exact ⟨A1, c1, rfl, h3, Lib.hid h1⟩))
  have hbr : Below v1.heap.size v1 v1.drew := bdrew (Below.refl _ _)
  obtain ⟨⟨x0, x1, x2, x3⟩, _⟩ := blk4 TB1.out
  clear hxb hxl HF9 TB
  obtain ⟨E, hE1⟩ : ∃ E, E = kE D V 2 xs := ⟨_, rfl⟩
  obtain ⟨D1, hD1⟩ : ∃ D1, D1 = kD D V 2 xs := ⟨_, rfl⟩
  obtain ⟨V1, hV1⟩ : ∃ V1, V1 = kV D V 2 ls xs := ⟨_, rfl⟩
  obtain ⟨L1, hL1⟩ : ∃ L1, L1 = kLs D V 2 ls xs := ⟨_, rfl⟩
  rw [← hE1, ← hD1, ← hV1, ← hL1] at HR
  have HE1 := Lib.hid hE1
  have HD1 := Lib.hid hD1
  have HV1 := Lib.hid hV1
  have HL1 := Lib.hid hL1
  clear hE1 hD1 hV1 hL1
  obtain ⟨⟨y0, y1, y2, y3, y4, y5, y6, y7, y8, y9, y10⟩, f0, f1, f2, f3, f4, f5, f6, f7, f8, f9, f10⟩ := blk11 Q2.out.cells
  go_region_with (first
    | (go_at_call 83; (with_reducible refine Calls.mono (HF1.out _ hbr) ?_); rintro e va ⟨A1, c1, rfl, ba, ca⟩; have hb1 := hbr.trans (ba.mono hbr.size); obtain ⟨⟨s0, s1, s2, s3, s4, s5, s6, s7, s8, s9, s10⟩, _⟩ := blk11 (Q2.out.cells.below hb1))
    | (go_at_call 82; (with_reducible refine Calls.mono (HR.out _ _ _ hb1 ca.out) ?_); rintro e v2 ⟨A', c', B', d', LA', lc', rfl, b2, due⟩; have DUE := Lib.hid due; have B2 := Lib.hid b2; have z9 := Q2.out.cells.below b2; clear due b2; have Z9 := Lib.hid z9; obtain ⟨⟨z0, z1, z2, z3, z4, z5, z6, z7, z8, z9, z10⟩, f0, f1, f2, f3, f4, f5, f6, f7, f8, f9, f10⟩ := blk11 z9))
  all_goals
    clear HR HF1 hbr hb1 ba ca
    go_wp2
    go_ret
    obtain ⟨e9, u9⟩ := nine_bset Z9.out (.slice A' D1.logs.length c') (.int .i64 (D1.acts : Int)) (.bool D1.down) (.int .i64 D1.armed) (.slice B' D1.keep.length d') (.int .i64 V1.log) (.slice LA' L1.length lc') (.int .i64 (V1.sure : Int)) (.bool V1.dead)
    exact ⟨by rw [HE1.out]; simp, S1, some gw, D1, V1, L1, A', c', B', d', LA', lc', (DUE.out _ u9 e9).p (by rw [HV1.out]; exact kV_log.trans HT.out.2.1) (by rw [HV1.out, HL1.out]; exact kV_all HT.out.1), by rw [HD1.out, HL1.out]; exact GR.out.mono (by omega)⟩

/- WalPlays: the walk of does. -/
set_option maxHeartbeats 16000000 in
set_option maxRecDepth 100000 in
theorem bdoes_3 (w0 w : World) (bb : Nat) (S : Nat → Prop) (gw g : Nat) (D : DS) (V : WS) (ls : List (List UInt8)) (A : Option Addr) (c : Nat) (B : Option Addr) (d : Nat) (LA : Option Addr) (lc : Nat) (n : Int) (s : List UInt8) (K : Option Addr) (m c5 : Nat) (ks : List Int) (j : Nat)
    (h : WP w0 w bb S (some gw) g D V ls A c B d LA lc) (hm : m = ks.length) (hK : Cells w0 K (ints ks)) (hs : s.length ≤ 1000) (hks : ks.length ≤ 10) (hn : n ≤ 9223372036854775807) (hj : j ≤ 95) (hg : Good D ls j) :
    Calls Try.prog 64 #[.pointer (some ⟨bb, 0, none⟩), .agg #[.int .i64 3, .int .i64 n, .string (str s), .slice K m c5]] w fun e w' => e = .returned (.bool true) ∧ ∃ S' G' D' V' ls' A' c' B' d' LA' lc', WP w0 w' bb S' G' g D' V' ls' A' c' B' d' LA' lc' ∧ Good D' ls' (j + 2) := by
  subst hm
  have b0 := below_one w (.cells #[.int .i64 3, .int .i64 n, .string (str s), .slice K ks.length c5] 92)
  have n0 := Blk.new w 92 #[.int .i64 3, .int .i64 n, .string (str s), .slice K ks.length c5]
  obtain ⟨W0, hW0⟩ : ∃ W0, W0 = w.alloc (.cells #[.int .i64 3, .int .i64 n, .string (str s), .slice K ks.length c5] 92) := ⟨_, rfl⟩
  rw [← hW0] at b0 n0
  have Q0 := Lib.hid (h.q.later b0)
  have HT := Lib.hid (And.intro h.all (And.intro (h.wal gw rfl).2.2.2 hg))
  have TB := Lib.hid (show ∀ (S1 : Nat → Prop) W, GrewW S S1 gw W0 W → Blk W w.heap.size 92 #[.int .i64 3, .int .i64 n, .string (str s), .slice K ks.length c5] from fun S1 W hg => n0.upd hg.upd (fun hz => by
    rcases hz with hz | hz
    · have := (h.held.own _ hz).2; omega
    · have := h.hw.lt; omega))
  have HW0 := Lib.hid hW0
  have HK := Lib.hid hK
  have HS := Lib.hid hs
  have HKS := Lib.hid hks
  obtain ⟨⟨x0, x1, x2, x3⟩, _⟩ := blk4 n0
  have hdis := h.held.disk
  have HDI := Lib.hid (And.intro hdis.small hdis.armed)
  have HB0 := Lib.hid b0
  have GG := Lib.hid (show D.logs.length ≤ 16 ∧ D.keep.length ≤ 1000000 ∧ D.acts < 1000000000 ∧ (D.log 1).1.length ≤ 1000000 ∧ ls.length ≤ 10000000 from hg.bounds (by omega))
  clear h b0 n0 hW0 hK hg hdis hs hks
  go_enter Try.func64, Try.ntmps64
  go_upto_region 1 with fail
  rw [← HW0.out]
  clear HW0
  go_upto_block 0 with fail
  clear x0 x1 x2 x3
  obtain ⟨⟨y0, y1, y2, y3, y4, y5, y6, y7, y8, y9, y10⟩, f0, f1, f2, f3, f4, f5, f6, f7, f8, f9, f10⟩ := blk11 Q0.out.cells
  obtain ⟨⟨x0, x1, x2, x3⟩, _⟩ := blk4 (TB.out S W0 GrewW.refl)
  have HA1 := Lib.hid (held_arm0 (Q0.out.real.held.later (bdrew (Below.refl _ _))) n K ks.length c5 ks rfl hn HK.out (by have := HKS.out; omega))
  go_upto_region 19 with fail
  go_region_held3 (fun W => W.cell? ⟨bb, 0, none⟩ = some (.pointer (some ⟨g, 0, none⟩)) ∧ W.cell? ⟨w.heap.size, 1, none⟩ = some (.int .i64 n) ∧ W.cell? ⟨w.heap.size, 3, none⟩ = some (.slice K ks.length c5)) (go_keep)
    (first
      | (go_at_call 38; (with_reducible refine Calls.mono HA1.out ?_); rintro e v1 ⟨rfl, S1, h1, g1⟩; have Q2 := Lib.hid ((Q0.out.later (bdrew (Below.refl _ _))).disk h1 g1); have TB1 := Lib.hid (TB.out S1 v1 ((GrewW.later (bdrew (Below.refl _ _))).trans (GrewW.of_grew g1))); clear h1 g1; have q2 := Q2.out.cells; have t2 := TB1.out; obtain ⟨⟨s0, s1, s2, s3, s4, s5, s6, s7, s8, s9, s10⟩, _⟩ := blk11 q2; obtain ⟨⟨r0, r1, r2, r3⟩, _⟩ := blk4 t2; clear q2 t2))
  clear y0 y1 y2 y3 y4 y5 y6 y7 y8 y9 y10 f0 f1 f2 f3 f4 f5 f6 f7 f8 f9 f10 x0 x1 x2 x3 HA1
  have GR := Lib.hid (Good.arm (n := n) HT.out.2.2 HKS.out)
  have HR := Lib.hid (Q2.out.k76 n K c5 ks v1.drew (bdrew (Below.refl _ _)) (HK.out.below ((Q2.out.later (bdrew (Below.refl _ _))).real.below)) HKS.out GG.out.1 GG.out.2.1)
  obtain ⟨D1, hD1⟩ : ∃ D1, D1 = D.arm n ks := ⟨_, rfl⟩
  rw [← hD1] at HR
  have HD1 := Lib.hid hD1
  clear hD1 TB
  go_upto_region 20 with fail
  clear s0 s1 s2 s3 s4 s5 s6 s7 s8 s9 s10 r0 r1 r2 r3
  obtain ⟨⟨x0, x1, x2, x3⟩, _⟩ := blk4 TB1.out
  obtain ⟨⟨y0, y1, y2, y3, y4, y5, y6, y7, y8, y9, y10⟩, f0, f1, f2, f3, f4, f5, f6, f7, f8, f9, f10⟩ := blk11 Q2.out.cells
  go_region_with (first
    | (go_at_call 76; (with_reducible refine Calls.mono HR.out ?_); rintro e v2 ⟨A', c', B', d', rfl, b2, due⟩; have DUE := Lib.hid due; have z9 := Q2.out.cells.below b2; clear due b2; have Z9 := Lib.hid z9; obtain ⟨⟨z0, z1, z2, z3, z4, z5, z6, z7, z8, z9, z10⟩, f0, f1, f2, f3, f4, f5, f6, f7, f8, f9, f10⟩ := blk11 z9))
  all_goals
    clear HR
    go_wp2
    go_ret
    obtain ⟨e9, u9⟩ := five_bset Z9.out (.slice A' D1.logs.length c') (.int .i64 (D1.acts : Int)) (.bool D1.down) (.int .i64 D1.armed) (.slice B' D1.keep.length d')
    have hwq := DUE.out _ u9 e9
    exact ⟨rfl, S1, some gw, D1, V, ls, A', c', B', d', LA, lc, (by rw [HD1.out] at hwq ⊢; exact hwq.p HT.out.2.1 HT.out.1), by rw [HD1.out]; exact GR.out.mono (by omega)⟩

/- WalPlays: the walk of does. -/
set_option maxHeartbeats 16000000 in
set_option maxRecDepth 100000 in
theorem bdoes_4 (w0 w : World) (bb : Nat) (S : Nat → Prop) (gw g : Nat) (D : DS) (V : WS) (ls : List (List UInt8)) (A : Option Addr) (c : Nat) (B : Option Addr) (d : Nat) (LA : Option Addr) (lc : Nat) (n : Int) (s : List UInt8) (K : Option Addr) (m c5 : Nat) (ks : List Int) (j : Nat)
    (h : WP w0 w bb S (some gw) g D V ls A c B d LA lc) (hm : m = ks.length) (hK : Cells w0 K (ints ks)) (hs : s.length ≤ 1000) (hks : ks.length ≤ 10) (hn : n ≤ 9223372036854775807) (hj : j ≤ 95) (hg : Good D ls j) :
    Calls Try.prog 64 #[.pointer (some ⟨bb, 0, none⟩), .agg #[.int .i64 4, .int .i64 n, .string (str s), .slice K m c5]] w fun e w' => e = .returned (.bool true) ∧ ∃ S' G' D' V' ls' A' c' B' d' LA' lc', WP w0 w' bb S' G' g D' V' ls' A' c' B' d' LA' lc' ∧ Good D' ls' (j + 2) := by
  subst hm
  have b0 := below_one w (.cells #[.int .i64 4, .int .i64 n, .string (str s), .slice K ks.length c5] 92)
  have n0 := Blk.new w 92 #[.int .i64 4, .int .i64 n, .string (str s), .slice K ks.length c5]
  obtain ⟨W0, hW0⟩ : ∃ W0, W0 = w.alloc (.cells #[.int .i64 4, .int .i64 n, .string (str s), .slice K ks.length c5] 92) := ⟨_, rfl⟩
  rw [← hW0] at b0 n0
  have Q0 := Lib.hid (h.q.later b0)
  have HT := Lib.hid (And.intro h.all (And.intro (h.wal gw rfl).2.2.2 hg))
  have TB := Lib.hid (show ∀ (S1 : Nat → Prop) W, GrewW S S1 gw W0 W → Blk W w.heap.size 92 #[.int .i64 4, .int .i64 n, .string (str s), .slice K ks.length c5] from fun S1 W hg => n0.upd hg.upd (fun hz => by
    rcases hz with hz | hz
    · have := (h.held.own _ hz).2; omega
    · have := h.hw.lt; omega))
  have HW0 := Lib.hid hW0
  have HK := Lib.hid hK
  have HS := Lib.hid hs
  have HKS := Lib.hid hks
  obtain ⟨⟨x0, x1, x2, x3⟩, _⟩ := blk4 n0
  have hdis := h.held.disk
  have HDI := Lib.hid (And.intro hdis.small hdis.armed)
  have HB0 := Lib.hid b0
  have GG := Lib.hid (show D.logs.length ≤ 16 ∧ D.keep.length ≤ 1000000 ∧ D.acts < 1000000000 ∧ (D.log 1).1.length ≤ 1000000 ∧ ls.length ≤ 10000000 from hg.bounds (by omega))
  clear h b0 n0 hW0 hK hg hdis hs hks
  go_enter Try.func64, Try.ntmps64
  go_upto_region 1 with fail
  rw [← HW0.out]
  clear HW0
  go_upto_block 0 with fail
  clear x0 x1 x2 x3
  obtain ⟨⟨y0, y1, y2, y3, y4, y5, y6, y7, y8, y9, y10⟩, f0, f1, f2, f3, f4, f5, f6, f7, f8, f9, f10⟩ := blk11 Q0.out.cells
  obtain ⟨⟨x0, x1, x2, x3⟩, _⟩ := blk4 (TB.out S W0 GrewW.refl)
  have HA1 := Lib.hid (held_crash0 (Q0.out.real.held.later (bdrew (Below.refl _ _))) K ks.length c5 ks rfl HK.out)
  go_upto_region 22 with fail
  go_region_held3 (fun W => W.cell? ⟨bb, 0, none⟩ = some (.pointer (some ⟨g, 0, none⟩)) ∧ W.cell? ⟨w.heap.size, 3, none⟩ = some (.slice K ks.length c5)) (go_keep)
    (first
      | (go_at_call 51; (with_reducible refine Calls.mono HA1.out ?_); rintro e v1 ⟨rfl, S1, h1, g1⟩; have Q2 := Lib.hid ((Q0.out.later (bdrew (Below.refl _ _))).disk h1 g1); have TB1 := Lib.hid (TB.out S1 v1 ((GrewW.later (bdrew (Below.refl _ _))).trans (GrewW.of_grew g1))); clear h1 g1; have q2 := Q2.out.cells; have t2 := TB1.out; obtain ⟨⟨s0, s1, s2, s3, s4, s5, s6, s7, s8, s9, s10⟩, _⟩ := blk11 q2; obtain ⟨⟨r0, r1, r2, r3⟩, _⟩ := blk4 t2; clear q2 t2))
  clear y0 y1 y2 y3 y4 y5 y6 y7 y8 y9 y10 f0 f1 f2 f3 f4 f5 f6 f7 f8 f9 f10 x0 x1 x2 x3 HA1
  have GR := Lib.hid (Good.crash (ks := ks) HT.out.2.2)
  have HR := Lib.hid (Q2.out.k77 K c5 ks v1.drew (bdrew (Below.refl _ _)) (HK.out.below ((Q2.out.later (bdrew (Below.refl _ _))).real.below)) HKS.out GG.out.1 GG.out.2.1 HDI.out.1)
  obtain ⟨D1, hD1⟩ : ∃ D1, D1 = D.crash ks := ⟨_, rfl⟩
  obtain ⟨D2, hD2⟩ : ∃ D2, D2 = ({ D1 with down := false } : DS) := ⟨_, rfl⟩
  rw [← hD1] at HR Q2 GR
  rw [← hD2] at HR GR
  have HD2 := Lib.hid hD2
  clear hD1 hD2 TB
  go_upto_region 23 with fail
  clear s0 s1 s2 s3 s4 s5 s6 s7 s8 s9 s10 r0 r1 r2 r3
  obtain ⟨⟨x0, x1, x2, x3⟩, _⟩ := blk4 TB1.out
  obtain ⟨⟨y0, y1, y2, y3, y4, y5, y6, y7, y8, y9, y10⟩, f0, f1, f2, f3, f4, f5, f6, f7, f8, f9, f10⟩ := blk11 Q2.out.cells
  have hbr : Below v1.heap.size v1 v1.drew := bdrew (Below.refl _ _)
  go_region_with (first
    | (go_at_call 77; (with_reducible refine Calls.mono HR.out ?_); rintro e v2 ⟨A', c', B', d', rfl, b2, due⟩)
    | (go_at_call 63; (with_reducible refine Calls.mono (rup_calls A' B' D1.logs.length c' D1.keep.length d' D1.acts D1.down D1.armed v2) ?_); rintro e v3 ⟨rfl, b3⟩; have DUE := Lib.hid (due v3 b3); have z9 := Q2.out.cells.below (b2.trans (b3.mono b2.size)); clear due b2 b3; have Z9 := Lib.hid z9; obtain ⟨⟨z0, z1, z2, z3, z4, z5, z6, z7, z8, z9, z10⟩, f0, f1, f2, f3, f4, f5, f6, f7, f8, f9, f10⟩ := blk11 z9))
  all_goals
    clear HR hbr y0 y1 y2 y3 y4 y5 y6 y7 y8 y9 y10 f0 f1 f2 f3 f4 f5 f6 f7 f8 f9 f10 x0 x1 x2 x3 z0 z1 z2 z3 z4 z5 z6 z7 z8 z9 z10
    obtain ⟨e9, u9⟩ := five_bset Z9.out (.slice A' D1.logs.length c') (.int .i64 (D1.acts : Int)) (.bool false) (.int .i64 D1.armed) (.slice B' D1.keep.length d')
    have Q3 := Lib.hid (DUE.out _ u9 (by rw [HD2.out]; exact e9))
    clear e9 u9 DUE Z9
    generalize (((((v3.setCell ⟨bb, 2, none⟩ (.slice A' D1.logs.length c')).setCell ⟨bb, 3, none⟩ (.int .i64 (D1.acts : Int))).setCell ⟨bb, 4, none⟩ (.bool false)).setCell ⟨bb, 5, none⟩ (.int .i64 D1.armed)).setCell ⟨bb, 6, none⟩ (.slice B' D1.keep.length d')) = v4 at Q3 ⊢
    obtain ⟨⟨y0, y1, y2, y3, y4, y5, y6, y7, y8, y9, y10⟩, f0, f1, f2, f3, f4, f5, f6, f7, f8, f9, f10⟩ := blk11 Q3.out.cells
    go_wp2_with fail
    refine (held_up Q3.out.real.held).mono ?_
    rintro e v5 ⟨rfl, S2, h2, g2⟩
    rw [← HD2.out] at h2
    have HWP := Lib.hid ((Q3.out.disk h2 g2).p HT.out.2.1 HT.out.1)
    clear y0 y1 y2 y3 y4 y5 y6 y7 y8 y9 y10 f0 f1 f2 f3 f4 f5 f6 f7 f8 f9 f10 h2 g2 Q3
    have hb := GR.out.bounds (by omega)
    go_wp2_with fail
    refine (bopen_calls w0 v5 bb S2 (some gw) g D2 V ls A' c' B' d' LA lc HWP.out hb.1 hb.2.1 hb.2.2.1 hb.2.2.2.1).mono ?_
    rintro e w9 ⟨rfl, S', G', V', ls', A2, c2, B2, d2, LA2, lc2, hp, hl⟩
    have HP := Lib.hid hp
    have HLL := Lib.hid hl
    clear hp hl hb
    go_wp2
    go_ret
    exact ⟨rfl, S', G', _, V', ls', A2, c2, B2, d2, LA2, lc2, HP.out, (GR.out.open HLL.out).mono (by omega)⟩

/- WalPlays: the walk of does. -/
set_option maxHeartbeats 16000000 in
set_option maxRecDepth 100000 in
theorem bdoes_5 (w0 w : World) (bb : Nat) (S : Nat → Prop) (gw g : Nat) (D : DS) (V : WS) (ls : List (List UInt8)) (A : Option Addr) (c : Nat) (B : Option Addr) (d : Nat) (LA : Option Addr) (lc : Nat) (n : Int) (s : List UInt8) (K : Option Addr) (m c5 : Nat) (ks : List Int) (j : Nat)
    (h : WP w0 w bb S (some gw) g D V ls A c B d LA lc) (hm : m = ks.length) (hK : Cells w0 K (ints ks)) (hs : s.length ≤ 1000) (hks : ks.length ≤ 10) (hn : n ≤ 9223372036854775807) (hj : j ≤ 95) (hg : Good D ls j) :
    Calls Try.prog 64 #[.pointer (some ⟨bb, 0, none⟩), .agg #[.int .i64 5, .int .i64 n, .string (str s), .slice K m c5]] w fun e w' => e = .returned (.bool true) ∧ ∃ S' G' D' V' ls' A' c' B' d' LA' lc', WP w0 w' bb S' G' g D' V' ls' A' c' B' d' LA' lc' ∧ Good D' ls' (j + 2) := by
  subst hm
  have b0 := below_one w (.cells #[.int .i64 5, .int .i64 n, .string (str s), .slice K ks.length c5] 92)
  have n0 := Blk.new w 92 #[.int .i64 5, .int .i64 n, .string (str s), .slice K ks.length c5]
  obtain ⟨W0, hW0⟩ : ∃ W0, W0 = w.alloc (.cells #[.int .i64 5, .int .i64 n, .string (str s), .slice K ks.length c5] 92) := ⟨_, rfl⟩
  rw [← hW0] at b0 n0
  have Q0 := Lib.hid (h.q.later b0)
  have HT := Lib.hid (And.intro h.all (And.intro (h.wal gw rfl).2.2.2 hg))
  have TB := Lib.hid (show ∀ (S1 : Nat → Prop) W, GrewW S S1 gw W0 W → Blk W w.heap.size 92 #[.int .i64 5, .int .i64 n, .string (str s), .slice K ks.length c5] from fun S1 W hg => n0.upd hg.upd (fun hz => by
    rcases hz with hz | hz
    · have := (h.held.own _ hz).2; omega
    · have := h.hw.lt; omega))
  have HW0 := Lib.hid hW0
  have HK := Lib.hid hK
  have HS := Lib.hid hs
  have HKS := Lib.hid hks
  obtain ⟨⟨x0, x1, x2, x3⟩, _⟩ := blk4 n0
  have hdis := h.held.disk
  have HDI := Lib.hid (And.intro hdis.small hdis.armed)
  have HB0 := Lib.hid b0
  have GG := Lib.hid (show D.logs.length ≤ 16 ∧ D.keep.length ≤ 1000000 ∧ D.acts < 1000000000 ∧ (D.log 1).1.length ≤ 1000000 ∧ ls.length ≤ 10000000 from hg.bounds (by omega))
  clear h b0 n0 hW0 hK hg hdis hs hks
  go_enter Try.func64, Try.ntmps64
  go_upto_region 1 with fail
  rw [← HW0.out]
  clear HW0
  go_upto_block 0 with fail
  clear x0 x1 x2 x3
  obtain ⟨⟨y0, y1, y2, y3, y4, y5, y6, y7, y8, y9, y10⟩, f0, f1, f2, f3, f4, f5, f6, f7, f8, f9, f10⟩ := blk11 Q0.out.cells
  obtain ⟨⟨x0, x1, x2, x3⟩, _⟩ := blk4 (TB.out S W0 GrewW.refl)
  go_upto_region 27 with fail
  go_cut [5] from 167 to 174 (fun s5 wx => s5 = .int .i64 (D.appErr 1 s) ∧ ∃ S1, WQ w0 wx bb NoX S1 gw g (D.append 1 s) V D V ls A c B d LA lc ∧ Blk wx w.heap.size 92 #[.int .i64 5, .int .i64 n, .string (str s), .slice K ks.length c5])
  case first =>
    have kc := fun (w : World) => Lib.run_convert_string_bytes (P := Try.prog) w 9 22 5 (str s) Try.underlying9 Try.underlying22 Try.underlying5
    have hbw : Below W0.heap.size W0 (Lib.bytesWorld W0.drew 5 (str s)) := (bdrew (Below.refl _ _)).trans (bytesWorld_below W0.drew 5 (str s))
    have HAP := Lib.hid (show ∀ cap, Calls Try.prog 40 #[.pointer (some ⟨g, 0, none⟩), .int .i64 1, .slice (some ⟨W0.heap.size, 0, none⟩) (str s).size cap] (Lib.bytesWorld W0.drew 5 (str s)) (fun e w' => e = .returned (.int .i64 (D.appErr 1 s)) ∧ ∃ S1, Hid (WQ w0 w' bb NoX S1 gw g (D.append 1 s) V D V ls A c B d LA lc) ∧ Hid (Blk w' w.heap.size 92 #[.int .i64 5, .int .i64 n, .string (str s), .slice K ks.length c5])) from fun cap =>
      (held_append Q0.out.real.held hbw 1 (some ⟨W0.heap.size, 0, none⟩) (str s).size cap s (str_size s) ((bytesWorld_bytes W0.drew s).cells (by have := HS.out; omega)) (fun ad e => by cases e; exact .inr (Nat.le_refl _)) (by have := HS.out; omega) GG.out.2.2.1).mono (by
        rintro e w' ⟨rfl, S1, h1, h2⟩
        exact ⟨rfl, S1, Lib.hid ((Q0.out.later hbw).disk h1 h2), Lib.hid (TB.out S1 w' ((GrewW.later hbw).trans (GrewW.of_grew h2)))⟩))
    obtain ⟨p0, _⟩ := blk11 (Q0.out.cells.below hbw)
    obtain ⟨p0, _⟩ := p0
    go_region_with (first
      | (go_at_call 40; (with_reducible refine Calls.mono (HAP.out _) ?_); rintro e v1 ⟨rfl, S1, q2, t2⟩))
    all_goals
      clear HAP kc hbw p0
      go_wp2_with fail
      go_meet
      exact ⟨rfl, S1, q2.out, t2.out⟩
  case rest =>
    obtain ⟨rfl, S1, hq, ht⟩ := hcut
    obtain ⟨v1, rfl⟩ : ∃ x, x = wc := ⟨_, rfl⟩
    have Q2 := Lib.hid hq
    have TB1 := Lib.hid ht
    clear y0 y1 y2 y3 y4 y5 y6 y7 y8 y9 y10 f0 f1 f2 f3 f4 f5 f6 f7 f8 f9 f10 x0 x1 x2 x3 hq ht TB
    obtain ⟨E, hE⟩ : ∃ E, E = D.appErr 1 s := ⟨_, rfl⟩
    have HR := Lib.hid (Q2.out.k75 s v1.drew (bdrew (Below.refl _ _)) (by have := HS.out; omega) GG.out.1 GG.out.2.1 HDI.out.1 GG.out.2.2.1 HDI.out.2)
    have GR := Lib.hid (Good.app (s := s) HT.out.2.2 HS.out)
    obtain ⟨D1, hD1⟩ : ∃ D1, D1 = D.append 1 s := ⟨_, rfl⟩
    rw [← hD1] at GR HR Q2
    rw [← hE] at HR ⊢
    clear hE hD1
    go_upto_region 28 with fail
    go_cut [6] from 175 to 187 (fun s6 wx => s6 = .int .i64 E ∧ ∃ A' c' B' d', WQ w0 wx bb NoX S1 gw g D1 V D1 V ls A' c' B' d' LA lc)
    case first =>
      obtain ⟨⟨x0, x1, x2, x3⟩, _⟩ := blk4 TB1.out
      obtain ⟨⟨y0, y1, y2, y3, y4, y5, y6, y7, y8, y9, y10⟩, f0, f1, f2, f3, f4, f5, f6, f7, f8, f9, f10⟩ := blk11 Q2.out.cells
      go_region_with (first
        | (go_at_call 75; (with_reducible refine Calls.mono HR.out ?_); rintro e v2 ⟨A', c', B', d', rfl, b2, due⟩; have DUE := Lib.hid due; have z9 := Q2.out.cells.below b2; clear due b2; have Z9 := Lib.hid z9; obtain ⟨⟨z0, z1, z2, z3, z4, z5, z6, z7, z8, z9, z10⟩, f0, f1, f2, f3, f4, f5, f6, f7, f8, f9, f10⟩ := blk11 z9))
      all_goals
        clear HR
        go_wp2_with fail
        go_meet
        obtain ⟨e9, u9⟩ := five_bset Z9.out (.slice A' D1.logs.length c') (.int .i64 (D1.acts : Int)) (.bool D1.down) (.int .i64 D1.armed) (.slice B' D1.keep.length d')
        exact ⟨rfl, A', c', B', d', DUE.out _ u9 e9⟩
    case rest =>
      obtain ⟨rfl, A', c', B', d', hq⟩ := hcut
      obtain ⟨v3, rfl⟩ : ∃ x, x = wc := ⟨_, rfl⟩
      have HWP := Lib.hid (hq.p HT.out.2.1 HT.out.1)
      clear hq Q2 HR
      have hb := GR.out.bounds (by omega)
      go_wp2_with fail
      refine (bopen_calls w0 v3 bb S1 (some gw) g D1 V ls A' c' B' d' LA lc HWP.out hb.1 hb.2.1 hb.2.2.1 hb.2.2.2.1).mono ?_
      rintro e w9 ⟨rfl, S', G', V', ls', A2, c2, B2, d2, LA2, lc2, hp, hl⟩
      have HP := Lib.hid hp
      have HLL := Lib.hid hl
      clear hp hl hb
      go_wp2
      go_ret
      exact ⟨rfl, S', G', _, V', ls', A2, c2, B2, d2, LA2, lc2, HP.out, (GR.out.open HLL.out).mono (by omega)⟩

/- WalPlays: the walk of does. -/
set_option maxHeartbeats 16000000 in
set_option maxRecDepth 100000 in
theorem bdoes_d (w0 w : World) (bb : Nat) (S : Nat → Prop) (gw g : Nat) (D : DS) (V : WS) (ls : List (List UInt8)) (A : Option Addr) (c : Nat) (B : Option Addr) (d : Nat) (LA : Option Addr) (lc : Nat) (kd n : Int) (s : List UInt8) (K : Option Addr) (m c5 : Nat) (ks : List Int) (j : Nat)
    (h : WP w0 w bb S (some gw) g D V ls A c B d LA lc) (hm : m = ks.length) (hK : Cells w0 K (ints ks)) (hs : s.length ≤ 1000) (hks : ks.length ≤ 10) (hn : n ≤ 9223372036854775807) (hj : j ≤ 95) (hg : Good D ls j) (k0 : kd ≠ 0) (k1 : kd ≠ 1) (k2 : kd ≠ 2) (k3 : kd ≠ 3) (k4 : kd ≠ 4) (k5 : kd ≠ 5) :
    Calls Try.prog 64 #[.pointer (some ⟨bb, 0, none⟩), .agg #[.int .i64 kd, .int .i64 n, .string (str s), .slice K m c5]] w fun e w' => e = .returned (.bool true) ∧ ∃ S' G' D' V' ls' A' c' B' d' LA' lc', WP w0 w' bb S' G' g D' V' ls' A' c' B' d' LA' lc' ∧ Good D' ls' (j + 2) := by
  subst hm
  have b0 := below_one w (.cells #[.int .i64 kd, .int .i64 n, .string (str s), .slice K ks.length c5] 92)
  have n0 := Blk.new w 92 #[.int .i64 kd, .int .i64 n, .string (str s), .slice K ks.length c5]
  obtain ⟨W0, hW0⟩ : ∃ W0, W0 = w.alloc (.cells #[.int .i64 kd, .int .i64 n, .string (str s), .slice K ks.length c5] 92) := ⟨_, rfl⟩
  rw [← hW0] at b0 n0
  have Q0 := Lib.hid (h.q.later b0)
  have HT := Lib.hid (And.intro h.all (And.intro (h.wal gw rfl).2.2.2 hg))
  have TB := Lib.hid (show ∀ (S1 : Nat → Prop) W, GrewW S S1 gw W0 W → Blk W w.heap.size 92 #[.int .i64 kd, .int .i64 n, .string (str s), .slice K ks.length c5] from fun S1 W hg => n0.upd hg.upd (fun hz => by
    rcases hz with hz | hz
    · have := (h.held.own _ hz).2; omega
    · have := h.hw.lt; omega))
  have HW0 := Lib.hid hW0
  have HK := Lib.hid hK
  have HS := Lib.hid hs
  have HKS := Lib.hid hks
  obtain ⟨⟨x0, x1, x2, x3⟩, _⟩ := blk4 n0
  have hdis := h.held.disk
  have HDI := Lib.hid (And.intro hdis.small hdis.armed)
  have HB0 := Lib.hid b0
  have GG := Lib.hid (show D.logs.length ≤ 16 ∧ D.keep.length ≤ 1000000 ∧ D.acts < 1000000000 ∧ (D.log 1).1.length ≤ 1000000 ∧ ls.length ≤ 10000000 from hg.bounds (by omega))
  clear h b0 n0 hW0 hK hg hdis hs hks
  go_enter Try.func64, Try.ntmps64
  go_upto_region 1 with fail
  rw [← HW0.out]
  clear HW0
  go_upto_block 0 with fail
  clear x0 x1 x2 x3
  have hkb0 : (kd == 0) = false := by simpa using k0
  have hkb1 : (kd == 1) = false := by simpa using k1
  have hkb2 : (kd == 2) = false := by simpa using k2
  have hkb3 : (kd == 3) = false := by simpa using k3
  have hkb4 : (kd == 4) = false := by simpa using k4
  have hkb5 : (kd == 5) = false := by simpa using k5
  have HWP := Lib.hid (Q0.out.p HT.out.2.1 HT.out.1)
  clear k0 k1 k2 k3 k4 k5 TB
  go_wp2_with fail
  refine (bopen_calls w0 W0 bb S (some gw) g D V ls A c B d LA lc HWP.out GG.out.1 GG.out.2.1 GG.out.2.2.1 GG.out.2.2.2.1).mono ?_
  rintro e w9 ⟨rfl, S', G', V', ls', A2, c2, B2, d2, LA2, lc2, hp, hl⟩
  have HP := Lib.hid hp
  have HLL := Lib.hid hl
  clear hp hl
  go_wp2
  go_ret
  exact ⟨rfl, S', G', _, V', ls', A2, c2, B2, d2, LA2, lc2, HP.out, (HT.out.2.2.open HLL.out).mono (by omega)⟩

/- WalPlays: does, whole. -/
theorem bdoes_calls (w0 w : World) (bb : Nat) (S : Nat → Prop) (gw g : Nat) (D : DS) (V : WS) (ls : List (List UInt8)) (A : Option Addr) (c : Nat) (B : Option Addr) (d : Nat) (LA : Option Addr) (lc : Nat) (kd n : Int) (s : List UInt8) (K : Option Addr) (m c5 : Nat) (ks : List Int) (j : Nat)
    (h : WP w0 w bb S (some gw) g D V ls A c B d LA lc) (hm : m = ks.length) (hK : Cells w0 K (ints ks)) (hs : s.length ≤ 1000) (hks : ks.length ≤ 10) (hn : n ≤ 9223372036854775807) (hj : j ≤ 95) (hg : Good D ls j) :
    Calls Try.prog 64 #[.pointer (some ⟨bb, 0, none⟩), .agg #[.int .i64 kd, .int .i64 n, .string (str s), .slice K m c5]] w fun e w' => e = .returned (.bool true) ∧ ∃ S' G' D' V' ls' A' c' B' d' LA' lc', WP w0 w' bb S' G' g D' V' ls' A' c' B' d' LA' lc' ∧ Good D' ls' (j + 2) := by
  by_cases k0 : kd = 0
  · subst k0; exact bdoes_0 w0 w bb S gw g D V ls A c B d LA lc n s K m c5 ks j h hm hK hs hks hn hj hg
  by_cases k1 : kd = 1
  · subst k1; exact bdoes_1 w0 w bb S gw g D V ls A c B d LA lc n s K m c5 ks j h hm hK hs hks hn hj hg
  by_cases k2 : kd = 2
  · subst k2; exact bdoes_2 w0 w bb S gw g D V ls A c B d LA lc n s K m c5 ks j h hm hK hs hks hn hj hg
  by_cases k3 : kd = 3
  · subst k3; exact bdoes_3 w0 w bb S gw g D V ls A c B d LA lc n s K m c5 ks j h hm hK hs hks hn hj hg
  by_cases k4 : kd = 4
  · subst k4; exact bdoes_4 w0 w bb S gw g D V ls A c B d LA lc n s K m c5 ks j h hm hK hs hks hn hj hg
  by_cases k5 : kd = 5
  · subst k5; exact bdoes_5 w0 w bb S gw g D V ls A c B d LA lc n s K m c5 ks j h hm hK hs hks hn hj hg
  exact bdoes_d w0 w bb S gw g D V ls A c B d LA lc kd n s K m c5 ks j h hm hK hs hks hn hj hg k0 k1 k2 k3 k4 k5
end Go.Proofs.Ytimjadjopemefaa
