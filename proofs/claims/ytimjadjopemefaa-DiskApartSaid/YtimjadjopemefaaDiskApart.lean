/- DiskApart: the walk of the law. -/
import Derived.Test.YtimjadjopemefaaDke
import Derived.Deep.Cut
set_option linter.unusedVariables false
set_option linter.unusedSimpArgs false
namespace Go.Proofs.Ytimjadjopemefaa
open Go.RowKit

set_option maxHeartbeats 4000000 in
set_option maxRecDepth 100000 in
theorem diskApart_walk (A : Option Addr) (n0 c : Nat) (l : List Act5) (B : Option Addr) (m0 d0 : Nat) (more : List Act5) (w : World) (w0 : n0 = l.length ∧ Cells w A (acs l) ∧ ∀ x ∈ l, GoodAct w x) (w1 : m0 = more.length ∧ Cells w B (acs more) ∧ ∀ x ∈ more, GoodAct w x) :
    Calls Try.prog 15 #[.slice A n0 c, .slice B m0 d0] w fun e w' => e = .returned (.bool true) ∧ Below w.heap.size w w' := by
  obtain ⟨hn, hA, hg⟩ := w0
  obtain ⟨rfl, hB, hgm⟩ := w1
  have hlen : more.length ≤ 9223372036854775807 := by have := hB.small; rw [acs_length] at this; omega
  have HC := Lib.hid (fun k (hk : k < more.length) => hB.act k hk)
  have HG := Lib.hid (fun k (hk : k < more.length) => hgm more[k] (List.getElem_mem hk))
  have HM := Lib.hid (dmade_calls A n0 c l w hn hA hg)
  have hpow := pow_made l
  have hacts := made_acts l
  obtain ⟨D0, hD0⟩ : ∃ D, D = madeD l := ⟨_, rfl⟩
  rw [← hD0] at HM hpow hacts
  obtain ⟨re, rs, rl⟩ := pow_read hpow (i := 1) (by decide)
  rw [show ((1 : Nat) : Int) = 1 from rfl] at re rs rl
  have HP := Lib.hid hpow
  have RE := Lib.hid re
  have RS := Lib.hid rs
  obtain ⟨L1, hL1⟩ : ∃ x, x = D0.log 1 := ⟨_, rfl⟩
  have HL1 := Lib.hid hL1
  clear hn hA hg hB hgm hD0 hpow re rs rl hL1
  go_enter Try.func15, Try.ntmps15
  go_wp2_with fail
  refine HM.out.mono ?_
  rintro e w1 ⟨g, S1, rfl, h1⟩
  have H1 := Lib.hid h1
  clear h1 HM
  go_wp2_with fail
  refine (dawake_calls w1).mono ?_
  rintro e w2 ⟨rfl, b2⟩
  have H2 := Lib.hid (H1.out.later b2)
  clear b2 H1
  go_wp2_with fail
  refine (held_read H2.out 1).mono ?_
  rintro e w3 ⟨A3, c3, rfl, o3, h3, _⟩
  rw [RE.out, if_pos rfl, ← HL1.out] at o3 ⊢
  have H3 := Lib.hid h3
  have O3 := Lib.hid o3
  clear h3 o3 H2
  go_wp2_with fail
  refine (dsure_calls _ _ _ 1 w3 H3.out.disk).mono ?_
  rintro e w4 ⟨rfl, rfl⟩
  rw [RS.out, ← HL1.out]
  go_wp2
  go_loopw [9] (fun i wr => ∃ k : Nat, k ≤ more.length ∧ k ≤ 30 ∧ i = .int .i64 k ∧ ∃ D S, Held w wr S g D ∧ Pow D ∧ D.log 1 = L1 ∧ D.acts ≤ 30 + k ∧ Off wr S A3 (byts L1.1)) (fun i _ => 30 - (intOf i).toNat)
  case atStart => exact ⟨0, Nat.zero_le _, by omega, rfl, _, _, H3.out, HP.out, HL1.out.symm, by omega, O3.out⟩
  case round =>
    obtain ⟨k, hk, hk30, rfl, D, S, hd, hp, hl1, hac, hoff⟩ := hrel
    clear H3 O3 HL1 RS RE HP
    by_cases hlt : k < more.length
    · by_cases h30 : k < 30
      · obtain ⟨ad, rfl, o0, o1, o2, o3, o4⟩ := HC.out k hlt
        obtain ⟨gm, gc, gk⟩ := HG.out k hlt
        obtain ⟨a, ha⟩ : ∃ a, a = more[k] := ⟨_, rfl⟩
        rw [← ha] at o0 o1 o2 o3 o4 gm gc gk
        obtain ⟨q1, q2, q3⟩ := stepA_keeps (a := a) hp
        rw [hl1] at q2
        have q3' : (stepA D a).acts ≤ 30 + (k + 1) := by omega
        have p0 := (hd.below.cell (World.block_lt_of_cell? w _ o0)).trans o0
        have p1 := (hd.below.cell (World.block_lt_of_cell? w _ o1)).trans o1
        have p2 := (hd.below.cell (World.block_lt_of_cell? w _ o2)).trans o2
        have p3 := (hd.below.cell (World.block_lt_of_cell? w _ o3)).trans o3
        have p4 := (hd.below.cell (World.block_lt_of_cell? w _ o4)).trans o4
        have hac9 : D.acts < 1000000000 := by omega
        obtain ⟨kd, lg, nn, s, K, m, c5, ks⟩ := a
        simp only at p0 p1 p2 p3 p4 gm gc gk
        have HH := Lib.hid hd
        have HO := Lib.hid hoff
        have HQ := Lib.hid (And.intro q1 (And.intro q2 q3'))
        clear o0 o1 o2 o3 o4 ha hd gm gk hac HC HG q1 q2 q3 q3' hp hl1 hoff
        go_wp2_with fail
        refine (dfew_calls kd lg nn s K m c5 wr gc).mono ?_
        rintro e w4 ⟨rfl, b4⟩
        rw [show actVal kd lg nn (s.take 2000) K (min m 20) c5 = .agg #[.int .i64 kd, .int .i64 lg, .int .i64 nn, .string (str (s.take 2000)), .slice K (min m 20) c5] from rfl]
        have hsl : (s.take 2000).length ≤ 2000 := by simp; omega
        obtain ⟨s2, hs2⟩ : ∃ s2, s2 = s.take 2000 := ⟨_, rfl⟩
        obtain ⟨m2, hm2⟩ : ∃ m2, m2 = min m 20 := ⟨_, rfl⟩
        rw [← hm2]
        rw [← hs2] at hsl ⊢
        have HS2 := Lib.hid hs2
        have b5 := b4.alloc b4.size (.cells #[.int .i64 kd, .int .i64 lg, .int .i64 nn, .string (str s2), .slice K m2 c5] 62)
        have h5 := HH.out.later b5
        have o5 := HO.out.later b5
        have n5 := Blk.new w4 62 #[.int .i64 kd, .int .i64 lg, .int .i64 nn, .string (str s2), .slice K m2 c5]
        clear b4 b5 HH HO p0 p1 p2 p3 p4 hs2 hm2 gc
        go_upto_region 10 with fail
        generalize w4.alloc (.cells #[.int .i64 kd, .int .i64 lg, .int .i64 nn, .string (str s2), .slice K m2 c5] 62) = W5 at h5 n5 o5 ⊢
        generalize w4.heap.size = b6 at n5 ⊢
        have p0 : W5.cell? ⟨b6, 0, none⟩ = some (.int .i64 kd) := n5.cell 0 _ rfl
        have p1 : W5.cell? ⟨b6, 1, none⟩ = some (.int .i64 lg) := n5.cell 1 _ rfl
        have p3 : W5.cell? ⟨b6, 3, none⟩ = some (.string (str s2)) := n5.cell 3 _ rfl
        have H5 := Lib.hid h5
        have O5 := Lib.hid o5
        clear h5 n5 o5
        by_cases kl : lg = 1
        · have hkl : (lg == 1) = true := by simpa using kl
          have hsp : stepA D ⟨kd, lg, nn, s, K, m, c5, ks⟩ = D := by simp [stepA, kl]
          have HSP := Lib.hid hsp
          clear hsp kl
          go_wp2
          go_roundw
          case rel =>
            have hq := HQ.out
            rw [HSP.out] at hq
            exact ⟨k + 1, by omega, by omega, by go_num, D, S, H5.out, hq.1, hq.2.1, hq.2.2, O5.out⟩
          case measure => simp [intOf]; omega
        · have hkl : (lg == 1) = false := by simpa using kl
          by_cases k0 : kd = 0
          · have hkb : (kd == 0) = true := by simpa using k0
            have hsp : stepA D ⟨kd, lg, nn, s, K, m, c5, ks⟩ = D.append lg s2 := by simp [stepA, k0, kl, HS2.out]
            have HSP := Lib.hid hsp
            clear hsp k0 kl
            go_wp2_with (with_reducible refine halt_dst 55 ?_)
            refine wpList_bytes rfl (.tmp 54) 9 22 rfl Try.underlying9 Try.underlying22 Try.underlying5 s2 rfl ?_
            intro c7 w7 hc7 hB7 b7 _
            have hA7 := hB7.cells (by omega)
            go_wp2_with fail
            refine (held_append H5.out b7 lg _ s2.length c7 s2 rfl hA7 (fun ad e => by cases e; exact .inr (Nat.le_refl _)) (by omega) hac9).mono ?_
            rintro e w8 ⟨rfl, S8, h8, g8⟩
            have H8 := Lib.hid h8
            have O8 := Lib.hid ((O5.out.later b7).next g8)
            clear h8 g8 hA7 hB7 b7 H5 O5
            go_wp2
            go_roundw
            case rel =>
              have hq := HQ.out
              rw [HSP.out] at hq
              exact ⟨k + 1, by omega, by omega, by go_num, _, S8, H8.out, hq.1, hq.2.1, hq.2.2, O8.out⟩
            case measure => simp [intOf]; omega
          · have hkb0 : (kd == 0) = false := by simpa using k0
            by_cases k1 : kd = 1
            · have hkb : (kd == 1) = true := by simpa using k1
              have hsp : stepA D ⟨kd, lg, nn, s, K, m, c5, ks⟩ = D.sync lg := by simp [stepA, k1, kl]
              have HSP := Lib.hid hsp
              clear hsp k0 k1 kl
              go_wp2_with fail
              refine (held_sync H5.out lg hac9).mono ?_
              rintro e w8 ⟨rfl, S8, h8, g8⟩
              have H8 := Lib.hid h8
              have O8 := Lib.hid (O5.out.next g8)
              clear h8 g8 H5 O5
              go_wp2
              go_roundw
              case rel =>
                have hq := HQ.out
                rw [HSP.out] at hq
                exact ⟨k + 1, by omega, by omega, by go_num, _, S8, H8.out, hq.1, hq.2.1, hq.2.2, O8.out⟩
              case measure => simp [intOf]; omega
            · have hkb1 : (kd == 1) = false := by simpa using k1
              by_cases k2 : kd = 2
              · have hkb : (kd == 2) = true := by simpa using k2
                have hsp : stepA D ⟨kd, lg, nn, s, K, m, c5, ks⟩ = D.swap lg s2 := by simp [stepA, k2, kl, HS2.out]
                have HSP := Lib.hid hsp
                clear hsp k0 k1 k2 kl
                go_wp2_with (with_reducible refine halt_dst 70 ?_)
                refine wpList_bytes rfl (.tmp 69) 9 22 rfl Try.underlying9 Try.underlying22 Try.underlying5 s2 rfl ?_
                intro c7 w7 hc7 hB7 b7 _
                have hA7 := hB7.cells (by omega)
                go_wp2_with fail
                refine (held_swap H5.out b7 lg _ s2.length c7 s2 rfl hA7 (fun ad e => by cases e; exact .inr (Nat.le_refl _)) hac9).mono ?_
                rintro e w8 ⟨rfl, S8, h8, g8⟩
                have H8 := Lib.hid h8
                have O8 := Lib.hid ((O5.out.later b7).next g8)
                clear h8 g8 hA7 hB7 b7 H5 O5
                go_wp2
                go_roundw
                case rel =>
                  have hq := HQ.out
                  rw [HSP.out] at hq
                  exact ⟨k + 1, by omega, by omega, by go_num, _, S8, H8.out, hq.1, hq.2.1, hq.2.2, O8.out⟩
                case measure => simp [intOf]; omega
              · have hkb2 : (kd == 2) = false := by simpa using k2
                have hsp : stepA D ⟨kd, lg, nn, s, K, m, c5, ks⟩ = D := by simp [stepA, k0, k1, k2]
                have HSP := Lib.hid hsp
                clear hsp k0 k1 k2 kl
                go_wp2
                go_roundw
                case rel =>
                  have hq := HQ.out
                  rw [HSP.out] at hq
                  exact ⟨k + 1, by omega, by omega, by go_num, D, S, H5.out, hq.1, hq.2.1, hq.2.2, O5.out⟩
                case measure => simp [intOf]; omega
      · obtain rfl : k = 30 := by omega
        obtain ⟨re, rs, rl⟩ := pow_read hp (i := 1) (by decide)
        rw [show ((1 : Nat) : Int) = 1 from rfl] at re rs rl
        rw [hl1] at rs
        have RE := Lib.hid re
        have RS := Lib.hid rs
        have HL := Lib.hid hl1
        have HH := Lib.hid hd
        have HO := Lib.hid hoff
        clear re rs rl hl1 hd hoff hp HC HG
        go_wp2_with fail
        refine (held_read HH.out 1).mono ?_
        rintro e w5 ⟨A5, c5, rfl, o5, h5, b5⟩
        rw [RE.out, if_pos rfl, HL.out] at o5 ⊢
        have H5 := Lib.hid h5
        have O5 := Lib.hid o5
        have O3 := Lib.hid (HO.out.later b5)
        clear h5 o5 b5 HH HO
        go_wp2_with (with_reducible refine halt_dst 85 ?_)
        refine wpList_string rfl (.tmp 84) 22 9 5 rfl Try.underlying22 Try.underlying5 Try.underlying9 A3 L1.1.length c3 L1.1 rfl rfl O3.out.cells ?_
        go_wp2_with (with_reducible refine halt_dst 87 ?_)
        refine wpList_string rfl (.tmp 86) 22 9 5 rfl Try.underlying22 Try.underlying5 Try.underlying9 A5 L1.1.length c5 L1.1 rfl rfl O5.out.cells ?_
        go_wp2_with fail
        refine (dsure_calls _ _ _ 1 w5 H5.out.disk).mono ?_
        rintro e w6 ⟨rfl, rfl⟩
        rw [RS.out]
        have HB := Lib.hid H5.out.below
        go_wp2
        go_ret
        exact ⟨rfl, HB.out⟩
    · obtain rfl : k = more.length := by omega
      obtain ⟨re, rs, rl⟩ := pow_read hp (i := 1) (by decide)
      rw [show ((1 : Nat) : Int) = 1 from rfl] at re rs rl
      rw [hl1] at rs
      have RE := Lib.hid re
      have RS := Lib.hid rs
      have HL := Lib.hid hl1
      have HH := Lib.hid hd
      have HO := Lib.hid hoff
      clear re rs rl hl1 hd hoff hp HC HG
      go_wp2_with fail
      refine (held_read HH.out 1).mono ?_
      rintro e w5 ⟨A5, c5, rfl, o5, h5, b5⟩
      rw [RE.out, if_pos rfl, HL.out] at o5 ⊢
      have H5 := Lib.hid h5
      have O5 := Lib.hid o5
      have O3 := Lib.hid (HO.out.later b5)
      clear h5 o5 b5 HH HO
      go_wp2_with (with_reducible refine halt_dst 85 ?_)
      refine wpList_string rfl (.tmp 84) 22 9 5 rfl Try.underlying22 Try.underlying5 Try.underlying9 A3 L1.1.length c3 L1.1 rfl rfl O3.out.cells ?_
      go_wp2_with (with_reducible refine halt_dst 87 ?_)
      refine wpList_string rfl (.tmp 86) 22 9 5 rfl Try.underlying22 Try.underlying5 Try.underlying9 A5 L1.1.length c5 L1.1 rfl rfl O5.out.cells ?_
      go_wp2_with fail
      refine (dsure_calls _ _ _ 1 w5 H5.out.disk).mono ?_
      rintro e w6 ⟨rfl, rfl⟩
      rw [RS.out]
      have HB := Lib.hid H5.out.below
      go_wp2
      go_ret
      exact ⟨rfl, HB.out⟩
end Go.Proofs.Ytimjadjopemefaa
