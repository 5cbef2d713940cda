/- DiskArmed: the walk of the law. -/
import Derived.Test.YtimjadjopemefaaDkc
import Derived.Test.YtimjadjopemefaaRs3
import Derived.OpenShut
set_option linter.unusedVariables false
set_option linter.unusedSimpArgs false
namespace Go.Proofs.Ytimjadjopemefaa
open Go.RowKit

def aliveD (N k : Nat) (wh : List UInt8) : DS := ⟨[(wh, 0)], k, false, (if N = 0 then 0 else (N : Int) - (k : Int)), [0]⟩
def deadD (N : Nat) : DS := ⟨[([], 0)], N - 1, true, 0, [0]⟩
theorem alive_app {N k : Nat} {wh s : List UInt8} (h : N = 0 ∨ k + 1 < N) (hs : wh.length + s.length ≤ 4194304) : (aliveD N k wh).appErr 0 s = 0 ∧ (aliveD N k wh).append 0 s = aliveD N (k + 1) (wh ++ s) := by
  have h1 : ¬ (4194304 : Int) < (s.length : Int) + (wh.length : Int) := by omega
  have he : (aliveD N k wh).actErr 0 ((aliveD N k wh).appSize 0 s) = 0 := by
    simp only [DS.actErr, DS.has, DS.appSize, DS.log, aliveD]
    simp
    rw [if_neg h1]
    exact if_neg (by show ¬ (if N = 0 then (0 : Int) else (N : Int) - (k : Int)) = 1; split <;> omega)
  refine ⟨he, ?_⟩
  unfold DS.append
  rw [show (0 : Int) = ((0 : Nat) : Int) from rfl] at he ⊢
  rw [DS.act_ok he (by simp [aliveD])]
  simp only [DS.pre, aliveD]
  simp
  split
  · simp
  · split <;> omega
theorem alive_die {N k : Nat} {wh s : List UInt8} (h0 : 0 < N) (h : k + 1 = N) (hs : wh.length + s.length ≤ 4194304) : (aliveD N k wh).appErr 0 s = 71 ∧ (aliveD N k wh).append 0 s = deadD N := by
  have h1 : ¬ (4194304 : Int) < (s.length : Int) + (wh.length : Int) := by omega
  have ha : (if N = 0 then (0 : Int) else (N : Int) - (k : Int)) = 1 := by rw [if_neg (by omega)]; omega
  have he : (aliveD N k wh).actErr 0 ((aliveD N k wh).appSize 0 s) = 71 := by
    simp only [DS.actErr, DS.has, DS.appSize, DS.log, aliveD]
    simp [ha]
    omega
  refine ⟨he, ?_⟩
  unfold DS.append
  rw [DS.act_no (by rw [he]; decide)]
  unfold DS.fail
  rw [if_pos ⟨by simp [DS.has, aliveD], rfl, by simp [DS.appSize, DS.has, DS.log, aliveD]; omega, by simp only [aliveD]; exact ha⟩]
  simp [DS.crash, aliveD, deadD, crashTo, crashLog, crashN]
  omega
theorem dead_app (N : Nat) (s : List UInt8) : (deadD N).appErr 0 s = 71 ∧ (deadD N).append 0 s = deadD N := by
  have he : (deadD N).actErr 0 ((deadD N).appSize 0 s) = 71 := by
    simp [DS.actErr, DS.has, deadD]
  refine ⟨he, ?_⟩
  unfold DS.append
  rw [DS.act_no (by rw [he]; decide)]
  unfold DS.fail
  rw [if_neg (by simp [deadD])]

/-- Where a play stands: alive, or behind the loss. -/
def ArmedAt (N k : Nat) (wh : List UInt8) (D : DS) : Prop := ((N = 0 ∨ k < N) ∧ D = aliveD N k wh ∧ wh.length ≤ 2000 * k) ∨ (0 < N ∧ N ≤ k ∧ D = deadD N)
theorem armed_arm (N : Nat) : (freshD 1).arm (N : Int) [0] = aliveD N 0 [] := by
  simp only [DS.arm, freshD, aliveD]
  simp

set_option maxHeartbeats 4000000 in
set_option maxRecDepth 100000 in
theorem diskArmed_walk (a0 : Int) (A : Option Addr) (n0 c : Nat) (ls : List (List UInt8)) (w : World) (wa : (Lit.int .u8 a0).wf = true) (w0 : n0 = ls.length ∧ Cells w A (strs ls) ∧ ∀ l ∈ ls, l.length ≤ 9223372036854775807) :
    Calls Try.prog 11 #[.int .u8 a0, .slice A n0 c] w fun e w' => e = .returned (.bool true) ∧ Below w.heap.size w w' := by
  obtain ⟨rfl, hc, _⟩ := w0
  have hu := bounds_u8 wa
  obtain ⟨N, rfl⟩ := Int.eq_ofNat_of_zero_le hu.1
  have hN : N ≤ 255 := by omega
  clear hu wa
  have hlen : ls.length ≤ 9223372036854775807 := by have := hc.small; rwa [strs_length] at this
  go_enter Try.func11, Try.ntmps11
  go_wp2_with fail
  refine (held_new 1 w w (Below.refl _ _) (by decide) (by decide)).mono ?_
  rintro e w1 ⟨g, S1, rfl, h1, _⟩
  have H1 := Lib.hid h1
  clear h1
  go_wp2_with fail
  refine (dawake_calls w1).mono ?_
  rintro e w2 ⟨rfl, b2⟩
  have H2 := Lib.hid (H1.out.later b2)
  clear b2 H1
  go_wp2_with fail
  refine (held_arm H2.out (below_one w2 _) (N : Int) _ 1 1 [0] rfl (by omega) (cells_new w2 #[.int .i64 0] 3 (by simp)) (fun ad e => by cases e; exact .inr (Nat.le_refl _)) (by simp)).mono ?_
  rintro e w3 ⟨rfl, S3, h3, _⟩
  rw [armed_arm] at h3
  have H3 := Lib.hid h3
  have HC := Lib.hid hc
  clear h3 H2 hc
  go_wp2
  go_loopw [7, 8] (fun t i wr => ∃ k : Nat, k ≤ ls.length ∧ k ≤ 40 ∧ i = .int .i64 k ∧ ∃ wh D S, t = .string (str wh) ∧ Held w wr S g D ∧ ArmedAt N k wh D) (fun _ i _ => 40 - (intOf i).toNat)
  case atStart => exact ⟨0, Nat.zero_le _, by omega, rfl, [], _, _, rfl, H3.out, by
    rcases Nat.eq_zero_or_pos N with h | h
    · exact .inl ⟨.inl h, rfl, by simp⟩
    · exact .inl ⟨.inr h, rfl, by simp⟩⟩
  case round =>
    obtain ⟨k, hk, hk40, rfl, wh, D, S, rfl, hd, hst⟩ := hrel
    clear H3
    by_cases hlt : k < ls.length
    · by_cases h40 : k < 40
      · obtain ⟨ad, rfl, o0⟩ := HC.out.get k (.string (str ls[k])) (by simp [strs, hlt])
        obtain ⟨s, hs⟩ : ∃ s, s = ls[k] := ⟨_, rfl⟩
        rw [← hs] at o0
        have p0 := (hd.below.cell (World.block_lt_of_cell? w _ o0)).trans o0
        have HH := Lib.hid hd
        have HST := Lib.hid hst
        clear o0 hs hd hst
        go_wp2_with fail
        refine (dfew_calls 0 0 0 s none 0 0 wr (Nat.le_refl _)).mono ?_
        rintro e w4 ⟨rfl, b4⟩
        rw [show actVal 0 0 0 (s.take 2000) none (min 0 20) 0 = .agg #[.int .i64 0, .int .i64 0, .int .i64 0, .string (str (s.take 2000)), .slice none 0 0] from rfl]
        have hsl : (s.take 2000).length ≤ 2000 := by simp; omega
        obtain ⟨s2, hs2⟩ : ∃ s2, s2 = s.take 2000 := ⟨_, rfl⟩
        rw [← hs2] at hsl ⊢
        have H4 := Lib.hid (HH.out.later b4)
        clear b4 HH p0 hs2
        have kf := Try.fieldS
        go_wp2_with (with_reducible refine halt_dst 53 ?_)
        refine wpList_bytes rfl (.tmp 52) 9 22 rfl Try.underlying9 Try.underlying22 Try.underlying5 s2 rfl ?_
        intro c5 w5 hc5 hB5 b5 _
        have hA5 := hB5.cells (by omega)
        go_wp2_with fail
        refine (held_append H4.out b5 0 _ s2.length c5 s2 rfl hA5 (fun ad e => by cases e; exact .inr (Nat.le_refl _)) (by omega) (by
          rcases HST.out with ⟨_, rfl, _⟩ | ⟨_, _, rfl⟩
          · simp [aliveD]; omega
          · simp [deadD]; omega)).mono ?_
        rintro e w6 ⟨rfl, S6, h6, _⟩
        clear hA5 hB5 b5 H4
        have hcase : (((D.appErr 0 s2 = 0 ∧ (N = 0 ∨ k + 1 < N) ∧ wh.length ≤ 100000) ∨ (D.appErr 0 s2 = 71 ∧ (0 < N ∧ N ≤ k + 1) ∧ True)) ∧ ((D.append 0 s2).down = decide (D.appErr 0 s2 = 71)) ∧ (D.appErr 0 s2 = 0 → ArmedAt N (k + 1) (wh ++ s2) (D.append 0 s2)) ∧ (D.appErr 0 s2 = 71 → ArmedAt N (k + 1) wh (D.append 0 s2))) := by
          rcases HST.out with ⟨h1, rfl, h2⟩ | ⟨h0, h1, rfl⟩
          · by_cases h3 : N = 0 ∨ k + 1 < N
            · obtain ⟨e1, e2⟩ := alive_app (N := N) (k := k) (wh := wh) (s := s2) h3 (by omega)
              rw [e1, e2]
              exact ⟨.inl ⟨rfl, h3, by omega⟩, rfl, fun _ => .inl ⟨h3, rfl, by simp; omega⟩, fun h => by cases h⟩
            · obtain ⟨e1, e2⟩ := alive_die (N := N) (k := k) (wh := wh) (s := s2) (by omega) (by omega) (by omega)
              rw [e1, e2]
              exact ⟨.inr ⟨rfl, by omega, trivial⟩, rfl, (fun h => by cases h), fun _ => .inr ⟨by omega, by omega, rfl⟩⟩
          · obtain ⟨e1, e2⟩ := dead_app N s2
            rw [e1, e2]
            exact ⟨.inr ⟨rfl, by omega, trivial⟩, rfl, (fun h => by cases h), fun _ => .inr ⟨h0, by omega, rfl⟩⟩
        obtain ⟨E, hE⟩ : ∃ E, E = D.appErr 0 s2 := ⟨_, rfl⟩
        rw [← hE] at hcase ⊢
        obtain ⟨hc1, hdn, ha0, ha71⟩ := hcase
        have H6 := Lib.hid h6
        clear h6 HST
        rcases hc1 with ⟨e0, hcc, hwl⟩ | ⟨e0, hcc, _⟩
        · have hwl2 : (str wh).size + (str s2).size ≤ 9223372036854775807 := by rw [str_size, str_size]; omega
          have HA0 := Lib.hid (ha0 e0)
          rw [e0] at hdn ⊢
          have hdn : (D.append 0 s2).down = false := by simpa using hdn
          have hd7 := ddown_calls _ _ _ w6 H6.out.disk
          rw [hdn] at hd7
          have HD2 := Lib.hid hd7
          clear hd7 hdn ha0 ha71 hE e0 hwl
          rcases hcc with hcc | hcc
          · have hn1 : ¬ (0 : Int) < (N : Int) := by omega
            clear hcc
            go_wp2_with fail
            refine HD2.out.mono ?_
            rintro e w7 ⟨rfl, rfl⟩
            go_wp2_with fail
            go_roundw
            case rel => exact ⟨k + 1, by omega, by omega, by go_num, _, _, _, by rw [str_append], H6.out, HA0.out⟩
            case measure => simp [intOf]; omega
          · have hn1 : (0 : Int) < (N : Int) := by omega
            have hn2 : decide ((N : Int) ≤ (k : Int) + 1) = false := by simp; omega
            go_wp2_with fail
            refine HD2.out.mono ?_
            rintro e w7 ⟨rfl, rfl⟩
            go_wp2_with fail
            go_roundw
            case rel => exact ⟨k + 1, by omega, by omega, by go_num, _, _, _, by rw [str_append], H6.out, HA0.out⟩
            case measure => simp [intOf]; omega
        · have HA71 := Lib.hid (ha71 e0)
          rw [e0] at hdn ⊢
          have hdn : (D.append 0 s2).down = true := by simpa using hdn
          have hd7 := ddown_calls _ _ _ w6 H6.out.disk
          rw [hdn] at hd7
          have HD2 := Lib.hid hd7
          clear hd7 hdn ha0 ha71 hE e0
          have hn1 : (0 : Int) < (N : Int) := by omega
          have hn2 : decide ((N : Int) ≤ (k : Int) + 1) = true := by simp; omega
          go_wp2_with fail
          refine HD2.out.mono ?_
          rintro e w7 ⟨rfl, rfl⟩
          go_wp2_with fail
          go_roundw
          case rel => exact ⟨k + 1, by omega, by omega, by go_num, _, _, _, rfl, H6.out, HA71.out⟩
          case measure => simp [intOf]; omega
      · obtain rfl : k = 40 := by omega
        clear HC
        have HH := Lib.hid hd
        have hdn := ddown_calls g S D wr hd.disk
        obtain ⟨Dd, hDd⟩ : ∃ x, x = D.down := ⟨_, rfl⟩
        have hfinal : (Dd = true ∧ ({ D with down := false } : DS).readErr 0 = 0 ∧ (({ D with down := false } : DS).log 0).1 = []) ∨ (Dd = false ∧ ({ D with down := false } : DS).readErr 0 = 0 ∧ (({ D with down := false } : DS).log 0).1 = wh) := by
          rcases hst with ⟨_, rfl, _⟩ | ⟨_, _, rfl⟩
          · exact .inr ⟨hDd, rfl, rfl⟩
          · exact .inl ⟨hDd, rfl, rfl⟩
        rw [← hDd] at hdn
        have HDN := Lib.hid hdn
        clear hd hst hdn hDd
        go_wp2_with fail
        refine HDN.out.mono ?_
        rintro e w7 ⟨rfl, rfl⟩
        go_wp2_with fail
        refine (held_up HH.out).mono ?_
        rintro e w8 ⟨rfl, S8, h8, _⟩
        have H8 := Lib.hid h8
        clear h8 HH
        go_wp2_with fail
        refine (held_read H8.out 0).mono ?_
        rintro e w9 ⟨A9, c9, rfl, o9, h9, _⟩
        have HB9 := Lib.hid h9.below
        rcases hfinal with ⟨rfl, e1, e2⟩ | ⟨rfl, e1, e2⟩
        · rw [e1, if_pos rfl, e2] at o9 ⊢
          clear h9 e1 e2 o9 H8
          go_wp2
          go_ret
          exact ⟨rfl, HB9.out⟩
        · rw [e1, if_pos rfl, e2] at o9 ⊢
          have O9 := Lib.hid o9.cells
          clear h9 e1 e2 o9 H8
          go_wp2_with (with_reducible refine halt_dst 108 ?_)
          refine wpList_string rfl (.tmp 107) 22 9 5 rfl Try.underlying22 Try.underlying5 Try.underlying9 A9 wh.length c9 wh rfl rfl O9.out ?_
          go_wp2
          go_ret
          exact ⟨rfl, HB9.out⟩
    · obtain rfl : k = ls.length := by omega
      clear HC
      have HH := Lib.hid hd
      have hdn := ddown_calls g S D wr hd.disk
      obtain ⟨Dd, hDd⟩ : ∃ x, x = D.down := ⟨_, rfl⟩
      have hfinal : (Dd = true ∧ ({ D with down := false } : DS).readErr 0 = 0 ∧ (({ D with down := false } : DS).log 0).1 = []) ∨ (Dd = false ∧ ({ D with down := false } : DS).readErr 0 = 0 ∧ (({ D with down := false } : DS).log 0).1 = wh) := by
        rcases hst with ⟨_, rfl, _⟩ | ⟨_, _, rfl⟩
        · exact .inr ⟨hDd, rfl, rfl⟩
        · exact .inl ⟨hDd, rfl, rfl⟩
      rw [← hDd] at hdn
      have HDN := Lib.hid hdn
      clear hd hst hdn hDd
      go_wp2_with fail
      refine HDN.out.mono ?_
      rintro e w7 ⟨rfl, rfl⟩
      go_wp2_with fail
      refine (held_up HH.out).mono ?_
      rintro e w8 ⟨rfl, S8, h8, _⟩
      have H8 := Lib.hid h8
      clear h8 HH
      go_wp2_with fail
      refine (held_read H8.out 0).mono ?_
      rintro e w9 ⟨A9, c9, rfl, o9, h9, _⟩
      have HB9 := Lib.hid h9.below
      rcases hfinal with ⟨rfl, e1, e2⟩ | ⟨rfl, e1, e2⟩
      · rw [e1, if_pos rfl, e2] at o9 ⊢
        clear h9 e1 e2 o9 H8
        go_wp2
        go_ret
        exact ⟨rfl, HB9.out⟩
      · rw [e1, if_pos rfl, e2] at o9 ⊢
        have O9 := Lib.hid o9.cells
        clear h9 e1 e2 o9 H8
        go_wp2_with (with_reducible refine halt_dst 108 ?_)
        refine wpList_string rfl (.tmp 107) 22 9 5 rfl Try.underlying22 Try.underlying5 Try.underlying9 A9 wh.length c9 wh rfl rfl O9.out ?_
        go_wp2
        go_ret
        exact ⟨rfl, HB9.out⟩
end Go.Proofs.Ytimjadjopemefaa
