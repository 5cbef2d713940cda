/- The walk of frame.Scan. -/
import Derived.Test.YtimjadjopemefaaFr4
set_option linter.unusedVariables false
set_option linter.unusedSimpArgs false
namespace Go.Proofs.Ytimjadjopemefaa
open Go.RowKit

theorem Try.info22 : (Try.prog.info? 22).map (fun i => (i.zero, i.size, i.bytes)) = some (some (.slice none 0 0), 1, 24) := by kernel_rfl

structure ScanRel (b : List UInt8) (w : World) (v i : Value) (wr : World) : Prop where
  out : ∃ (k : Nat) (ls : List (List UInt8)), i = .int .i64 k ∧ k ≤ b.length ∧ (scanOf b).1 = ls ++ (scanOf (b.drop k)).1 ∧ (scanOf b).2 = k + (scanOf (b.drop k)).2 ∧ Loads wr w.heap.size v ls ∧ Below w.heap.size w wr ∧ 8 * ls.length ≤ k

/-- One load more. -/
theorem loads_push {W w' : World} {base : Nat} {v v' u : Value} {ls : List (List UInt8)} {l : List UInt8} {vs : List Value} (hr : Row W base 22 1 v ls.length vs)
    (hf : ∀ (i : Nat) (u : Value) (l : List UInt8), vs[i]? = some u → ls[i]? = some l → Full W base u l) (hu : Full W base u l)
    (hr' : Row w' base 22 1 v' (ls.length + 1) (vs ++ [u])) (hg : W.grownBy w' v.ownBlock) : Loads w' base v' (ls ++ [l]) := by
  have key : ∀ (u : Value) (l : List UInt8), Full W base u l → Full w' base u l := fun u l h => by
    refine h.grown hg ?_
    obtain ⟨A, rfl, hc, hA⟩ := h
    cases A with
    | none => exact .inl rfl
    | some ad =>
      refine .inr fun e => ?_
      have h1 := (hA ad rfl).2
      have h2 := hr.typed ad.block (by rw [← e]; rfl)
      exact h1.ne h2 (by decide) rfl
  have hl : vs.length = ls.length := by simpa using hr.1
  refine ⟨vs ++ [u], by simpa using hr', fun i u2 l2 h1 h2 => ?_⟩
  rcases Nat.lt_or_ge i ls.length with h | h
  · rw [List.getElem?_append_left (by omega)] at h1
    rw [List.getElem?_append_left h] at h2
    exact key _ _ (hf i u2 l2 h1 h2)
  · have hi : i = ls.length := by
      rcases Nat.lt_or_ge i (ls.length + 1) with h' | h'
      · omega
      · rw [List.getElem?_eq_none (by simp; omega)] at h2; cases h2
    subst hi
    rw [← hl, List.getElem?_append_right (Nat.le_refl _)] at h1
    rw [List.getElem?_append_right (Nat.le_refl _)] at h2
    simp at h1 h2
    subst h1 h2
    exact key _ _ hu

set_option maxHeartbeats 1000000 in
theorem scan_calls (A : Option Addr) (n cap : Nat) (b : List UInt8) (w : World) (hn : n = b.length) (hc : n ≤ cap) (hb2 : b.length ≤ 1000000000) (hr : Cells w A (byts b)) :
    Calls Try.prog 31 #[.slice A n cap] w fun e w' => ∃ v, e = .returned (.tuple #[v, .int .i64 (scanOf b).2]) ∧ Loads w' w.heap.size v (scanOf b).1 ∧ Below w.heap.size w w' := by
  subst hn
  have HR := Lib.hid hr
  clear hr
  go_enter Try.func31, Try.ntmps31
  go_wp2
  go_loopw [4, 5] (fun v i wr => ScanRel b w v i wr) (fun _ i _ => b.length - (intOf i).toNat)
  case atStart => exact ⟨0, [], rfl, Nat.zero_le _, by simp, by simp, loads_nil _ _, Below.refl _ _, by simp⟩
  case round =>
    obtain ⟨k, ls, rfl, hk, hs1, hs2, hls, hbel, hlk⟩ := hrel
    have HS1 := Lib.hid hs1
    have HS2 := Lib.hid hs2
    clear hs1 hs2
    go_wp2_with (with_reducible refine halt_dst 12 ?_)
    refine wpList_cut_l rfl (.tmp 10) 22 5 _ 1 1 Try.underlying22 Try.info5 A b.length cap rfl (.tmp 11) rfl .i64 k (b.length - k) (cap - k) _ rfl rfl (by omega) (by omega) ?_
    intro A3 hA3
    have hcl : Cells wr A3 (byts (b.drop k)) := by
      have := (HR.out.below hbel).bsub k (b.length - k) (by omega) A3 (fun h0 ad e => by have := hA3.2.1 (by omega) ad e; simpa using this)
      rwa [List.take_of_length_le (by simp)] at this
    go_wp2_with fail
    refine (open_calls A3 (b.length - k) (cap - k) (b.drop k) wr (by simp) (by omega) hcl).mono ?_
    rintro e w1 ⟨u, rfl, hu, hb1⟩
    clear hcl hA3
    by_cases he : openErr (b.drop k) = 0
    · rw [he]
      have hol := openLen_le he
      have hstep := scanOf_ok he
      rw [List.length_drop] at hol
      have HST := Lib.hid hstep
      have HE := Lib.hid he
      clear hstep he
      have hlen : openLen (b.drop k) ≤ b.length - k := hol.2
      have hlen8 : 8 ≤ openLen (b.drop k) := hol.1
      clear hol
      generalize hm : openLen (b.drop k) = m at hlen hlen8
      have HM := Lib.hid hm
      clear hm
      have hu2 := Lib.hid hu
      obtain ⟨Au, rfl, _⟩ := hu
      obtain ⟨vs, hrow, hfull⟩ := (hls.below hb1).row
      have HF := Lib.hid hfull
      clear hfull
      go_wp2_with (with_reducible refine halt_dst 24 ?_)
      refine wpList_append_lit rfl (.tmp 21) (.tmp 23) 39 rfl w.heap.size 22 (.slice none 0 0) 1 24 Try.underlying39 Try.info22 rfl (by decide) u4 _ vs rfl hrow 1 1 _ rfl rfl ?c1 ?c2 ?c3 ?c4 ?c5 ?_
      case c1 => intro x hx; simp at hx; subst hx; rfl
      case c2 => simp only [maxLen]; omega
      case c3 => omega
      case c4 => exact Nat.le_trans hbel.size hb1.size
      case c5 => simp
      intro v4 w4 r4 g4 _
      have hb4 : Below w.heap.size w w4 := (hbel.trans (hb1.mono hbel.size)).grown g4 (Nat.le_trans hbel.size hb1.size) (fun j hj => (hrow.lt j hj).1)
      have hL := loads_push hrow HF.out (hu2.out.mono hbel.size) r4 g4
      have e1 : (scanOf b).1 = (ls ++ [openLoad (b.drop k)]) ++ (scanOf (b.drop (k + m))).1 := by
        rw [HS1.out, HST.out, HM.out, List.drop_drop]; simp
      have e2 : (scanOf b).2 = (k + m) + (scanOf (b.drop (k + m))).2 := by
        rw [HS2.out, HST.out, HM.out, List.drop_drop]; simp only []; omega
      have E1 := Lib.hid e1
      have E2 := Lib.hid e2
      clear e1 e2 r4 g4 hrow HF hls hbel hb1
      go_wp2
      go_roundw
      case rel => exact ⟨k + m, ls ++ [openLoad (b.drop k)], by go_num, by omega, E1.out, E2.out, hL, hb4, by simp; omega⟩
      case measure => simp [intOf]; omega
    · have hne : (openErr (b.drop k) == 0) = false := by simpa using he
      have hne2 : (openErr (b.drop k) != 0) = true := by simpa using he
      have hstep := scanOf_no he
      rw [hstep] at HS1 HS2
      have E1 := Lib.hid (show (scanOf b).1 = ls by have := HS1.out; simpa using this)
      have E2 := Lib.hid (show (scanOf b).2 = k by have := HS2.out; simpa using this)
      clear hstep he HS1 HS2
      go_wp2
      go_ret2
      refine ⟨u4, ?_, ?_, hbel.trans (hb1.mono hbel.size)⟩
      · rw [E2.out]; rfl
      · rw [E1.out]; exact hls.below hb1
end Go.Proofs.Ytimjadjopemefaa
