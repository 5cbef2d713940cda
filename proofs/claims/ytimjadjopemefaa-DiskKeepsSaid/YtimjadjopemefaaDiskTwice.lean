/- DiskTwice: the walk of the law. -/
import Derived.Test.YtimjadjopemefaaDke
import Derived.Deep.Cut
set_option linter.unusedVariables false
set_option linter.unusedSimpArgs false
namespace Go.Proofs.Ytimjadjopemefaa
open Go.RowKit

/-- All that a log has is sure. -/
def AllSure (ls : List (List UInt8 × Nat)) : Prop := ∀ i (h : i < ls.length), ls[i].2 = ls[i].1.length
theorem crash_again {ls : List (List UInt8 × Nat)} (ks : List Int) (k : Nat) (h : AllSure ls) : crashTo ls ks k = ls := by
  apply List.ext_getElem (by simp [crashTo])
  intro i h1 h2
  rw [crashTo_get]
  have := h i h2
  split
  · have e : crashN ls[i] ks[i]? = ls[i].1.length := by
      unfold crashN
      cases ks[i]? with
      | none => simpa using this
      | some x => simp only; omega
    unfold crashLog
    rw [e, List.take_length]
    exact Prod.ext rfl this.symm
  · rfl
theorem crash_sure {ls : List (List UInt8 × Nat)} {ks : List Int} (h : ∀ j (h : j < ls.length), ls[j].1.length ≤ 4194304 ∧ ls[j].2 ≤ ls[j].1.length) : AllSure (crashTo ls ks ls.length) := by
  intro i hi
  have hi' : i < ls.length := by rwa [crashTo_length] at hi
  rw [crashTo_get, if_pos hi']
  have := (crashN_le (h i hi').2 ks[i]?).1
  simp only [crashLog, List.length_take]
  omega

theorem dquiet_eq {P : Program} {f : FuncId} {args : Array Value} {w : World} {n : Nat} {v : Value}
    (h : Calls P f args (w.drewN n) fun e w' => e = .returned v ∧ w.drewN n = w') : Calls P f args (w.drewN n) fun e w'' => e = .returned v ∧ ∃ m, w'' = w.drewN m :=
  h.mono fun _ _ ⟨he, hm⟩ => ⟨he, n, hm.symm⟩

def wasArr (L : Nat → List UInt8) (k : Nat) : Array Value := #[.string (str (if 0 < k then L 0 else [])), .string (str (if 1 < k then L 1 else [])), .string (str (if 2 < k then L 2 else []))]
theorem was_get (L : Nat → List UInt8) (k i : Nat) (hi : i < 3) : (wasArr L k)[i]? = some (.string (str (if i < k then L i else []))) := by
  obtain rfl | rfl | rfl : i = 0 ∨ i = 1 ∨ i = 2 := by omega
  all_goals rfl
theorem was_set (L : Nat → List UInt8) (k : Nat) (hk : k < 3) : (wasArr L k).setIfInBounds k (.string (str (L k))) = wasArr L (k + 1) := by
  obtain rfl | rfl | rfl : k = 0 ∨ k = 1 ∨ k = 2 := by omega
  all_goals simp [wasArr]

set_option maxHeartbeats 4000000 in
set_option maxRecDepth 100000 in
theorem diskTwice_walk (A : Option Addr) (n0 c : Nat) (l : List Act5) (K : Option Addr) (m0 d0 : Nat) (keep : List Int) (M : Option Addr) (p0 q0 : Nat) (more : List Int) (w : World) (w0 : n0 = l.length ∧ Cells w A (acs l) ∧ ∀ x ∈ l, GoodAct w x) (w1 : m0 = keep.length ∧ m0 ≤ d0 ∧ Cells w K (ints keep)) (w2 : p0 = more.length ∧ p0 ≤ q0 ∧ Cells w M (ints more)) :
    Calls Try.prog 16 #[.slice A n0 c, .slice K m0 d0, .slice M p0 q0] w fun e w' => e = .returned (.bool true) ∧ Below w.heap.size w w' := by
  obtain ⟨hn, hA, hg⟩ := w0
  obtain ⟨hm, _, hK⟩ := w1
  obtain ⟨hp, _, hM⟩ := w2
  have HM := Lib.hid (dmade_calls A n0 c l w hn hA hg)
  have hpow := pow_made l
  obtain ⟨D0, hD0⟩ : ∃ D, D = madeD l := ⟨_, rfl⟩
  rw [← hD0] at HM hpow
  have HK := Lib.hid hK
  have HMM := Lib.hid hM
  have HPO := Lib.hid hpow
  have HM0 := Lib.hid hm
  have HP0 := Lib.hid hp
  clear hn hA hg hD0 hpow hK hM hm hp
  go_enter Try.func16, Try.ntmps16
  go_wp2_with fail
  refine HM.out.mono ?_
  rintro e w1 ⟨g, S1, rfl, h1⟩
  have H1 := Lib.hid h1
  clear h1 HM
  go_wp2_with fail
  refine (dawake_calls w1).mono ?_
  rintro e w2 ⟨rfl, b2⟩
  have h2 := H1.out.later b2
  have hsm := h2.disk.small
  have H2 := Lib.hid h2
  obtain ⟨D1, hD1⟩ : ∃ D, D = { D0.crash keep with down := false } := ⟨_, rfl⟩
  have hcr : D0.crash keep = { D1 with down := true } := by
    rw [hD1]; unfold DS.crash; rw [if_neg (by rw [HPO.out.2.1]; decide)]
  have hcr2 : (D0.crash keep).crash more = D0.crash keep := by
    rw [hcr]; unfold DS.crash; rw [if_pos rfl]
  have hpw : Pow D1 := by rw [hD1]; exact pow_crash HPO.out
  have hsure : AllSure D1.logs := by
    rw [hD1]
    unfold DS.crash
    rw [if_neg (by rw [HPO.out.2.1]; decide)]
    exact crash_sure hsm
  have hag : ({ D1.crash more with down := false } : DS) = D1 := by
    unfold DS.crash
    rw [if_neg (by rw [hpw.2.1]; decide)]
    simp only [crash_again more _ hsure]
    obtain ⟨_, a1, a2⟩ := hpw
    cases D1
    simp_all
  have HCR := Lib.hid hcr
  have HCR2 := Lib.hid hcr2
  have HPW := Lib.hid hpw
  have HSU := Lib.hid hsure
  have HAG := Lib.hid hag
  clear h2 hsm hD1 hcr hcr2 hpw hsure hag b2 H1 HPO
  by_cases hbig : 20 < m0 ∨ 20 < p0
  · have HB := Lib.hid H2.out.below
    rcases hbig with hbig | hbig
    · have hb1 : (20 : Int) < (m0 : Int) := by omega
      clear hbig
      go_wp2
      go_ret
      exact ⟨rfl, HB.out⟩
    · have hb2 : (20 : Int) < (p0 : Int) := by omega
      by_cases hb3 : 20 < m0
      · have hb1 : (20 : Int) < (m0 : Int) := by omega
        clear hbig hb3
        go_wp2
        go_ret
        exact ⟨rfl, HB.out⟩
      · have hb1 : ¬ (20 : Int) < (m0 : Int) := by omega
        clear hbig hb3
        go_wp2
        go_ret
        exact ⟨rfl, HB.out⟩
  have hb1 : ¬ (20 : Int) < (m0 : Int) := by omega
  have hb2 : ¬ (20 : Int) < (p0 : Int) := by omega
  clear hbig
  go_wp2_with fail
  refine (held_crash0 H2.out K m0 d0 keep HM0.out HK.out).mono ?_
  rintro e w3 ⟨rfl, S3, h3, _⟩
  have H3 := Lib.hid h3
  clear h3 H2
  go_wp2_with fail
  refine (held_crash0 H3.out M p0 q0 more HP0.out HMM.out).mono ?_
  rintro e w4 ⟨rfl, S4, h4, _⟩
  rw [HCR2.out, HCR.out] at h4
  have H4 := Lib.hid h4
  clear h4 H3
  go_wp2_with fail
  refine (held_up H4.out).mono ?_
  rintro e w5 ⟨rfl, S5, h5, _⟩
  have e5 : (⟨D1.logs, D1.acts, false, D1.armed, D1.keep⟩ : DS) = D1 := by
    obtain ⟨_, a1, _⟩ := HPW.out
    cases D1
    simp_all
  have h5 : Held w w5 S5 g ⟨D1.logs, D1.acts, false, D1.armed, D1.keep⟩ := h5
  rw [e5] at h5
  clear e5
  have b6 := (Below.refl w5.heap.size w5).alloc (Nat.le_refl _) (.cells #[.string ⟨#[]⟩, .string ⟨#[]⟩, .string ⟨#[]⟩] 79)
  have h6 := h5.later b6
  have n6 := Blk.new w5 79 #[.string ⟨#[]⟩, .string ⟨#[]⟩, .string ⟨#[]⟩]
  have hb8 : ∀ i, S5 i → i ≠ w5.heap.size := fun i hi => by have := (h5.own i hi).2; omega
  have hb8w : w.heap.size ≤ w5.heap.size := h5.below.size
  clear h5 b6 H4
  go_upto_region 10 with fail
  generalize w5.alloc (.cells #[.string ⟨#[]⟩, .string ⟨#[]⟩, .string ⟨#[]⟩] 79) = W6 at h6 n6 ⊢
  obtain ⟨b8, hb8e⟩ : ∃ b, b = w5.heap.size := ⟨_, rfl⟩
  rw [← hb8e] at hb8 hb8w n6 ⊢
  clear hb8e
  obtain ⟨L, hL⟩ : ∃ L : Nat → List UInt8, L = fun i : Nat => (D1.log (i : Int)).1 := ⟨_, rfl⟩
  have n6 : Blk W6 b8 79 (wasArr L 0) := n6
  have HRD := Lib.hid (show ∀ i : Nat, i < 3 → D1.readErr (i : Int) = 0 ∧ (D1.log (i : Int)).1 = L i ∧ D1.sure (i : Int) = (L i).length from fun i hi => by
    obtain ⟨e1, e2, e3⟩ := pow_read HPW.out hi
    refine ⟨e1, by rw [hL], ?_⟩
    rw [e2, hL]
    simp only [e3]
    exact HSU.out i _)
  have H6 := Lib.hid h6
  have N6 := Lib.hid n6
  have HB8 := Lib.hid hb8
  clear h6 n6 hL hb8
  go_wp2
  go_loopw [9] (fun i wr => ∃ k : Nat, k ≤ 3 ∧ i = .int .i64 k ∧ Held w wr S5 g D1 ∧ Blk wr b8 79 (wasArr L k)) (fun i _ => 3 - (intOf i).toNat)
  case atStart => exact ⟨0, by omega, rfl, H6.out, N6.out⟩
  case round =>
    obtain ⟨k, hk, rfl, hd, hb⟩ := hrel
    clear H6 N6
    by_cases hlt : k < 3
    · obtain ⟨re, rl, rs⟩ := HRD.out k hlt
      have RE := Lib.hid re
      have RL := Lib.hid rl
      have HH := Lib.hid hd
      have HB := Lib.hid hb
      clear re rl rs hd hb
      go_wp2_with fail
      refine (held_read HH.out (k : Int)).mono ?_
      rintro e w7 ⟨A7, c7, rfl, o7, h7, b7⟩
      rw [RE.out, if_pos rfl, RL.out] at o7 ⊢
      have hb7 := HB.out.below b7
      have hst := hb7.set k (.string (str (L k)))
      rw [was_set L k hlt] at hst
      have c7' : w7.cell? ⟨b8, k, none⟩ = some (.string (str (if k < k then L k else []))) := hb7.cell k _ (was_get L k k hlt)
      have f7 : w7.frozen? ⟨b8, k, none⟩ = false := hb7.free k none
      have h8 := h7.upd (S2 := fun i => i = b8) ((Upd.refl (fun i => i = b8) w7).set ⟨b8, k, none⟩ (.string (str (L k))) (fun _ => rfl)) (fun i e hs => HB8.out i hs e) (fun i e => by rw [e]; exact hb8w)
      have HST := Lib.hid hst
      have H8 := Lib.hid h8
      have O7 := Lib.hid o7.cells
      clear hst h8 o7 h7 hb7 b7 HH HB
      go_wp2_with (with_reducible refine halt_dst 53 ?_)
      refine wpList_string rfl (.tmp 52) 22 9 5 rfl Try.underlying22 Try.underlying5 Try.underlying9 A7 (L k).length c7 (L k) rfl rfl O7.out ?_
      go_wp2
      go_roundw
      case rel => exact ⟨k + 1, by omega, by go_num, H8.out, HST.out⟩
      case measure => simp [intOf]; omega
    · obtain rfl : k = 3 := by omega
      have HH := Lib.hid hd
      have HB := Lib.hid hb
      clear hd hb
      go_wp2_with fail
      refine (held_crash0 HH.out M p0 q0 more HP0.out HMM.out).mono ?_
      rintro e w7 ⟨rfl, S7, h7, g7⟩
      have H7 := Lib.hid h7
      have hb7 := HB.out.upd g7.upd (fun h => HB8.out _ h rfl)
      have hlt8 := HB.out.lt
      have hn7 : ∀ i, S7 i → i ≠ b8 := fun i hi e => by
        rcases g7.new i hi with h | h
        · exact HB8.out i h e
        · omega
      have HB7 := Lib.hid hb7
      have HN7 := Lib.hid hn7
      clear h7 g7 hb7 hlt8 hn7 HH HB
      go_wp2_with fail
      refine (held_up H7.out).mono ?_
      rintro e w8 ⟨rfl, S8, h8, g8⟩
      rw [HAG.out] at h8
      have H8 := Lib.hid h8
      have HB9 := Lib.hid (HB7.out.upd g8.upd (fun h => HN7.out _ h rfl))
      clear h8 g8 H7 HB7 HN7
      go_wp2
      go_loopw [12] (fun i wr => ∃ k : Nat, k ≤ 3 ∧ i = .int .i64 k ∧ Held w wr S8 g D1 ∧ Blk wr b8 79 (wasArr L 3)) (fun i _ => 3 - (intOf i).toNat)
      case atStart => exact ⟨0, by omega, rfl, H8.out, HB9.out⟩
      case round =>
        obtain ⟨k, hk, rfl, hd, hb⟩ := hrel
        clear H8 HB9
        by_cases hlt : k < 3
        · obtain ⟨re, rl, rs⟩ := HRD.out k hlt
          have RE := Lib.hid re
          have RL := Lib.hid rl
          have RS := Lib.hid rs
          have HH := Lib.hid hd
          have HB := Lib.hid hb
          clear re rl rs hd hb
          go_wp2_with fail
          refine (held_read HH.out (k : Int)).mono ?_
          rintro e w9 ⟨A9, c9, rfl, o9, h9, b9⟩
          rw [RE.out, if_pos rfl, RL.out] at o9 ⊢
          have hb9 := HB.out.below b9
          have q9 : w9.cell? ⟨b8, k, none⟩ = some (.string (str (L k))) := by
            have := hb9.cell k _ (was_get L 3 k hlt)
            rw [if_pos hlt] at this; exact this
          have kcv := fun q => run_string (w := w9.drewN q) 22 9 5 Try.underlying22 Try.underlying5 Try.underlying9 A9 c9 (L k) (o9.cells.below (bdrewN (Below.refl _ _) q))
          have HSR := Lib.hid (fun q => (by have := dsure_calls g S8 D1 (k : Int) (w9.drewN q) (h9.drewN q).disk; rw [RS.out] at this; exact this : Calls Try.prog 50 #[.pointer (some ⟨g, 0, none⟩), .int .i64 (k : Int)] (w9.drewN q) fun e w' => e = .returned (.int .i64 ((L k).length : Int)) ∧ w9.drewN q = w'))
          have H9 := Lib.hid h9
          have HB9 := Lib.hid hb9
          clear o9 h9 b9 hb9 HH HB
          go_upto_region 23 with fail
          go_quiet ((go_at_call 50; exact dquiet_eq (HSR.out _)))
          go_wp2
          go_roundw
          case rel => exact ⟨k + 1, by omega, by go_num, H9.out.drewN _, HB9.out.below (bdrewN (Below.refl _ _) _)⟩
          case measure => simp [intOf]; omega
        · obtain rfl : k = 3 := by omega
          have HB := Lib.hid hd.below
          clear hd hb HRD
          go_wp2
          go_ret
          exact ⟨rfl, HB.out⟩
end Go.Proofs.Ytimjadjopemefaa
