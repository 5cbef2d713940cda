/- The walk of Put. -/
import Derived.Test.YtpacbbnnmopkjaaCh3
set_option linter.unusedVariables false
set_option linter.unusedSimpArgs false
namespace Go.Proofs.Ytpacbbnnmopkjaa
open Go.RowKit

def lastT (vs : List (Int × Int)) : Int := (vs.getLast?.getD (0, 0)).1
def putErr (vs : List (Int × Int)) (m t : Int) : Int := if t < 1 ∨ 1125899906842624 < t then 110 else if 0 < vs.length ∧ t ≤ lastT vs ∨ t ≤ m then 111 else if 10000 ≤ vs.length then 112 else 0
def putVer (vs : List (Int × Int)) (m t v : Int) : List (Int × Int) := if putErr vs m t = 0 then vs ++ [(t, v)] else vs

theorem upd_of (S : Nat → Prop) {w w' : World} (h : Below w.heap.size w w') : Upd S w w' := Upd.of_below h

set_option maxHeartbeats 1000000 in
set_option maxRecDepth 100000 in
theorem put_err (g : Nat) (S : Nat → Prop) (vs : List (Int × Int)) (m t x : Int) (w : World) (h : IsChain w S g vs m) (he : putErr vs m t ≠ 0) :
    Calls Try.prog 23 #[.pointer (some ⟨g, 0, none⟩), .int .i64 t, .int .i64 x] w fun e w' => e = .returned (.int .i64 (putErr vs m t)) ∧ Below w.heap.size w w' := by
  obtain ⟨v, hb, hrow, _⟩ := h.at_
  have hs := h.small
  have hgl := hb.lt
  unfold putErr at he ⊢
  by_cases hat : t < 1 ∨ 1125899906842624 < t
  · rw [if_pos hat]
    clear he
    rcases (show t < 1 ∨ (¬ t < 1 ∧ 1125899906842624 < t) by omega) with h2 | ⟨h2, h3⟩
    · go_enter Try.func23, Try.ntmps23
      go_wp2
      go_ret
      exact ⟨rfl, Below.refl _ _⟩
    · go_enter Try.func23, Try.ntmps23
      go_wp2
      go_ret
      exact ⟨rfl, Below.refl _ _⟩
  · rw [if_neg hat] at he ⊢
    have h2 : ¬ t < 1 := by omega
    have h3 : ¬ 1125899906842624 < t := by omega
    obtain ⟨A, cap, rfl, hnc, hcm, _, _⟩ := hrow.cells (by rw [vcs_length]; omega)
    have h1 : w.cell? ⟨g, 1, none⟩ = some (.int .i64 m) := hb.cell 1 _ rfl
    have h0 : w.cell? ⟨g, 0, none⟩ = some (.slice A vs.length cap) := hb.cell 0 _ rfl
    have HL := Lib.hid (last_calls g S vs m w h)
    obtain ⟨z, hz⟩ : ∃ z, z = vs.getLast?.getD (0, 0) := ⟨_, rfl⟩
    have hlt : lastT vs = z.1 := by rw [hz]; rfl
    rw [← hz] at HL
    rw [hlt] at he ⊢
    clear hz hlt hat h
    by_cases ho : 0 < vs.length ∧ t ≤ z.1 ∨ t ≤ m
    · rw [if_pos ho]
      by_cases hl : 0 < vs.length
      · have hd : decide (0 < vs.length) = true := by simpa using hl
        rw [hd] at HL
        by_cases hl2 : t ≤ z.1
        · clear ho he hd
          go_enter Try.func23, Try.ntmps23
          go_wp2_with fail
          refine HL.out.mono ?_
          rintro e w2 ⟨rfl, b2⟩
          have e1 : w2.cell? ⟨g, 1, none⟩ = some (.int .i64 m) := (b2.cell hgl).trans h1
          have e0 : w2.cell? ⟨g, 0, none⟩ = some (.slice A vs.length cap) := (b2.cell hgl).trans h0
          have b3 := b2.alloc b2.size (.cells #[.int .i64 z.1, .int .i64 z.2] 34)
          have e3 : (w2.alloc (.cells #[.int .i64 z.1, .int .i64 z.2] 34)).cell? ⟨g, 1, none⟩ = some (.int .i64 m) := (b3.cell hgl).trans h1
          have e2 : (w2.alloc (.cells #[.int .i64 z.1, .int .i64 z.2] 34)).cell? ⟨g, 0, none⟩ = some (.slice A vs.length cap) := (b3.cell hgl).trans h0
          go_wp2
          go_ret
          exact ⟨rfl, b2.alloc b2.size _⟩
        · have hl3 : t ≤ m := by omega
          have hdz : decide (t ≤ z.1) = false := by simpa using hl2
          clear ho he hd
          go_enter Try.func23, Try.ntmps23
          go_wp2_with fail
          refine HL.out.mono ?_
          rintro e w2 ⟨rfl, b2⟩
          have e1 : w2.cell? ⟨g, 1, none⟩ = some (.int .i64 m) := (b2.cell hgl).trans h1
          have e0 : w2.cell? ⟨g, 0, none⟩ = some (.slice A vs.length cap) := (b2.cell hgl).trans h0
          have b3 := b2.alloc b2.size (.cells #[.int .i64 z.1, .int .i64 z.2] 34)
          have e3 : (w2.alloc (.cells #[.int .i64 z.1, .int .i64 z.2] 34)).cell? ⟨g, 1, none⟩ = some (.int .i64 m) := (b3.cell hgl).trans h1
          have e2 : (w2.alloc (.cells #[.int .i64 z.1, .int .i64 z.2] 34)).cell? ⟨g, 0, none⟩ = some (.slice A vs.length cap) := (b3.cell hgl).trans h0
          go_wp2
          go_ret
          exact ⟨rfl, b2.alloc b2.size _⟩
      · have hd : decide (0 < vs.length) = false := by simpa using hl
        rw [hd] at HL
        have hl3 : t ≤ m := by omega
        clear ho he hd
        go_enter Try.func23, Try.ntmps23
        go_wp2_with fail
        refine HL.out.mono ?_
        rintro e w2 ⟨rfl, b2⟩
        have e1 : w2.cell? ⟨g, 1, none⟩ = some (.int .i64 m) := (b2.cell hgl).trans h1
        have e0 : w2.cell? ⟨g, 0, none⟩ = some (.slice A vs.length cap) := (b2.cell hgl).trans h0
        have b3 := b2.alloc b2.size (.cells #[.int .i64 z.1, .int .i64 z.2] 34)
        have e3 : (w2.alloc (.cells #[.int .i64 z.1, .int .i64 z.2] 34)).cell? ⟨g, 1, none⟩ = some (.int .i64 m) := (b3.cell hgl).trans h1
        have e2 : (w2.alloc (.cells #[.int .i64 z.1, .int .i64 z.2] 34)).cell? ⟨g, 0, none⟩ = some (.slice A vs.length cap) := (b3.cell hgl).trans h0
        go_wp2
        go_ret
        exact ⟨rfl, b2.alloc b2.size _⟩
    · rw [if_neg ho] at he ⊢
      by_cases hf : 10000 ≤ vs.length
      · rw [if_pos hf]
        have hl : 0 < vs.length := by omega
        have hd : decide (0 < vs.length) = true := by simpa using hl
        rw [hd] at HL
        have hl2 : ¬ t ≤ z.1 := by omega
        have hl3 : ¬ t ≤ m := by omega
        have hdz : decide (t ≤ z.1) = false := by simpa using hl2
        clear ho he hd
        go_enter Try.func23, Try.ntmps23
        go_wp2_with fail
        refine HL.out.mono ?_
        rintro e w2 ⟨rfl, b2⟩
        have e1 : w2.cell? ⟨g, 1, none⟩ = some (.int .i64 m) := (b2.cell hgl).trans h1
        have e0 : w2.cell? ⟨g, 0, none⟩ = some (.slice A vs.length cap) := (b2.cell hgl).trans h0
        have b3 := b2.alloc b2.size (.cells #[.int .i64 z.1, .int .i64 z.2] 34)
        have e3 : (w2.alloc (.cells #[.int .i64 z.1, .int .i64 z.2] 34)).cell? ⟨g, 1, none⟩ = some (.int .i64 m) := (b3.cell hgl).trans h1
        have e2 : (w2.alloc (.cells #[.int .i64 z.1, .int .i64 z.2] 34)).cell? ⟨g, 0, none⟩ = some (.slice A vs.length cap) := (b3.cell hgl).trans h0
        go_wp2
        go_ret
        exact ⟨rfl, b2.alloc b2.size _⟩
      · rw [if_neg hf] at he
        exact absurd rfl he

set_option maxHeartbeats 1000000 in
set_option maxRecDepth 100000 in
theorem put_ok (g : Nat) (S : Nat → Prop) (vs : List (Int × Int)) (m t x : Int) (w : World) (h : IsChain w S g vs m) (he : putErr vs m t = 0) :
    Calls Try.prog 23 #[.pointer (some ⟨g, 0, none⟩), .int .i64 t, .int .i64 x] w fun e w' => e = .returned (.int .i64 0) ∧ IsChain w' (fun i => S i ∨ w.heap.size ≤ i) g (vs ++ [(t, x)]) m ∧ Upd S w w' := by
  obtain ⟨v, hb, hrow, hfoot⟩ := h.at_
  have hs := h.small
  have hSg := h.foot
  have hgl := hb.lt
  unfold putErr at he
  by_cases hat : t < 1 ∨ 1125899906842624 < t
  · rw [if_pos hat] at he; cases he
  rw [if_neg hat] at he
  have h2 : ¬ t < 1 := by omega
  have h3 : ¬ 1125899906842624 < t := by omega
  have hown := hrow.lt
  have htyp := hrow.typed
  obtain ⟨A, cap, rfl, hnc, hcm, _, _⟩ := hrow.cells (by rw [vcs_length]; omega)
  have h1 : w.cell? ⟨g, 1, none⟩ = some (.int .i64 m) := hb.cell 1 _ rfl
  have h0 : w.cell? ⟨g, 0, none⟩ = some (.slice A vs.length cap) := hb.cell 0 _ rfl
  have HL := Lib.hid (last_calls g S vs m w h)
  obtain ⟨z, hz⟩ : ∃ z, z = vs.getLast?.getD (0, 0) := ⟨_, rfl⟩
  have hlt : lastT vs = z.1 := by rw [hz]; rfl
  rw [← hz] at HL
  rw [hlt] at he
  by_cases ho : 0 < vs.length ∧ t ≤ z.1 ∨ t ≤ m
  · rw [if_pos ho] at he; cases he
  rw [if_neg ho] at he
  by_cases hf : 10000 ≤ vs.length
  · rw [if_pos hf] at he; cases he
  clear hz hlt hat h he
  have hl3 : ¬ t ≤ m := by omega
  have hfin : ∀ (w2 : World), Below w.heap.size w w2 → ∀ v' w', Row w' 0 34 2 v' (vs.length + 1) (vcs vs ++ [.int .i64 t, .int .i64 x]) → w2.grownBy w' (Value.slice A vs.length cap).ownBlock → (v'.ownBlock = (Value.slice A vs.length cap).ownBlock ∨ ∃ b, v'.ownBlock = some b ∧ w2.heap.size ≤ b) →
      (w'.cell? ⟨g, 0, none⟩ = some (.slice A vs.length cap)) ∧ w'.frozen? ⟨g, 0, none⟩ = false ∧ IsChain (w'.setCell ⟨g, 0, none⟩ v') (fun i => S i ∨ w.heap.size ≤ i) g (vs ++ [(t, x)]) m ∧ Upd S w (w'.setCell ⟨g, 0, none⟩ v') := by
    intro w2 b2 v' w' hr hg ho'
    have hne : some g ≠ (Value.slice A vs.length cap).ownBlock := fun e => (Typed.ne hb.typed (htyp g e.symm) (by decide)) rfl
    have hb' : Blk w' g 91 #[.slice A vs.length cap, .int .i64 m] := (hb.below b2).kept hg hne
    have hne' : some g ≠ v'.ownBlock := by
      rcases ho' with e | ⟨b, e, hb3⟩
      · rw [e]; exact hne
      · rw [e]; intro e2; cases e2; have := b2.size; omega
    refine ⟨hb'.cell 0 _ rfl, hb'.free 0 none, ⟨⟨v', hb'.set 0 v', ?_, ?_⟩, .inl hSg, by simp; omega⟩, ?_⟩
    · have := hr.kept (set_grown w' ⟨g, 0, none⟩ v') (.inr (by simpa using Ne.symm hne'))
      simpa [vcs_append, vcs, ver] using this
    · intro k hk
      rcases ho' with e | ⟨b, e, hb3⟩
      · exact .inl (hfoot k (e.symm.trans hk))
      · rw [e] at hk; cases hk; exact .inr (by have := b2.size; omega)
    · exact ((upd_of S b2).trans (Upd.of_grown (S := S) hg (fun i hi _ => hfoot i hi)) (fun i _ e => e)).set _ _ (fun _ => hSg)
  have HFIN := Lib.hid hfin
  have hrow2 : ∀ w2, Below w.heap.size w w2 → Row w2 0 34 2 (.slice A vs.length cap) vs.length (vcs vs) := fun w2 b => hrow.below b
  have HROW := Lib.hid hrow2
  have hl2 : ¬ (0 < vs.length ∧ t ≤ z.1) := by omega
  clear hfin hrow2 hfoot hown htyp hrow hb ho
  by_cases hl : 0 < vs.length
  · have hd : decide (0 < vs.length) = true := by simpa using hl
    rw [hd] at HL
    have hl4 : ¬ t ≤ z.1 := by omega
    have hdz : decide (t ≤ z.1) = false := by simpa using hl4
    clear hd
    go_enter Try.func23, Try.ntmps23
    go_wp2_with fail
    refine HL.out.mono ?_
    rintro e w2 ⟨rfl, b2⟩
    have e1 : w2.cell? ⟨g, 1, none⟩ = some (.int .i64 m) := (b2.cell hgl).trans h1
    have e0 : w2.cell? ⟨g, 0, none⟩ = some (.slice A vs.length cap) := (b2.cell hgl).trans h0
    have b3 := b2.alloc b2.size (.cells #[.int .i64 z.1, .int .i64 z.2] 34)
    have e3 : (w2.alloc (.cells #[.int .i64 z.1, .int .i64 z.2] 34)).cell? ⟨g, 1, none⟩ = some (.int .i64 m) := (b3.cell hgl).trans h1
    have e2 : (w2.alloc (.cells #[.int .i64 z.1, .int .i64 z.2] 34)).cell? ⟨g, 0, none⟩ = some (.slice A vs.length cap) := (b3.cell hgl).trans h0
    go_wp2_with (with_reducible refine halt_dst 50 ?_)
    have hsz : w2.heap.size + 1 = (w2.alloc (.cells #[.int .i64 z.1, .int .i64 z.2] 34)).heap.size := by simp
    refine wpList_append_lit rfl (.tmp 45) (.tmp 49) 25 rfl 0 34 (.agg #[.int .i64 0, .int .i64 0]) 2 16 Try.underlying25 Try.info34 rfl (by decide) (.slice A vs.length cap) vs.length (vcs vs) rfl (HROW.out _ b3) 1 1 #[.int .i64 t, .int .i64 x] (congrArg (fun n => Value.slice (some ⟨n, 0, none⟩) 1 1) hsz) rfl (by intro u hu; simp at hu; rcases hu with rfl | rfl <;> rfl) (by simp only [maxLen]; omega) (by omega) (Nat.zero_le _) (by simp) ?_
    intro v' w' r' g' o'
    obtain ⟨k0, k1, k2, k3⟩ := HFIN.out _ b3 v' w' r' g' o'
    obtain ⟨A', c', rfl, _, _, _, _⟩ := r'.cells (by simp [vcs_length]; omega)
    clear r' g' o' hsz
    have K2 := Lib.hid k2
    have K3 := Lib.hid k3
    clear k2 k3
    go_wp2
    go_ret
    exact ⟨rfl, K2.out, K3.out⟩
  · have hd : decide (0 < vs.length) = false := by simpa using hl
    rw [hd] at HL
    clear hd
    go_enter Try.func23, Try.ntmps23
    go_wp2_with fail
    refine HL.out.mono ?_
    rintro e w2 ⟨rfl, b2⟩
    have e1 : w2.cell? ⟨g, 1, none⟩ = some (.int .i64 m) := (b2.cell hgl).trans h1
    have e0 : w2.cell? ⟨g, 0, none⟩ = some (.slice A vs.length cap) := (b2.cell hgl).trans h0
    have b3 := b2.alloc b2.size (.cells #[.int .i64 z.1, .int .i64 z.2] 34)
    have e3 : (w2.alloc (.cells #[.int .i64 z.1, .int .i64 z.2] 34)).cell? ⟨g, 1, none⟩ = some (.int .i64 m) := (b3.cell hgl).trans h1
    have e2 : (w2.alloc (.cells #[.int .i64 z.1, .int .i64 z.2] 34)).cell? ⟨g, 0, none⟩ = some (.slice A vs.length cap) := (b3.cell hgl).trans h0
    go_wp2_with (with_reducible refine halt_dst 50 ?_)
    have hsz : w2.heap.size + 1 = (w2.alloc (.cells #[.int .i64 z.1, .int .i64 z.2] 34)).heap.size := by simp
    refine wpList_append_lit rfl (.tmp 45) (.tmp 49) 25 rfl 0 34 (.agg #[.int .i64 0, .int .i64 0]) 2 16 Try.underlying25 Try.info34 rfl (by decide) (.slice A vs.length cap) vs.length (vcs vs) rfl (HROW.out _ b3) 1 1 #[.int .i64 t, .int .i64 x] (congrArg (fun n => Value.slice (some ⟨n, 0, none⟩) 1 1) hsz) rfl (by intro u hu; simp at hu; rcases hu with rfl | rfl <;> rfl) (by simp only [maxLen]; omega) (by omega) (Nat.zero_le _) (by simp) ?_
    intro v' w' r' g' o'
    obtain ⟨k0, k1, k2, k3⟩ := HFIN.out _ b3 v' w' r' g' o'
    obtain ⟨A', c', rfl, _, _, _, _⟩ := r'.cells (by simp [vcs_length]; omega)
    clear r' g' o' hsz
    have K2 := Lib.hid k2
    have K3 := Lib.hid k3
    clear k2 k3
    go_wp2
    go_ret
    exact ⟨rfl, K2.out, K3.out⟩

theorem put_calls (g : Nat) (S : Nat → Prop) (vs : List (Int × Int)) (m t x : Int) (w : World) (h : IsChain w S g vs m) :
    Calls Try.prog 23 #[.pointer (some ⟨g, 0, none⟩), .int .i64 t, .int .i64 x] w fun e w' => e = .returned (.int .i64 (putErr vs m t)) ∧ IsChain w' (fun i => S i ∨ w.heap.size ≤ i) g (putVer vs m t x) m ∧ Upd S w w' := by
  unfold putVer
  by_cases he : putErr vs m t = 0
  · rw [if_pos he, he]; exact put_ok g S vs m t x w h he
  · rw [if_neg he]
    refine (put_err g S vs m t x w h he).mono ?_
    rintro e w' ⟨rfl, b⟩
    exact ⟨rfl, (h.below b).mono (fun i hi => .inl hi), upd_of S b⟩
end Go.Proofs.Ytpacbbnnmopkjaa
