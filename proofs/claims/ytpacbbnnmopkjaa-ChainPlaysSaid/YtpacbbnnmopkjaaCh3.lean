/- The walks of Get, Put, List. -/
import Derived.Test.YtpacbbnnmopkjaaCh2
set_option linter.unusedVariables false
set_option linter.unusedSimpArgs false
namespace Go.Proofs.Ytpacbbnnmopkjaa
open Go.RowKit

def getErr (vs : List (Int × Int)) (m at_ : Int) : Int := if at_ < 0 ∨ 1125899906842624 < at_ then 110 else if at_ < m then 113 else if cnt vs at_ = 0 then 114 else 0
def getVer (vs : List (Int × Int)) (m at_ : Int) : Int × Int := if getErr vs m at_ = 0 then vs.getD (cnt vs at_ - 1) (0, 0) else (0, 0)
def vagg (x : Int × Int) : Value := .agg #[.int .i64 x.1, .int .i64 x.2]

theorem results_ver {fn : Func} {tmps : Array Value} {W : World} {a u : Tmp} {g : Nat} {x : Int × Int} (hres : fn.results = #[.cell a 34, .tmp u]) (ha : tmps.getD a undef = .pointer (some ⟨g, 0, none⟩))
    (c0 : W.cell? ⟨g, 0, none⟩ = some (.int .i64 x.1)) (c1 : W.cell? ⟨g, 1, none⟩ = some (.int .i64 x.2)) :
    (results fn tmps).run Try.prog W = .ok (.tuple #[vagg x, tmps.getD u undef]) W := by
  have ha' : tmps[a]?.getD undef = .pointer (some ⟨g, 0, none⟩) := by simpa using ha
  simp [results, hres, ha', c0, c1, go_sem, vagg]
set_option maxHeartbeats 1000000 in
theorem get_err (g : Nat) (S : Nat → Prop) (vs : List (Int × Int)) (m at_ : Int) (w : World) (h : IsChain w S g vs m) (hr : Rises vs) (he : getErr vs m at_ ≠ 0) :
    Calls Try.prog 22 #[.pointer (some ⟨g, 0, none⟩), .int .i64 at_] w fun e w' => e = .returned (.tuple #[.agg #[.int .i64 0, .int .i64 0], .int .i64 (getErr vs m at_)]) ∧ Below w.heap.size w w' := by
  obtain ⟨v, hb, _⟩ := h.at_
  have h1 : w.cell? ⟨g, 1, none⟩ = some (.int .i64 m) := hb.cell 1 _ rfl
  have hgl := hb.lt
  have b1 : Below w.heap.size w (w.alloc (.cells #[.int .i64 0, .int .i64 0] 34)) := (Below.refl _ _).alloc (Nat.le_refl _) _
  unfold getErr at he ⊢
  by_cases hat : at_ < 0 ∨ 1125899906842624 < at_
  · rw [if_pos hat]
    clear he
    rcases (show at_ < 0 ∨ (¬ at_ < 0 ∧ 1125899906842624 < at_) by omega) with h2 | ⟨h2, h3⟩
    · go_enter Try.func22, Try.ntmps22
      go_wp2
      try simp only [Exit.inBlock, Exit.then]
      refine bodyPost_ret (v := .tuple #[.agg #[.int .i64 0, .int .i64 0], .int .i64 110]) ?_ rfl ?_
      · simp [results, Try.results22, go_sem]
      exact ⟨rfl, b1⟩
    · go_enter Try.func22, Try.ntmps22
      go_wp2
      try simp only [Exit.inBlock, Exit.then]
      refine bodyPost_ret (v := .tuple #[.agg #[.int .i64 0, .int .i64 0], .int .i64 110]) ?_ rfl ?_
      · simp [results, Try.results22, go_sem]
      exact ⟨rfl, b1⟩
  · rw [if_neg hat] at he ⊢
    have h2 : ¬ at_ < 0 := by omega
    have h3 : ¬ 1125899906842624 < at_ := by omega
    by_cases hm : at_ < m
    · rw [if_pos hm]
      clear he hat
      go_enter Try.func22, Try.ntmps22
      go_wp2
      try simp only [Exit.inBlock, Exit.then]
      refine bodyPost_ret (v := .tuple #[.agg #[.int .i64 0, .int .i64 0], .int .i64 113]) ?_ rfl ?_
      · simp [results, Try.results22, go_sem]
      exact ⟨rfl, b1⟩
    · rw [if_neg hm] at he ⊢
      by_cases hc : cnt vs at_ = 0
      · rw [if_pos hc]
        have HC := Lib.hid hc
        have h' : IsChain (w.alloc (.cells #[.int .i64 0, .int .i64 0] 34)) S g vs m := by
          obtain ⟨v, h1, h2, h3⟩ := h.at_
          exact ⟨⟨v, h1.below b1, h2.below b1, h3⟩, h.foot, h.small⟩
        clear he hat hc h
        go_enter Try.func22, Try.ntmps22
        go_wp2_with fail
        refine (place_calls g S vs m at_ _ h' hr).mono ?_
        rintro e w2 ⟨rfl, b2⟩
        rw [HC.out]
        have B2 := b1.trans (b2.mono b1.size)
        have hz := (Blk.new w 34 #[.int .i64 0, .int .i64 0]).below b2
        have c0 : w2.cell? ⟨w.heap.size, 0, none⟩ = some (.int .i64 0) := hz.cell 0 _ rfl
        have c1 : w2.cell? ⟨w.heap.size, 1, none⟩ = some (.int .i64 0) := hz.cell 1 _ rfl
        have f0 := hz.free 0 none
        have f1 := hz.free 1 none
        have hz2 := (hz.set 0 (.int .i64 0)).set 1 (.int .i64 0)
        have B3 := (B2.setCell (p := ⟨w.heap.size, 0, none⟩) (Nat.le_refl _) (.int .i64 0)).setCell (p := ⟨w.heap.size, 1, none⟩) (Nat.le_refl _) (.int .i64 0)
        clear b1 b2
        go_wp2
        try simp only [Exit.inBlock, Exit.then]
        refine bodyPost_ret (results_ver (x := (0, 0)) rfl rfl (hz2.cell 0 _ rfl) (hz2.cell 1 _ rfl)) rfl ?_
        exact ⟨rfl, B3⟩
      · rw [if_neg hc] at he
        exact absurd rfl he

theorem IsChain.below {w w' : World} {S : Nat → Prop} {g : Nat} {vs : List (Int × Int)} {m : Int} (h : IsChain w S g vs m) (hb : Below w.heap.size w w') : IsChain w' S g vs m := by
  obtain ⟨v, h1, h2, h3⟩ := h.at_
  exact ⟨⟨v, h1.below hb, h2.below hb, h3⟩, h.foot, h.small⟩
theorem IsChain.mono {w : World} {S S' : Nat → Prop} {g : Nat} {vs : List (Int × Int)} {m : Int} (h : IsChain w S g vs m) (hs : ∀ i, S i → S' i) : IsChain w S' g vs m := by
  obtain ⟨v, h1, h2, h3⟩ := h.at_
  exact ⟨⟨v, h1, h2, fun k hk => hs _ (h3 k hk)⟩, hs _ h.foot, h.small⟩

set_option maxHeartbeats 1000000 in
theorem get_ok (g : Nat) (S : Nat → Prop) (vs : List (Int × Int)) (m at_ : Int) (w : World) (h : IsChain w S g vs m) (hr : Rises vs) (he : getErr vs m at_ = 0) :
    Calls Try.prog 22 #[.pointer (some ⟨g, 0, none⟩), .int .i64 at_] w fun e w' => e = .returned (.tuple #[vagg (vs.getD (cnt vs at_ - 1) (0, 0)), .int .i64 0]) ∧ Below w.heap.size w w' := by
  have hcl := cnt_le vs at_
  have hs := h.small
  obtain ⟨v, hb, hrow, _⟩ := h.at_
  have h1 : w.cell? ⟨g, 1, none⟩ = some (.int .i64 m) := hb.cell 1 _ rfl
  have hgl := hb.lt
  have b1 : Below w.heap.size w (w.alloc (.cells #[.int .i64 0, .int .i64 0] 34)) := (Below.refl _ _).alloc (Nat.le_refl _) _
  have h' := h.below b1
  unfold getErr at he
  by_cases hat : at_ < 0 ∨ 1125899906842624 < at_
  · rw [if_pos hat] at he; cases he
  rw [if_neg hat] at he
  have h2 : ¬ at_ < 0 := by omega
  have h3 : ¬ 1125899906842624 < at_ := by omega
  by_cases hm : at_ < m
  · rw [if_pos hm] at he; cases he
  rw [if_neg hm] at he
  by_cases hc : cnt vs at_ = 0
  · rw [if_pos hc] at he; cases he
  obtain ⟨k, hk⟩ : ∃ k, cnt vs at_ = k + 1 := ⟨cnt vs at_ - 1, by omega⟩
  rw [hk, Nat.add_sub_cancel]
  obtain ⟨A, cap, rfl, hnc, hcm, hA, hcell⟩ := hrow.ver (by omega)
  have hkl : k < vs.length := by omega
  have hx : vs.getD k (0, 0) = vs[k] := by simp [List.getD_eq_getElem?_getD, hkl]
  rw [hx]
  obtain ⟨x, hxx⟩ : ∃ x, x = vs[k] := ⟨_, rfl⟩
  obtain ⟨c0, c1⟩ := hcell k hkl
  rw [← hxx] at c0 c1 ⊢
  have HK := Lib.hid hk
  clear he hat hc h hk hcell hx hxx hcl hrow
  go_enter Try.func22, Try.ntmps22
  go_wp2_with fail
  refine (place_calls g S vs m at_ _ h' hr).mono ?_
  rintro e w2 ⟨rfl, b2⟩
  rw [HK.out]
  have B2 := b1.trans (b2.mono b1.size)
  have hz := (Blk.new w 34 #[.int .i64 0, .int .i64 0]).below b2
  have d0 : w2.cell? ⟨w.heap.size, 0, none⟩ = some (.int .i64 0) := hz.cell 0 _ rfl
  have d1 : w2.cell? ⟨w.heap.size, 1, none⟩ = some (.int .i64 0) := hz.cell 1 _ rfl
  have f0 := hz.free 0 none
  have f1 := hz.free 1 none
  have e0 : w2.cell? ⟨A, k * 2, none⟩ = some (.int .i64 x.1) := (B2.cell hA).trans c0
  have e1 : w2.cell? ⟨A, k * 2 + 1, none⟩ = some (.int .i64 x.2) := (B2.cell hA).trans c1
  have e2 : w2.cell? ⟨g, 0, none⟩ = some (.slice (some ⟨A, 0, none⟩) vs.length cap) := (B2.cell hgl).trans (hb.cell 0 _ rfl)
  have hz2 := (hz.set 0 (.int .i64 x.1)).set 1 (.int .i64 x.2)
  have B3 := (B2.setCell (p := ⟨w.heap.size, 0, none⟩) (Nat.le_refl _) (.int .i64 x.1)).setCell (p := ⟨w.heap.size, 1, none⟩) (Nat.le_refl _) (.int .i64 x.2)
  clear b1 b2 c0 c1 hb h1 h'
  go_wp2
  try simp only [Exit.inBlock, Exit.then]
  refine bodyPost_ret (results_ver (x := x) rfl rfl (hz2.cell 0 _ rfl) (hz2.cell 1 _ rfl)) rfl ?_
  exact ⟨rfl, B3⟩
theorem get_calls (g : Nat) (S : Nat → Prop) (vs : List (Int × Int)) (m at_ : Int) (w : World) (h : IsChain w S g vs m) (hr : Rises vs) :
    Calls Try.prog 22 #[.pointer (some ⟨g, 0, none⟩), .int .i64 at_] w fun e w' => e = .returned (.tuple #[vagg (getVer vs m at_), .int .i64 (getErr vs m at_)]) ∧ Below w.heap.size w w' := by
  unfold getVer
  by_cases he : getErr vs m at_ = 0
  · rw [if_pos he, he]; exact get_ok g S vs m at_ w h hr he
  · rw [if_neg he]; exact get_err g S vs m at_ w h hr he
end Go.Proofs.Ytpacbbnnmopkjaa
