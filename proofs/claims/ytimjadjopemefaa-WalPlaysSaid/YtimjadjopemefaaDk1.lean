/- A disk in memory: what its blocks hold, and what a run may change of it. -/
import Derived.Test.YtimjadjopemefaaProg
import Derived.Test.YtimjadjopemefaaCpy
import Derived.Test.YtimjadjopemefaaCut
import Derived.WalkKit
import Derived.Outline
import Derived.WalkLawsBesides
import Derived.WalkSpells
import Derived.Deep.QuietTactic
import Derived.BigQuiet
import Derived.KernelRfl
import Derived.Lib.Hide
set_option linter.unusedVariables false
set_option linter.unusedSimpArgs false
namespace Go.Proofs.Ytimjadjopemefaa
open Go.RowKit

def ints (l : List Int) : List Value := l.map (fun i => .int .i64 i)
theorem ints_length (l : List Int) : (ints l).length = l.length := by simp [ints]
theorem ints_get (l : List Int) (i : Nat) (h : i < l.length) : (ints l)[i]? = some (.int .i64 l[i]) := by simp [ints, h]
theorem ints_one (l : List Int) : ∀ u ∈ ints l, u.oneCell' = true := by
  intro u hu
  simp [ints] at hu
  obtain ⟨a, _, rfl⟩ := hu
  rfl

/-- A disk: its logs (their bytes, and how many of them are sure), its acts, whether it is down, what is armed. -/
structure DS where
  logs : List (List UInt8 × Nat)
  acts : Nat
  down : Bool
  armed : Int
  keep : List Int

/-- The logs: their structs lie in block L; v is where each one's bytes lie. -/
structure LogsAt (w : World) (S : Nat → Prop) (L : Nat) (ls : List (List UInt8 × Nat)) (v : Nat → Value) : Prop where
  blk : ∃ cs, Blk w L 126 cs ∧ ∀ i (h : i < ls.length), cs[i * 2]? = some (v i) ∧ cs[i * 2 + 1]? = some (.int .i64 (ls[i].2 : Int))
  row : ∀ i (h : i < ls.length), Row w 0 5 1 (v i) ls[i].1.length (byts ls[i].1)
  apart : ∀ i j k, i < ls.length → j < ls.length → i ≠ j → (v i).ownBlock = some k → (v j).ownBlock ≠ some k
  own : ∀ i, i < ls.length → ∀ k, (v i).ownBlock = some k → S k
  foot : S L
  few : ls.length ≤ 16

section
variable {w w1 w' : World} {S S' : Nat → Prop} {L : Nat} {ls : List (List UInt8 × Nat)} {v : Nat → Value} {i : Nat}
theorem LogsAt.typed (h : LogsAt w S L ls v) : Typed w L 126 := by obtain ⟨cs, hb, _⟩ := h.blk; exact hb.typed
theorem LogsAt.lt (h : LogsAt w S L ls v) : L < w.heap.size := h.typed.lt
theorem LogsAt.mono (h : LogsAt w S L ls v) (hs : ∀ k, S k → S' k) : LogsAt w S' L ls v := ⟨h.blk, h.row, h.apart, fun i hi k hk => hs k (h.own i hi k hk), hs L h.foot, h.few⟩
theorem LogsAt.same (h : LogsAt w S L ls v) (he : ∀ k, k < w.heap.size → (Typed w k 126 ∧ k = L ∨ Typed w k 5 ∧ S k) → w'.heap[k]? = w.heap[k]?) : LogsAt w' S L ls v := by
  obtain ⟨cs, hb, hc⟩ := h.blk
  exact ⟨⟨cs, hb.same (he L h.lt (.inl ⟨hb.typed, rfl⟩)), hc⟩, fun i hi => (h.row i hi).same fun k hk hl => he k hl (.inr ⟨(h.row i hi).typed k hk, h.own i hi k hk⟩), h.apart, h.own, h.foot, h.few⟩
theorem LogsAt.below (h : LogsAt w S L ls v) (hb : Below w.heap.size w w') : LogsAt w' S L ls v := h.same fun k hk _ => hb.block k hk
theorem LogsAt.upd (h : LogsAt w S L ls v) (hu : Upd S' w w') (hs : ∀ k, S k → ¬ S' k) : LogsAt w' S L ls v := h.same fun k hk ho => hu.block k hk (hs k (by
  rcases ho with ⟨_, rfl⟩ | ⟨_, h2⟩
  · exact h.foot
  · exact h2))
/-- What is changed in a block of another type changes no log. -/
theorem LogsAt.kept {g : Nat} {T : TypeId} (h : LogsAt w S L ls v) (hg : w.grownBy w' (some g)) (ht : Typed w g T) (h1 : T ≠ 126) (h2 : T ≠ 5) : LogsAt w' S L ls v := by
  refine h.same fun k hk ho => hg.block k hk fun e => ?_
  cases e
  rcases ho with ⟨h3, _⟩ | ⟨h3, _⟩
  · exact (Typed.ne ht h3 h1) rfl
  · exact (Typed.ne ht h3 h2) rfl
theorem LogsAt.cells (h : LogsAt w S L ls v) (hi : i < ls.length) : w.cell? ⟨L, i * 2, none⟩ = some (v i) ∧ w.cell? ⟨L, i * 2 + 1, none⟩ = some (.int .i64 (ls[i].2 : Int)) := by
  obtain ⟨cs, hb, hc⟩ := h.blk
  exact ⟨hb.cell _ _ (hc i hi).1, hb.cell _ _ (hc i hi).2⟩
theorem LogsAt.free (h : LogsAt w S L ls v) (j : Nat) : w.frozen? ⟨L, j, none⟩ = false := by
  obtain ⟨cs, hb, hc⟩ := h.blk
  exact hb.free _ none
theorem LogsAt.ne (h : LogsAt w S L ls v) (hi : i < ls.length) : (v i).ownBlock ≠ some L := fun e => (Typed.ne h.typed ((h.row i hi).typed L e) (by decide)) rfl
/-- A log is sure of so many bytes. -/
theorem LogsAt.put1 (h : LogsAt w S L ls v) (hi : i < ls.length) (s : Nat) : LogsAt (w.setCell ⟨L, i * 2 + 1, none⟩ (.int .i64 (s : Int))) S L (ls.set i (ls[i].1, s)) v := by
  obtain ⟨cs, hb, hc⟩ := h.blk
  have hsz : i * 2 + 1 < cs.size := (Array.getElem?_eq_some_iff.1 (hc i hi).2).1
  refine ⟨⟨_, hb.set _ _, fun j hj => ?_⟩, fun j hj => ?_, fun a b k ha hb => h.apart a b k (by simpa using ha) (by simpa using hb), fun j hj => h.own j (by simpa using hj), h.foot, by simpa using h.few⟩
  · have hj' : j < ls.length := by simpa using hj
    obtain ⟨c0, c1⟩ := hc j hj'
    constructor
    · rw [Array.getElem?_setIfInBounds_ne (by omega)]; exact c0
    · by_cases e : j = i
      · subst e; simp [Array.getElem?_setIfInBounds, hsz]
      · rw [Array.getElem?_setIfInBounds_ne (by omega)]
        rw [List.getElem_set_ne (by omega)]; exact c1
  · have hj' : j < ls.length := by simpa using hj
    have hr := (h.row j hj').kept (set_grown w ⟨L, i * 2 + 1, none⟩ (.int .i64 (s : Int))) (.inr (h.ne hj'))
    by_cases e : j = i
    · subst e; simpa using hr
    · simpa [List.getElem_set_ne (Ne.symm e)] using hr
/-- A log's bytes are changed where they lie, or somewhere new. -/
theorem LogsAt.put0 (h : LogsAt w S L ls v) (hi : i < ls.length) {v' : Value} {b' : List UInt8} (hg : w.grownBy w1 (v i).ownBlock) (hr : Row w1 0 5 1 v' b'.length (byts b'))
    (ho : v'.ownBlock = none ∨ v'.ownBlock = (v i).ownBlock ∨ ∃ b, v'.ownBlock = some b ∧ w.heap.size ≤ b) :
    LogsAt (w1.setCell ⟨L, i * 2, none⟩ v') (fun k => S k ∨ w.heap.size ≤ k) L (ls.set i (b', ls[i].2)) (fun j => if j = i then v' else v j) := by
  obtain ⟨cs, hb, hc⟩ := h.blk
  have hsz : i * 2 < cs.size := (Array.getElem?_eq_some_iff.1 (hc i hi).1).1
  have hb1 : Blk w1 L 126 cs := hb.kept hg (Ne.symm (h.ne hi))
  have hnew : ∀ j, j < ls.length → j ≠ i → ∀ k, (v j).ownBlock = some k → v'.ownBlock ≠ some k := fun j hj hji k hk e => by
    rcases ho with h1 | h1 | ⟨b, h1, h2⟩
    · rw [h1] at e; cases e
    · exact h.apart j i k hj hi hji hk (h1.symm.trans e)
    · rw [h1] at e; cases e; have := ((h.row j hj).lt k hk).2; omega
  have hne : v'.ownBlock ≠ some L := fun e => by
    rcases ho with h1 | h1 | ⟨b, h1, h2⟩
    · rw [h1] at e; cases e
    · exact h.ne hi (h1.symm.trans e)
    · rw [h1] at e; cases e; have := h.lt; omega
  refine ⟨⟨_, hb1.set _ _, fun j hj => ?_⟩, fun j hj => ?_, fun a b k ha hb hab hk => ?_, fun j hj k hk => ?_, .inl h.foot, by simpa using h.few⟩
  · have hj' : j < ls.length := by simpa using hj
    obtain ⟨c0, c1⟩ := hc j hj'
    constructor
    · by_cases e : j = i
      · subst e; simp [Array.getElem?_setIfInBounds, hsz]
      · rw [Array.getElem?_setIfInBounds_ne (by omega)]
        simpa [e] using c0
    · rw [Array.getElem?_setIfInBounds_ne (by omega)]
      by_cases e : j = i
      · subst e; simpa using c1
      · rw [List.getElem_set_ne (by omega)]; exact c1
  · have hj' : j < ls.length := by simpa using hj
    by_cases e : j = i
    · subst e
      simpa using hr.kept (set_grown w1 ⟨L, j * 2, none⟩ v') (.inr hne)
    · have h2 : Row w1 0 5 1 (v j) ls[j].1.length (byts ls[j].1) := (h.row j hj').kept hg (by
        rcases hk : (v j).ownBlock with _ | k
        · exact .inl rfl
        · exact .inr fun e2 => h.apart j i k hj' hi e hk e2.symm)
      simpa [List.getElem_set_ne (Ne.symm e), e] using h2.kept (set_grown w1 ⟨L, i * 2, none⟩ v') (.inr (h.ne hj'))
  · have ha' : a < ls.length := by simpa using ha
    have hb' : b < ls.length := by simpa using hb
    by_cases ea : a = i
    · subst ea
      have eb : b ≠ a := fun e => hab e.symm
      simp only [eb, if_true, if_false] at hk ⊢
      exact fun e => hnew b hb' eb k e hk
    · by_cases eb : b = i
      · subst eb
        simp only [ea, if_true, if_false] at hk ⊢
        exact hnew a ha' ea k hk
      · simp only [ea, eb, if_false] at hk ⊢
        exact h.apart a b k ha' hb' hab hk
  · have hj' : j < ls.length := by simpa using hj
    by_cases e : j = i
    · subst e
      simp only [if_true] at hk
      rcases ho with h1 | h1 | ⟨b, h1, h2⟩
      · rw [h1] at hk; cases hk
      · exact .inl (h.own j hj' k (h1.symm.trans hk))
      · rw [h1] at hk; cases hk; exact .inr h2
    · simp only [e, if_false] at hk
      exact .inl (h.own j hj' k hk)
/-- A log's bytes are written over in their own block. -/
theorem LogsAt.rewrite (h : LogsAt w S L ls v) (hi : i < ls.length) {b' : List UInt8} (hg : w.grownBy w1 (v i).ownBlock) (hr : Row w1 0 5 1 (v i) b'.length (byts b')) : LogsAt w1 S L (ls.set i (b', ls[i].2)) v := by
  obtain ⟨cs, hb, hc⟩ := h.blk
  have hb1 : Blk w1 L 126 cs := hb.kept hg (Ne.symm (h.ne hi))
  refine ⟨⟨_, hb1, fun j hj => ?_⟩, fun j hj => ?_, fun a b k ha hb => h.apart a b k (by simpa using ha) (by simpa using hb), fun j hj => h.own j (by simpa using hj), h.foot, by simpa using h.few⟩
  · have hj' : j < ls.length := by simpa using hj
    by_cases e : j = i
    · subst e; simpa using hc j hj'
    · rw [List.getElem_set_ne (Ne.symm e)]; exact hc j hj'
  · have hj' : j < ls.length := by simpa using hj
    by_cases e : j = i
    · subst e; simpa using hr
    · have h2 : Row w1 0 5 1 (v j) ls[j].1.length (byts ls[j].1) := (h.row j hj').kept hg (by
        rcases hk : (v j).ownBlock with _ | k
        · exact .inl rfl
        · exact .inr fun e2 => h.apart j i k hj' hi e hk e2.symm)
      simpa [List.getElem_set_ne (Ne.symm e)] using h2
end

/-- A disk: the struct's block, its logs, and what it keeps. -/
structure IsDisk (w : World) (S : Nat → Prop) (g : Nat) (D : DS) : Prop where
  at_ : ∃ L c v kv, Blk w g 123 #[.slice (some ⟨L, 0, none⟩) D.logs.length c, .int .i64 (D.acts : Int), .bool D.down, .int .i64 D.armed, kv] ∧ LogsAt w S L D.logs v ∧ Row w 0 3 1 kv D.keep.length (ints D.keep) ∧ ∀ k, kv.ownBlock = some k → S k
  foot : S g
  small : ∀ i (h : i < D.logs.length), D.logs[i].1.length ≤ 4194304 ∧ D.logs[i].2 ≤ D.logs[i].1.length
  armed : 0 ≤ D.armed ∧ D.armed ≤ 9223372036854775807
section
variable {w w' : World} {S S' : Nat → Prop} {g : Nat} {D : DS}
theorem IsDisk.lt (h : IsDisk w S g D) : g < w.heap.size := by obtain ⟨L, c, v, kv, hb, _⟩ := h.at_; exact hb.lt
theorem IsDisk.mono (h : IsDisk w S g D) (hs : ∀ k, S k → S' k) : IsDisk w S' g D := by
  obtain ⟨L, c, v, kv, hb, hl, hk, ho⟩ := h.at_
  exact ⟨⟨L, c, v, kv, hb, hl.mono hs, hk, fun k e => hs k (ho k e)⟩, hs g h.foot, h.small, h.armed⟩
theorem IsDisk.below (h : IsDisk w S g D) (hb : Below w.heap.size w w') : IsDisk w' S g D := by
  obtain ⟨L, c, v, kv, h1, hl, hk, ho⟩ := h.at_
  exact ⟨⟨L, c, v, kv, h1.below hb, hl.below hb, hk.below hb, ho⟩, h.foot, h.small, h.armed⟩
theorem IsDisk.upd (h : IsDisk w S g D) (hu : Upd S' w w') (hs : ∀ k, S k → ¬ S' k) : IsDisk w' S g D := by
  obtain ⟨L, c, v, kv, h1, hl, hk, ho⟩ := h.at_
  exact ⟨⟨L, c, v, kv, h1.upd hu (hs g h.foot), hl.upd hu hs, hk.upd hu (fun k e _ => hs k (ho k e)), ho⟩, h.foot, h.small, h.armed⟩
theorem IsDisk.tight (h : IsDisk w S g D) : IsDisk w (fun k => S k ∧ k < w.heap.size) g D := by
  obtain ⟨L, c, v, kv, h1, hl, hk, ho⟩ := h.at_
  exact ⟨⟨L, c, v, kv, h1, ⟨hl.blk, hl.row, hl.apart, fun i hi k e => ⟨hl.own i hi k e, ((hl.row i hi).lt k e).2⟩, ⟨hl.foot, hl.lt⟩, hl.few⟩, hk, fun k e => ⟨ho k e, (hk.lt k e).2⟩⟩, ⟨h.foot, h1.lt⟩, h.small, h.armed⟩
end
theorem bdrewN {B : Nat} {a w : World} (h : Below B a w) (n : Nat) : Below B a (w.drewN n) := ⟨h.os, h.tape, h.output, h.size, h.block⟩
theorem bdrew {B : Nat} {a w : World} (h : Below B a w) : Below B a w.drew := ⟨h.os, h.tape, h.output, h.size, h.block⟩
theorem Upd.cell {S : Nat → Prop} {w w' : World} {a : Addr} (h : Upd S w w') (hl : a.block < w.heap.size) (hs : ¬ S a.block) : w'.cell? a = w.cell? a := by
  have := h.block _ hl hs
  simp only [World.cell?, this]

/-- Is there such a log? -/
def DS.has (D : DS) (n : Int) : Bool := decide (0 ≤ n) && decide (n < (D.logs.length : Int))

set_option maxHeartbeats 1000000 in
theorem dhas_calls (g : Nat) (S : Nat → Prop) (D : DS) (n : Int) (w : World) (h : IsDisk w S g D) :
    Calls Try.prog 72 #[.pointer (some ⟨g, 0, none⟩), .int .i64 n] w fun e w' => e = .returned (.bool (D.has n)) ∧ w = w' := by
  obtain ⟨L, c, v, kv, hb, hl, _⟩ := h.at_
  have h0 : w.cell? ⟨g, 0, none⟩ = some (.slice (some ⟨L, 0, none⟩) D.logs.length c) := hb.cell 0 _ rfl
  unfold DS.has
  clear hb hl h
  by_cases h1 : 0 ≤ n
  · go_enter Try.func72, Try.ntmps72
    go_wp2
    go_ret
    exact ⟨by simp [h1], rfl⟩
  · go_enter Try.func72, Try.ntmps72
    go_wp2
    go_ret
    exact ⟨by simp; omega, rfl⟩
end Go.Proofs.Ytimjadjopemefaa
