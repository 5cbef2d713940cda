/- The reference's disk: Act, whole. -/
import Derived.Test.YtimjadjopemefaaRd7
import Derived.Test.YtimjadjopemefaaRd8
import Derived.Test.YtimjadjopemefaaRd9
set_option linter.unusedVariables false
set_option linter.unusedSimpArgs false
namespace Go.Proofs.Ytimjadjopemefaa
open Go.RowKit

theorem ract_calls (A B : Option Addr) (c d : Nat) (D : DS) (kind : Nat) (n : Int) (s : List UInt8) (w : World) (hl : D.logs.length ≤ 16) (hk : D.keep.length ≤ 1000000) (hsm : ∀ j (h : j < D.logs.length), D.logs[j].1.length ≤ 4194304 ∧ D.logs[j].2 ≤ D.logs[j].1.length) (hs : s.length ≤ 1000000)
    (hA : Cells w A (lgs D.logs)) (hB : Cells w B (ints D.keep)) (hkd : kind = 0 ∨ kind = 1 ∧ s = [] ∨ kind = 2) (hac : D.acts < 1000000000) (hab : 0 ≤ D.armed) (hab2 : D.armed ≤ 9223372036854775807) :
    Calls Try.prog 75 #[.agg #[.slice A D.logs.length c, .int .i64 (D.acts : Int), .bool D.down, .int .i64 D.armed, .slice B D.keep.length d], .int .i64 (kind : Int), .int .i64 n, .string (str s)] w (RActed w A B (D.act n (actSz D kind n s) (actF kind s)) (D.actErr n (actSz D kind n s))) := by
  cases hh : D.has n with
  | false =>
    have he : D.actErr n (actSz D kind n s) = 70 := by unfold DS.actErr; rw [hh]; rfl
    have hf : D.act n (actSz D kind n s) (actF kind s) = D := by
      unfold DS.act DS.fail
      rw [if_neg (by rw [he]; decide), if_neg (by rw [hh]; simp)]
    have := ract_refused A B c d D kind n s w hl hA hB (.inl hh)
    rw [hh] at this
    rw [he, hf]
    exact this
  | true =>
    cases hd : D.down with
    | true =>
      have he : D.actErr n (actSz D kind n s) = 71 := by unfold DS.actErr; rw [if_pos hh, if_pos hd]
      have hf : D.act n (actSz D kind n s) (actF kind s) = D := by
        unfold DS.act DS.fail
        rw [if_neg (by rw [he]; decide), if_neg (by rw [hd]; simp)]
      have := ract_refused A B c d D kind n s w hl hA hB (.inr ⟨hh, hd⟩)
      rw [hh, hd] at this
      rw [he, hf]
      exact this
    | false =>
      obtain ⟨i, rfl, hi⟩ := DS.has_iff.1 hh
      rw [← hd]
      by_cases hbg : 4194304 < actSz D kind (i : Int) s
      · exact ract_full A B c d D kind i s w hl hk hsm hs hA hB hi hd hkd hbg
      · by_cases har : D.armed = 1
        · exact ract_armed A B c d D kind i s w hl hk hsm hs hA hB hi hd hkd hbg har
        · exact ract_made A B c d D kind i s w hl hk hsm hs hA hB hi hd hkd hbg har hac hab hab2
end Go.Proofs.Ytimjadjopemefaa
