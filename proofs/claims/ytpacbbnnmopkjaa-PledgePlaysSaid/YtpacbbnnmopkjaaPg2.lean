/- The walks of pledge's Vote, Ready, Commit, Abort, Fate, Ack. -/
import Derived.Test.YtpacbbnnmopkjaaPg1
set_option linter.unusedVariables false
set_option linter.unusedSimpArgs false
namespace Go.Proofs.Ytpacbbnnmopkjaa
open Go.RowKit

theorem Typed.at_lt {w : World} {g : Nat} {x : Tr} {p : PS} (h : IsPledge w g x p) : g < w.heap.size := Blk.lt h
theorem IsPledge.below {w w' : World} {g : Nat} {x : Tr} {p : PS} (h : IsPledge w g x p) (hb : Below w.heap.size w w') : IsPledge w' g x p := Blk.below h hb
theorem IsPledge.upd {S : Nat → Prop} {w w' : World} {g : Nat} {x : Tr} {p : PS} (h : IsPledge w g x p) (hu : Upd S w w') (hs : ¬ S g) : IsPledge w' g x p := Blk.upd h hu hs
def nowOf (yes : Bool) (t : Int) : Vt := ⟨true, yes, if yes then t else 0⟩
def PS.side (p : PS) (pays : Bool) : Vt := if pays then p.v0 else p.v1
def PS.voteErr (p : PS) (pays yes : Bool) (t : Int) : Int := if (yes && !stampOk t) = true then 174 else if ((p.side pays).said && decide (p.side pays ≠ nowOf yes t)) = true then 175 else 0
def PS.vote (p : PS) (pays yes : Bool) (t : Int) : PS :=
  if p.voteErr pays yes t = 0 then { p with v0 := (if pays then nowOf yes t else p.v0), v1 := (if pays then p.v1 else nowOf yes t), fate := (if yes = false ∧ p.fate = 0 then 3 else p.fate) } else p
def PS.both (p : PS) : Bool := p.v0.yes && p.v1.yes
def PS.ready (p : PS) : Int × Bool := if p.both = false ∨ p.fate ≠ 0 then (0, false) else (max p.v0.t p.v1.t, true)
def PS.commitErr (p : PS) (t : Int) : Int :=
  if stampOk t = false then 174 else if p.fate = 3 ∨ (p.fate = 2 ∧ p.at_ ≠ t) then 176 else if p.fate = 2 then 0 else if p.both = false then 177 else if t < p.v0.t ∨ t < p.v1.t then 178 else 0
def PS.commit (p : PS) (t : Int) : PS := if p.commitErr t = 0 then { p with fate := 2, at_ := t } else p
def PS.abortErr (p : PS) : Int := if p.fate = 2 then 176 else 0
def PS.abort (p : PS) : PS := if p.fate = 2 then p else { p with fate := 3 }
def PS.ackErr (p : PS) : Int := if p.fate = 0 then 176 else 0
def PS.ack (p : PS) (pays : Bool) : PS := if p.fate = 0 then p else { p with a0 := (if pays then true else p.a0), a1 := (if pays then p.a1 else true) }

set_option maxHeartbeats 1000000 in
theorem both_calls (g : Nat) (x : Tr) (p : PS) (w : World) (h : IsPledge w g x p) : Calls Try.prog 53 #[.pointer (some ⟨g, 0, Option.none⟩)] w fun e w' => e = .returned (.bool p.both) ∧ w = w' := by
  have c5 : w.cell? ⟨g, 5, Option.none⟩ = some (.bool p.v0.yes) := Blk.cell h 5 _ rfl
  have c8 : w.cell? ⟨g, 8, Option.none⟩ = some (.bool p.v1.yes) := Blk.cell h 8 _ rfl
  unfold PS.both
  clear h
  generalize p.v0.yes = y at c5 ⊢
  generalize p.v1.yes = z at c8 ⊢
  cases y
  · go_enter Try.func53, Try.ntmps53
    go_wp2
    go_ret
    exact ⟨rfl, rfl⟩
  · go_enter Try.func53, Try.ntmps53
    go_wp2
    go_ret
    exact ⟨by simp, rfl⟩
set_option maxHeartbeats 1000000 in
theorem fate_calls (g : Nat) (x : Tr) (p : PS) (w : World) (h : IsPledge w g x p) : Calls Try.prog 34 #[.pointer (some ⟨g, 0, Option.none⟩)] w fun e w' => e = .returned (.tuple #[.int .i64 p.fate, .int .i64 p.at_]) ∧ ∃ q, w' = w.drewN q := by
  have c5 : w.cell? ⟨g, 12, Option.none⟩ = some (.int .i64 p.fate) := Blk.cell h 12 _ rfl
  have c8 : w.cell? ⟨g, 13, Option.none⟩ = some (.int .i64 p.at_) := Blk.cell h 13 _ rfl
  clear h
  go_enter Try.func34, Try.ntmps34
  go_wp2_with fail
  go_quiet (fail)
  go_wp2
  go_ret2
  exact ⟨rfl, _, rfl⟩
set_option maxHeartbeats 1000000 in
theorem ready_calls (g : Nat) (x : Tr) (p : PS) (w : World) (h : IsPledge w g x p) : Calls Try.prog 36 #[.pointer (some ⟨g, 0, Option.none⟩)] w fun e w' => e = .returned (.tuple #[.int .i64 p.ready.1, .bool p.ready.2]) ∧ ∃ q, w' = w.drewN q := by
  have H := Lib.hid (both_calls g x p w h)
  have c6 : w.cell? ⟨g, 6, Option.none⟩ = some (.int .i64 p.v0.t) := Blk.cell h 6 _ rfl
  have c9 : w.cell? ⟨g, 9, Option.none⟩ = some (.int .i64 p.v1.t) := Blk.cell h 9 _ rfl
  have c12 : w.cell? ⟨g, 12, Option.none⟩ = some (.int .i64 p.fate) := Blk.cell h 12 _ rfl
  clear h
  cases hb : p.both with
  | false =>
    have hr : p.ready = (0, false) := by simp [PS.ready, hb]
    rw [hr]
    rw [hb] at H
    clear hb hr c6 c9 c12
    go_enter Try.func36, Try.ntmps36
    go_wp2_with fail
    refine H.out.mono ?_
    rintro e w1 ⟨rfl, rfl⟩
    go_wp2
    go_ret2
    exact ⟨rfl, 0, rfl⟩
  | true =>
    by_cases hf : p.fate = 0
    · have hr : p.ready = (max p.v0.t p.v1.t, true) := by simp [PS.ready, hb, hf]
      rw [hr]
      rw [hb] at H
      rw [hf] at c12
      generalize p.v0.t = t0 at c6 ⊢
      generalize p.v1.t = t1 at c9 ⊢
      clear hb hr hf
      by_cases hlt : t0 < t1
      · rw [show max t0 t1 = t1 by omega]
        go_enter Try.func36, Try.ntmps36
        go_wp2_with fail
        refine H.out.mono ?_
        rintro e w1 ⟨rfl, rfl⟩
        go_wp2_with fail
        go_quiet (fail)
        go_wp2
        go_ret2
        exact ⟨rfl, _, rfl⟩
      · rw [show max t0 t1 = t0 by omega]
        go_enter Try.func36, Try.ntmps36
        go_wp2_with fail
        refine H.out.mono ?_
        rintro e w1 ⟨rfl, rfl⟩
        go_wp2_with fail
        go_quiet (fail)
        go_wp2
        go_ret2
        exact ⟨rfl, _, rfl⟩
    · have hr : p.ready = (0, false) := by simp [PS.ready, hf]
      rw [hr]
      rw [hb] at H
      have hf2 : (p.fate == 0) = false := by simpa using hf
      generalize p.fate = f at c12 hf2
      clear hb hr hf c6 c9
      go_enter Try.func36, Try.ntmps36
      go_wp2_with fail
      refine H.out.mono ?_
      rintro e w1 ⟨rfl, rfl⟩
      go_wp2
      go_ret2
      exact ⟨rfl, 0, rfl⟩
set_option maxHeartbeats 1000000 in
theorem abort_calls (g : Nat) (x : Tr) (p : PS) (w : World) (h : IsPledge w g x p) : Calls Try.prog 43 #[.pointer (some ⟨g, 0, Option.none⟩)] w fun e w' => e = .returned (.int .i64 p.abortErr) ∧ IsPledge w' g x p.abort ∧ Upd (fun k => k = g) w w' := by
  have c12 : w.cell? ⟨g, 12, Option.none⟩ = some (.int .i64 p.fate) := Blk.cell h 12 _ rfl
  have H := Lib.hid h
  unfold PS.abortErr PS.abort
  by_cases hf : p.fate = 2
  · rw [if_pos hf, if_pos hf]
    rw [hf] at c12
    clear hf h
    go_enter Try.func43, Try.ntmps43
    go_wp2
    go_ret
    exact ⟨rfl, H.out, Upd.refl _ _⟩
  · rw [if_neg hf, if_neg hf]
    have hf2 : (p.fate == 2) = false := by simpa using hf
    have f12 : w.frozen? ⟨g, 12, Option.none⟩ = false := Blk.free h 12 Option.none
    have HS := Lib.hid (Blk.set h 12 (.int .i64 3))
    have HU := Lib.hid ((Upd.refl (fun k => k = g) w).set ⟨g, 12, Option.none⟩ (.int .i64 3) (fun _ => rfl))
    generalize p.fate = f at c12 hf2
    clear hf h
    go_enter Try.func43, Try.ntmps43
    go_wp2
    go_ret
    exact ⟨rfl, by simpa [IsPledge] using HS.out, HU.out⟩
set_option maxHeartbeats 1000000 in
theorem commit_calls (g : Nat) (x : Tr) (p : PS) (t : Int) (w : World) (h : IsPledge w g x p) : Calls Try.prog 42 #[.pointer (some ⟨g, 0, Option.none⟩), .int .i64 t] w fun e w' => e = .returned (.int .i64 (p.commitErr t)) ∧ IsPledge w' g x (p.commit t) ∧ Upd (fun k => k = g) w w' := by
  have c6 : w.cell? ⟨g, 6, Option.none⟩ = some (.int .i64 p.v0.t) := Blk.cell h 6 _ rfl
  have c9 : w.cell? ⟨g, 9, Option.none⟩ = some (.int .i64 p.v1.t) := Blk.cell h 9 _ rfl
  have c12 : w.cell? ⟨g, 12, Option.none⟩ = some (.int .i64 p.fate) := Blk.cell h 12 _ rfl
  have c13 : w.cell? ⟨g, 13, Option.none⟩ = some (.int .i64 p.at_) := Blk.cell h 13 _ rfl
  have H := Lib.hid h
  have HB := Lib.hid (both_calls g x p w h)
  have HST := Lib.hid (stamp_calls t w)
  have herr : ∀ E, p.commitErr t = E → E ≠ 0 → p.commit t = p := fun E e h0 => by unfold PS.commit; rw [if_neg (by rw [e]; exact h0)]
  have HE := Lib.hid herr
  clear herr
  by_cases h1 : stampOk t = false
  · have e1 : p.commitErr t = 174 := by unfold PS.commitErr; rw [if_pos h1]
    rw [e1, HE.out _ e1 (by decide)]
    rw [h1] at HST
    clear h e1 h1 c6 c9 c12 c13
    go_enter Try.func42, Try.ntmps42
    go_wp2_with fail
    refine HST.out.mono ?_
    rintro e w1 ⟨rfl, rfl⟩
    go_wp2
    go_ret
    exact ⟨rfl, H.out, Upd.refl _ _⟩
  have h1' : stampOk t = true := by simpa using h1
  rw [h1'] at HST
  by_cases h2 : p.fate = 3
  · have e1 : p.commitErr t = 176 := by unfold PS.commitErr; rw [if_neg h1, if_pos (.inl h2)]
    rw [e1, HE.out _ e1 (by decide)]
    rw [h2] at c12
    clear h e1 h1 h1' h2 c6 c9 c13
    go_enter Try.func42, Try.ntmps42
    go_wp2_with fail
    refine HST.out.mono ?_
    rintro e w1 ⟨rfl, rfl⟩
    go_wp2
    go_ret
    exact ⟨rfl, H.out, Upd.refl _ _⟩
  by_cases h3 : p.fate = 2
  · by_cases h4 : p.at_ = t
    · have e1 : p.commitErr t = 0 := by unfold PS.commitErr; rw [if_neg h1, if_neg (by simp [h2, h4]), if_pos h3]
      have e2 : p.commit t = p := by unfold PS.commit; rw [if_pos e1, ← h3, ← h4]
      rw [e1, e2]
      rw [h3] at c12
      rw [h4] at c13
      clear h e1 e2 h1 h1' h2 h3 h4 c6 c9
      go_enter Try.func42, Try.ntmps42
      go_wp2_with fail
      refine HST.out.mono ?_
      rintro e w1 ⟨rfl, rfl⟩
      go_wp2
      go_ret
      exact ⟨rfl, H.out, Upd.refl _ _⟩
    · have e1 : p.commitErr t = 176 := by unfold PS.commitErr; rw [if_neg h1, if_pos (.inr ⟨h3, h4⟩)]
      rw [e1, HE.out _ e1 (by decide)]
      rw [h3] at c12
      have h5 : (p.at_ == t) = false := by simpa using h4
      generalize p.at_ = at_ at c13 h5
      clear h e1 h1 h1' h2 h3 h4 c6 c9
      go_enter Try.func42, Try.ntmps42
      go_wp2_with fail
      refine HST.out.mono ?_
      rintro e w1 ⟨rfl, rfl⟩
      go_wp2
      go_ret
      exact ⟨rfl, H.out, Upd.refl _ _⟩
  have h2b : (p.fate == 3) = false := by simpa using h2
  have h3b : (p.fate == 2) = false := by simpa using h3
  by_cases h4 : p.both = false
  · have e1 : p.commitErr t = 177 := by unfold PS.commitErr; rw [if_neg h1, if_neg (by simp [h2, h3]), if_neg h3, if_pos h4]
    rw [e1, HE.out _ e1 (by decide)]
    rw [h4] at HB
    generalize p.fate = f at c12 h2b h3b
    clear h e1 h1 h1' h2 h3 h4 c6 c9
    go_enter Try.func42, Try.ntmps42
    go_wp2_with fail
    refine HST.out.mono ?_
    rintro e w1 ⟨rfl, rfl⟩
    go_wp2_with fail
    refine HB.out.mono ?_
    rintro e w1 ⟨rfl, rfl⟩
    go_wp2
    go_ret
    exact ⟨rfl, H.out, Upd.refl _ _⟩
  have h4' : p.both = true := by simpa using h4
  rw [h4'] at HB
  by_cases h5 : t < p.v0.t ∨ t < p.v1.t
  · have e1 : p.commitErr t = 178 := by unfold PS.commitErr; rw [if_neg h1, if_neg (by simp [h2, h3]), if_neg h3, if_neg h4, if_pos h5]
    rw [e1, HE.out _ e1 (by decide)]
    generalize p.fate = f at c12 h2b h3b
    generalize p.v0.t = t0 at c6 h5
    generalize p.v1.t = t1 at c9 h5
    clear h e1 h1 h1' h2 h3 h4 h4'
    rcases h5 with h5 | h5
    · go_enter Try.func42, Try.ntmps42
      go_wp2_with fail
      refine HST.out.mono ?_
      rintro e w1 ⟨rfl, rfl⟩
      go_wp2_with fail
      refine HB.out.mono ?_
      rintro e w1 ⟨rfl, rfl⟩
      go_wp2
      go_ret
      exact ⟨rfl, H.out, Upd.refl _ _⟩
    · by_cases h6 : t < t0
      · go_enter Try.func42, Try.ntmps42
        go_wp2_with fail
        refine HST.out.mono ?_
        rintro e w1 ⟨rfl, rfl⟩
        go_wp2_with fail
        refine HB.out.mono ?_
        rintro e w1 ⟨rfl, rfl⟩
        go_wp2
        go_ret
        exact ⟨rfl, H.out, Upd.refl _ _⟩
      · go_enter Try.func42, Try.ntmps42
        go_wp2_with fail
        refine HST.out.mono ?_
        rintro e w1 ⟨rfl, rfl⟩
        go_wp2_with fail
        refine HB.out.mono ?_
        rintro e w1 ⟨rfl, rfl⟩
        go_wp2
        go_ret
        exact ⟨rfl, H.out, Upd.refl _ _⟩
  have e1 : p.commitErr t = 0 := by unfold PS.commitErr; rw [if_neg h1, if_neg (by simp [h2, h3]), if_neg h3, if_neg h4, if_neg h5]
  have e2 : p.commit t = { p with fate := 2, at_ := t } := by unfold PS.commit; rw [if_pos e1]
  rw [e1, e2]
  have f12 : w.frozen? ⟨g, 12, Option.none⟩ = false := Blk.free h 12 Option.none
  have f13 : w.frozen? ⟨g, 13, Option.none⟩ = false := Blk.free h 13 Option.none
  have HS := Lib.hid (Blk.set (Blk.set h 12 (.int .i64 2)) 13 (.int .i64 t))
  have HU := Lib.hid (((Upd.refl (fun k => k = g) w).set ⟨g, 12, Option.none⟩ (.int .i64 2) (fun _ => rfl)).set ⟨g, 13, Option.none⟩ (.int .i64 t) (fun _ => rfl))
  have h6 : ¬ t < p.v0.t := by omega
  have h7 : ¬ t < p.v1.t := by omega
  generalize p.fate = f at c12 h2b h3b
  generalize ht0 : p.v0.t = t0 at c6 h6
  generalize ht1 : p.v1.t = t1 at c9 h7
  clear h e1 e2 h1 h1' h2 h3 h4 h4' h5 ht0 ht1
  go_enter Try.func42, Try.ntmps42
  go_wp2_with fail
  refine HST.out.mono ?_
  rintro e w1 ⟨rfl, rfl⟩
  go_wp2_with fail
  refine HB.out.mono ?_
  rintro e w1 ⟨rfl, rfl⟩
  go_wp2
  go_ret
  exact ⟨rfl, by simpa [IsPledge] using HS.out, HU.out⟩

set_option maxHeartbeats 1000000 in
theorem ack_calls (g : Nat) (x : Tr) (p : PS) (pays : Bool) (w : World) (h : IsPledge w g x p) : Calls Try.prog 44 #[.pointer (some ⟨g, 0, Option.none⟩), .bool pays] w fun e w' => e = .returned (.int .i64 p.ackErr) ∧ IsPledge w' g x (p.ack pays) ∧ Upd (fun k => k = g) w w' := by
  have c12 : w.cell? ⟨g, 12, Option.none⟩ = some (.int .i64 p.fate) := Blk.cell h 12 _ rfl
  have H := Lib.hid h
  unfold PS.ackErr PS.ack
  by_cases hf : p.fate = 0
  · rw [if_pos hf, if_pos hf]
    rw [hf] at c12
    clear hf h
    go_enter Try.func44, Try.ntmps44
    go_wp2
    go_ret
    exact ⟨rfl, H.out, Upd.refl _ _⟩
  · rw [if_neg hf, if_neg hf]
    have hf2 : (p.fate == 0) = false := by simpa using hf
    have hd : ∀ W : World, Below W.heap.size W W.drew := fun W => ⟨rfl, rfl, rfl, Nat.le_refl _, fun _ _ => rfl⟩
    cases pays
    · have c11 : w.cell? ⟨g, 11, Option.none⟩ = some (.bool p.a1) := Blk.cell h 11 _ rfl
      have f11 : w.frozen? ⟨g, 11, Option.none⟩ = false := Blk.free h 11 Option.none
      have HS := Lib.hid (Blk.below (Blk.set h 11 (.bool true)) (hd _))
      have HU := Lib.hid (Upd.trans (S' := fun _ => False) ((Upd.refl (fun k => k = g) w).set ⟨g, 11, Option.none⟩ (.bool true) (fun _ => rfl)) (Upd.of_below (hd _)) (fun _ _ h => h.elim))
      clear hf h hd
      go_enter Try.func44, Try.ntmps44
      go_wp2_with fail
      go_region_held3 (fun W => True) (trivial) (first | (go_at_call 55; refine Calls.mono (side_calls false _) ?_; rintro e w1 ⟨rfl, rfl⟩))
      all_goals go_wp2_with fail
      all_goals (try simp only [Exit.inBlock, Exit.then])
      all_goals refine bodyPost_ret (results_tmp rfl _ _ _) rfl ?_
      all_goals exact ⟨rfl, by simpa [IsPledge] using HS.out, HU.out⟩
    · have c10 : w.cell? ⟨g, 10, Option.none⟩ = some (.bool p.a0) := Blk.cell h 10 _ rfl
      have f10 : w.frozen? ⟨g, 10, Option.none⟩ = false := Blk.free h 10 Option.none
      have HS := Lib.hid (Blk.below (Blk.set h 10 (.bool true)) (hd _))
      have HU := Lib.hid (Upd.trans (S' := fun _ => False) ((Upd.refl (fun k => k = g) w).set ⟨g, 10, Option.none⟩ (.bool true) (fun _ => rfl)) (Upd.of_below (hd _)) (fun _ _ h => h.elim))
      clear hf h hd
      go_enter Try.func44, Try.ntmps44
      go_wp2_with fail
      go_region_held3 (fun W => True) (trivial) (first | (go_at_call 55; refine Calls.mono (side_calls true _) ?_; rintro e w1 ⟨rfl, rfl⟩))
      all_goals go_wp2_with fail
      all_goals (try simp only [Exit.inBlock, Exit.then])
      all_goals refine bodyPost_ret (results_tmp rfl _ _ _) rfl ?_
      all_goals exact ⟨rfl, by simpa [IsPledge] using HS.out, HU.out⟩
end Go.Proofs.Ytpacbbnnmopkjaa
