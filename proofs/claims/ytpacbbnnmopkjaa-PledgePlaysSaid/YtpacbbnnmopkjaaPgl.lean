/- The plain law of a pledge: what its calls answer, and what they keep. -/
import Derived.Test.YtpacbbnnmopkjaaPg2
set_option linter.unusedVariables false
set_option linter.unusedSimpArgs false
namespace Go.Proofs.Ytpacbbnnmopkjaa
open Go.RowKit

/-- What was said: a call. -/
structure Sd where
  kind : Int
  pays : Bool
  yes : Bool
  t : Int
def PS.left (p : PS) : List Bool :=
  (if (if p.fate = 0 then p.v0.said else p.a0) = true then [] else [true]) ++ (if (if p.fate = 0 then p.v1.said else p.a1) = true then [] else [false])
/-- The reference: a vote, a fate, a call. -/
def rvote (L : List Sd) (b : Bool) : Option Sd := L.find? (fun s => decide (s.kind = 0) && (s.pays == b))
def rfate : List Sd → Int × Int
  | [] => (0, 0)
  | x :: l => if x.kind = 1 then (2, x.t) else if x.kind = 2 ∨ (x.kind = 0 ∧ x.yes = false) then (3, 0) else rfate l
def rack (L : List Sd) (b : Bool) : Bool := L.any (fun s => decide (2 < s.kind) && (s.pays == b))
def vtOf : Option Sd → Vt
  | .none => ⟨false, false, 0⟩
  | some s => ⟨true, s.yes, s.t⟩
def rnow (x : Sd) : Sd := { x with t := if x.yes then x.t else 0 }
def rdoErr (L : List Sd) (x : Sd) : Int :=
  if x.kind = 0 then
    (if (x.yes && !stampOk x.t) = true then 174 else if ((vtOf (rvote L x.pays)).said && (decide ((vtOf (rvote L x.pays)).yes ≠ x.yes) || decide ((vtOf (rvote L x.pays)).t ≠ (rnow x).t))) = true then 175 else 0)
  else if x.kind = 1 then
    (if stampOk x.t = false then 174 else if (rfate L).1 = 3 ∨ ((rfate L).1 = 2 ∧ (rfate L).2 ≠ x.t) then 176
      else if (rfate L).1 = 0 ∧ ((vtOf (rvote L true)).yes && (vtOf (rvote L false)).yes) = false then 177
      else if x.t < (vtOf (rvote L true)).t ∨ x.t < (vtOf (rvote L false)).t then 178 else 0)
  else if x.kind = 2 then (if (rfate L).1 = 2 then 176 else 0) else (if (rfate L).1 = 0 then 176 else 0)
def rdo (L : List Sd) (x : Sd) : List Sd := if rdoErr L x = 0 then L ++ [if x.kind = 0 then rnow x else x] else L
def rready (L : List Sd) : Int × Bool :=
  if (rfate L).1 ≠ 0 ∨ ((vtOf (rvote L true)).yes && (vtOf (rvote L false)).yes) = false then (0, false) else (max (vtOf (rvote L true)).t (vtOf (rvote L false)).t, true)
def rleft (L : List Sd) : List Bool :=
  (if (if (rfate L).1 = 0 then (vtOf (rvote L true)).said else rack L true) = true then [] else [true]) ++ (if (if (rfate L).1 = 0 then (vtOf (rvote L false)).said else rack L false) = true then [] else [false])

/-- The same call on a pledge. -/
def PS.doErr (p : PS) (x : Sd) : Int := if x.kind = 0 then p.voteErr x.pays x.yes x.t else if x.kind = 1 then p.commitErr x.t else if x.kind = 2 then p.abortErr else p.ackErr
def PS.does (p : PS) (x : Sd) : PS := if x.kind = 0 then p.vote x.pays x.yes x.t else if x.kind = 1 then p.commit x.t else if x.kind = 2 then p.abort else p.ack x.pays

/-- What a pledge has of the calls that were taken. -/
structure Alike (p : PS) (L : List Sd) : Prop where
  v0 : p.v0 = vtOf (rvote L true)
  v1 : p.v1 = vtOf (rvote L false)
  a0 : p.a0 = rack L true
  a1 : p.a1 = rack L false
  fate : p.fate = (rfate L).1
  at_ : p.at_ = (rfate L).2
  done : p.fate = 2 → p.v0.yes = true ∧ p.v1.yes = true ∧ p.v0.t ≤ p.at_ ∧ p.v1.t ≤ p.at_
  said0 : p.v0.yes = true → p.v0.said = true
  said1 : p.v1.yes = true → p.v1.said = true
theorem alike_none : Alike PS.none [] := ⟨rfl, rfl, rfl, rfl, rfl, rfl, (by intro h; cases h), (by intro h; cases h), (by intro h; cases h)⟩
theorem rfate_range (L : List Sd) : (rfate L).1 = 0 ∧ (rfate L).2 = 0 ∨ (rfate L).1 = 2 ∨ (rfate L).1 = 3 ∧ (rfate L).2 = 0 := by
  induction L with
  | nil => simp [rfate]
  | cons x l ih =>
    unfold rfate
    split
    · simp
    · split
      · simp
      · exact ih
theorem rfate_append (L : List Sd) (x : Sd) : rfate (L ++ [x]) = if (rfate L).1 = 0 then rfate [x] else rfate L := by
  induction L with
  | nil => simp [rfate]
  | cons y l ih =>
    rw [List.cons_append]
    unfold rfate
    split
    · simp
    · split
      · simp
      · rw [ih]; rfl
theorem rvote_append (L : List Sd) (x : Sd) (b : Bool) : rvote (L ++ [x]) b = match rvote L b with | some s => some s | .none => if x.kind = 0 ∧ x.pays = b then some x else .none := by
  unfold rvote
  rw [List.find?_append]
  cases L.find? (fun s => decide (s.kind = 0) && (s.pays == b)) with
  | some s => rfl
  | none =>
    by_cases h : x.kind = 0 ∧ x.pays = b
    · simp [h]
    · simp only [Option.none_or, List.find?_cons, List.find?_nil]
      rw [if_neg h]
      have : (decide (x.kind = 0) && (x.pays == b)) = false := by
        cases hh : (decide (x.kind = 0) && (x.pays == b)) with
        | false => rfl
        | true => simp at hh; exact absurd hh h
      rw [this]
theorem rack_append (L : List Sd) (x : Sd) (b : Bool) : rack (L ++ [x]) b = (rack L b || (decide (2 < x.kind) && (x.pays == b))) := by
  simp [rack, List.any_append]
theorem vt_ext (v : Vt) (yes : Bool) (t : Int) : v.said = true → (decide (v ≠ nowOf yes t) = (decide (v.yes ≠ yes) || decide (v.t ≠ if yes then t else 0))) := by
  obtain ⟨s, y, u⟩ := v
  intro h
  simp only at h
  subst h
  simp [nowOf]

theorem alike_err {p : PS} {L : List Sd} (h : Alike p L) (x : Sd) : p.doErr x = rdoErr L x := by
  unfold PS.doErr rdoErr
  split
  · unfold PS.voteErr
    split
    · rfl
    · have : p.side x.pays = vtOf (rvote L x.pays) := by
        unfold PS.side
        cases x.pays
        · exact h.v1
        · exact h.v0
      rw [this]
      by_cases hs : (vtOf (rvote L x.pays)).said = true
      · rw [vt_ext _ _ _ hs, hs]; rfl
      · simp [hs]
  · split
    · unfold PS.commitErr
      rw [← h.fate, ← h.at_, ← h.v0, ← h.v1]
      split
      · rfl
      · split
        · rfl
        · rename_i h3
          by_cases h2 : p.fate = 2
          · obtain ⟨d0, d1, d2, d3⟩ := h.done h2
            have : p.at_ = x.t := by
              simp only [not_or, not_and, Classical.not_not] at h3
              exact h3.2 h2
            rw [if_pos h2, if_neg (by rw [h2]; intro h; cases h.1), if_neg (by omega)]
          · rw [if_neg h2]
            have h0 : p.fate = 0 := by
              have := rfate_range L
              rw [← h.fate] at this
              omega
            simp only [h0, true_and]
            rfl
    · split
      · unfold PS.abortErr; rw [h.fate]
      · unfold PS.ackErr; rw [h.fate]
theorem alike_keeps {p : PS} {L : List Sd} (h : Alike p L) (x : Sd) (hk : 0 ≤ x.kind ∧ x.kind ≤ 3) : Alike (p.does x) (rdo L x) := by
  have he := alike_err h x
  by_cases h0 : rdoErr L x = 0
  · have hrd : rdo L x = L ++ [if x.kind = 0 then rnow x else x] := by unfold rdo; rw [if_pos h0]
    rw [hrd]
    rw [h0] at he
    have hr := rfate_range L
    rw [← h.fate, ← h.at_] at hr
    unfold PS.does
    unfold PS.doErr at he
    by_cases k0 : x.kind = 0
    · rw [if_pos k0] at he ⊢
      rw [if_pos k0]
      unfold PS.vote
      rw [if_pos he]
      have hkn : (rnow x).kind = 0 := k0
      -- what the sides say behind it
      have hv : ∀ b, vtOf (rvote (L ++ [rnow x]) b) = if x.pays = b then nowOf x.yes x.t else vtOf (rvote L b) := by
        intro b
        rw [rvote_append]
        by_cases hb : x.pays = b
        · rw [if_pos hb]
          cases hq : rvote L b with
          | none => simp only [hkn, true_and]; rw [if_pos (by exact hb)]; rfl
          | some s =>
            unfold PS.voteErr at he
            split at he
            · cases he
            · split at he
              · cases he
              · rename_i hne
                have : p.side x.pays = vtOf (some s) := by
                  rw [← hq, hb]
                  unfold PS.side
                  cases b
                  · exact h.v1
                  · exact h.v0
                rw [this] at hne
                have hs : (vtOf (some s)).said = true := rfl
                rw [hs] at hne
                simpa using hne
        · rw [if_neg hb]
          cases hq : rvote L b with
          | none => simp only [hkn, true_and]; rw [if_neg (by exact hb)]
          | some s => rfl
      have hf : rfate (L ++ [rnow x]) = if p.fate = 0 then (if x.yes = false then (3, 0) else (0, 0)) else (p.fate, p.at_) := by
        rw [rfate_append, ← h.fate]
        split
        · unfold rfate
          rw [if_neg (by rw [hkn]; decide)]
          simp [k0, rnow, rfate]
        · exact Prod.ext h.fate.symm h.at_.symm
      have hsame : p.fate = 2 → p.side x.pays = nowOf x.yes x.t := fun h2 => by
        unfold PS.voteErr at he
        split at he
        · cases he
        · split at he
          · cases he
          · rename_i hne
            have hs : (p.side x.pays).said = true := by
              obtain ⟨d0, d1, _, _⟩ := h.done h2
              unfold PS.side
              cases x.pays
              · exact h.said1 d1
              · exact h.said0 d0
            rw [hs] at hne
            simpa using hne
      refine ⟨?_, ?_, ?_, ?_, ?_, ?_, ?_, ?_, ?_⟩
      · rw [hv]; cases x.pays <;> simp [h.v0]
      · rw [hv]; cases x.pays <;> simp [h.v1]
      · rw [rack_append, hkn, ← h.a0]; simp
      · rw [rack_append, hkn, ← h.a1]; simp
      · rw [hf]
        by_cases hf0 : p.fate = 0
        · simp only [hf0, and_true, if_true]; split <;> rfl
        · simp [hf0]
      · rw [hf]
        by_cases hf0 : p.fate = 0
        · have := h.at_
          simp only [hf0, if_true]
          have hz : p.at_ = 0 := by omega
          split <;> exact hz
        · simp [hf0]
      · simp only
        intro h2
        have h2' : p.fate = 2 := by
          by_cases hc : x.yes = false ∧ p.fate = 0
          · rw [if_pos hc] at h2; cases h2
          · rwa [if_neg hc] at h2
        have hs := hsame h2'
        have hd := h.done h2'
        unfold PS.side at hs
        cases hp : x.pays
        · rw [hp] at hs; simp only [Bool.false_eq_true, if_false] at hs ⊢; rw [← hs]; exact hd
        · rw [hp] at hs; simp only [if_true] at hs ⊢; rw [← hs]; exact hd
      · simp only
        cases x.pays
        · simpa using h.said0
        · simp [nowOf]
      · simp only
        cases x.pays
        · simp [nowOf]
        · simpa using h.said1
    · have hk2 : rvote (L ++ [x]) true = rvote L true ∧ rvote (L ++ [x]) false = rvote L false := by
        constructor
        · rw [rvote_append]; cases rvote L true <;> simp [k0]
        · rw [rvote_append]; cases rvote L false <;> simp [k0]
      rw [if_neg k0] at he ⊢
      rw [if_neg k0]
      by_cases k1 : x.kind = 1
      · rw [if_pos k1] at he ⊢
        unfold PS.commit
        rw [if_pos he]
        have hf : rfate (L ++ [x]) = (2, x.t) := by
          rw [rfate_append, ← h.fate]
          unfold PS.commitErr at he
          split at he
          · cases he
          · split at he
            · cases he
            · rename_i h3
              split
              · simp [rfate, k1]
              · have hf2 : p.fate = 2 := by omega
                refine Prod.ext (by rw [← h.fate, hf2]) ?_
                rw [← h.at_]
                simp only [not_or, not_and, Classical.not_not] at h3
                exact h3.2 hf2
        refine ⟨by rw [hk2.1]; exact h.v0, by rw [hk2.2]; exact h.v1, by rw [rack_append, k1, ← h.a0]; simp, by rw [rack_append, k1, ← h.a1]; simp, by rw [hf], by rw [hf], ?_, h.said0, h.said1⟩
        intro _
        unfold PS.commitErr at he
        split at he
        · cases he
        · split at he
          · cases he
          · rename_i h3
            split at he
            · rename_i h2
              have := h.done h2
              simp only [not_or, not_and, Classical.not_not] at h3
              rw [← h3.2 h2]
              exact this
            · split at he
              · cases he
              · split at he
                · cases he
                · rename_i h4 h5
                  simp only [PS.both, Bool.not_eq_false, Bool.and_eq_true] at h4
                  exact ⟨h4.1, h4.2, by simp only; omega, by simp only; omega⟩
      · rw [if_neg k1] at he ⊢
        by_cases k2 : x.kind = 2
        · rw [if_pos k2] at he ⊢
          unfold PS.abortErr at he
          split at he
          · cases he
          · rename_i h2
            unfold PS.abort
            rw [if_neg h2]
            have hf : rfate (L ++ [x]) = (3, 0) := by
              rw [rfate_append, ← h.fate]
              split
              · simp [rfate, k2]
              · refine Prod.ext (by rw [← h.fate]; simp only; omega) (by rw [← h.at_]; simp only; omega)
            refine ⟨by rw [hk2.1]; exact h.v0, by rw [hk2.2]; exact h.v1, by rw [rack_append, k2, ← h.a0]; simp, by rw [rack_append, k2, ← h.a1]; simp, by rw [hf], by rw [hf]; simp only; omega, (by intro h; cases h), h.said0, h.said1⟩
        · have k3 : x.kind = 3 := by omega
          rw [if_neg k2] at he ⊢
          unfold PS.ackErr at he
          split at he
          · cases he
          · rename_i hf0
            unfold PS.ack
            rw [if_neg hf0]
            have hf : rfate (L ++ [x]) = rfate L := by
              rw [rfate_append, ← h.fate, if_neg hf0]
            refine ⟨by rw [hk2.1]; exact h.v0, by rw [hk2.2]; exact h.v1, ?_, ?_, by rw [hf]; exact h.fate, by rw [hf]; exact h.at_, h.done, h.said0, h.said1⟩
            · rw [rack_append, k3, ← h.a0]; cases x.pays <;> simp
            · rw [rack_append, k3, ← h.a1]; cases x.pays <;> simp
  · have hrd : rdo L x = L := by unfold rdo; rw [if_neg h0]
    rw [hrd]
    have : p.does x = p := by
      rw [← he] at h0
      unfold PS.doErr at h0
      unfold PS.does
      split
      · rename_i k; rw [if_pos k] at h0; unfold PS.vote; rw [if_neg h0]
      · rename_i k
        rw [if_neg k] at h0
        split
        · rename_i k; rw [if_pos k] at h0; unfold PS.commit; rw [if_neg h0]
        · rename_i k
          rw [if_neg k] at h0
          split
          · rename_i k; rw [if_pos k] at h0; unfold PS.abortErr at h0; unfold PS.abort; split <;> simp_all
          · rename_i k; rw [if_neg k] at h0; unfold PS.ackErr at h0; unfold PS.ack; split <;> simp_all
    rw [this]
    exact h
theorem alike_ready {p : PS} {L : List Sd} (h : Alike p L) : p.ready = rready L := by
  unfold PS.ready rready PS.both
  rw [← h.fate, ← h.v0, ← h.v1]
  by_cases h1 : (p.v0.yes && p.v1.yes) = false
  · rw [if_pos (.inl h1), if_pos (.inr h1)]
  · by_cases h2 : p.fate = 0
    · rw [if_neg (by rintro (h | h); exact h1 h; exact h h2), if_neg (by rintro (h | h); exact h h2; exact h1 h)]
    · rw [if_pos (.inr h2), if_pos (.inl h2)]
theorem alike_left {p : PS} {L : List Sd} (h : Alike p L) : p.left = rleft L := by
  unfold PS.left rleft
  rw [← h.fate, ← h.v0, ← h.v1, ← h.a0, ← h.a1]
/-- A pledge behind calls, with stamps where it said yes. -/
structure Good (p : PS) : Prop where
  alike : ∃ L, Alike p L
  st0 : p.v0.yes = true → stampOk p.v0.t = true
  st1 : p.v1.yes = true → stampOk p.v1.t = true
theorem good_none : Good PS.none := ⟨⟨[], alike_none⟩, (by intro h; cases h), (by intro h; cases h)⟩
theorem Good.range {p : PS} (h : Good p) : p.fate = 0 ∧ p.at_ = 0 ∨ p.fate = 2 ∨ p.fate = 3 ∧ p.at_ = 0 := by
  obtain ⟨L, hL⟩ := h.alike
  have := rfate_range L
  rwa [← hL.fate, ← hL.at_] at this
theorem Good.done {p : PS} (h : Good p) : p.fate = 2 → p.v0.yes = true ∧ p.v1.yes = true ∧ p.v0.t ≤ p.at_ ∧ p.v1.t ≤ p.at_ := by
  obtain ⟨L, hL⟩ := h.alike
  exact hL.done
theorem vote_sides {p : PS} {pays yes : Bool} {t : Int} (h : p.voteErr pays yes t = 0) : (p.vote pays yes t).v0 = (if pays then nowOf yes t else p.v0) ∧ (p.vote pays yes t).v1 = (if pays then p.v1 else nowOf yes t) ∧ (yes = true → stampOk t = true) := by
  have h' := h
  unfold PS.voteErr at h
  split at h
  · cases h
  · rename_i hn
    unfold PS.vote
    rw [if_pos h']
    refine ⟨rfl, rfl, fun hy => ?_⟩
    rw [hy] at hn
    simpa using hn
theorem does_sides {p : PS} {x : Sd} (h : ¬ (x.kind = 0 ∧ p.doErr x = 0)) : (p.does x).v0 = p.v0 ∧ (p.does x).v1 = p.v1 := by
  unfold PS.does
  unfold PS.doErr at h
  by_cases k0 : x.kind = 0
  · rw [if_pos k0]
    rw [if_pos k0] at h
    unfold PS.vote
    rw [if_neg (fun e => h ⟨k0, e⟩)]
    exact ⟨rfl, rfl⟩
  · rw [if_neg k0]
    split
    · unfold PS.commit; split <;> exact ⟨rfl, rfl⟩
    · split
      · unfold PS.abort; split <;> exact ⟨rfl, rfl⟩
      · unfold PS.ack; split <;> exact ⟨rfl, rfl⟩
theorem Good.does {p : PS} (h : Good p) (x : Sd) (hk : 0 ≤ x.kind ∧ x.kind ≤ 3) : Good (p.does x) := by
  obtain ⟨L, hL⟩ := h.alike
  refine ⟨⟨_, alike_keeps hL x hk⟩, ?_, ?_⟩
  · by_cases hc : x.kind = 0 ∧ p.doErr x = 0
    · have he := hc.2
      unfold PS.doErr at he
      rw [if_pos hc.1] at he
      obtain ⟨h0, _, hs⟩ := vote_sides he
      unfold PS.does
      rw [if_pos hc.1, h0]
      cases x.pays
      · exact h.st0
      · intro hy
        have hy' : x.yes = true := hy
        have := hs hy'
        simpa [nowOf, hy'] using this
    · rw [(does_sides hc).1]; exact h.st0
  · by_cases hc : x.kind = 0 ∧ p.doErr x = 0
    · have he := hc.2
      unfold PS.doErr at he
      rw [if_pos hc.1] at he
      obtain ⟨_, h0, hs⟩ := vote_sides he
      unfold PS.does
      rw [if_pos hc.1, h0]
      cases x.pays
      · intro hy
        have hy' : x.yes = true := hy
        have := hs hy'
        simpa [nowOf, hy'] using this
      · exact h.st1
    · rw [(does_sides hc).2]; exact h.st1
theorem Good.stays {p : PS} (h : Good p) (x : Sd) (hf : p.fate ≠ 0) : (p.does x).fate = p.fate ∧ (p.does x).at_ = p.at_ := by
  have hr := h.range
  unfold PS.does
  split
  · unfold PS.vote; split
    · exact ⟨if_neg (fun h => hf h.2), rfl⟩
    · exact ⟨rfl, rfl⟩
  · split
    · unfold PS.commit
      split
      · rename_i he
        unfold PS.commitErr at he
        split at he
        · cases he
        · split at he
          · cases he
          · rename_i h3
            simp only [not_or, not_and, Classical.not_not] at h3
            have h2 : p.fate = 2 := by omega
            exact ⟨h2.symm, (h3.2 h2).symm⟩
      · exact ⟨rfl, rfl⟩
    · split
      · unfold PS.abort
        split
        · exact ⟨rfl, rfl⟩
        · exact ⟨by simp only; omega, rfl⟩
      · unfold PS.ack; split <;> exact ⟨rfl, rfl⟩

/-- PledgeFates: with which stamps the sides said yes. -/
def tick (p : PS) (x : Sd) (y : Int × Int) : Int × Int :=
  if p.doErr x = 0 ∧ x.kind = 0 ∧ x.yes = true then (if x.pays then (x.t, y.2) else (y.1, x.t)) else y
def Ticks (p : PS) (y : Int × Int) : Prop := (p.v0.yes = true → y.1 = p.v0.t) ∧ (p.v1.yes = true → y.2 = p.v1.t)
theorem ticks_none : Ticks PS.none (0, 0) := ⟨(by intro h; cases h), (by intro h; cases h)⟩
theorem ticks_does {p : PS} {y : Int × Int} (h : Ticks p y) (x : Sd) : Ticks (p.does x) (tick p x y) := by
  unfold Ticks
  by_cases hc : x.kind = 0 ∧ p.doErr x = 0
  · have he := hc.2
    unfold PS.doErr at he
    rw [if_pos hc.1] at he
    obtain ⟨h0, h1, hs⟩ := vote_sides he
    have hd : p.does x = p.vote x.pays x.yes x.t := by unfold PS.does; rw [if_pos hc.1]
    rw [hd, h0, h1]
    by_cases hy : x.yes = true
    · have ht : tick p x y = if x.pays then (x.t, y.2) else (y.1, x.t) := if_pos ⟨hc.2, hc.1, hy⟩
      rw [ht]
      cases x.pays
      · exact ⟨h.1, fun _ => by simp [nowOf, hy]⟩
      · exact ⟨fun _ => by simp [nowOf, hy], h.2⟩
    · have ht : tick p x y = y := if_neg (fun h => hy h.2.2)
      rw [ht]
      cases x.pays
      · exact ⟨h.1, fun h => absurd h hy⟩
      · exact ⟨fun h => absurd h hy, h.2⟩
  · have ht : tick p x y = y := if_neg (fun h => hc ⟨h.2.1, h.1⟩)
    rw [ht, (does_sides hc).1, (does_sides hc).2]
    exact h
theorem Good.told {p : PS} (h : Good p) {y : Int × Int} (hy : Ticks p y) : (p.fate = 2 → 1 ≤ y.1 ∧ 1 ≤ y.2 ∧ y.1 ≤ p.at_ ∧ y.2 ≤ p.at_) ∧ p.fate ≠ 1 ∧ (p.fate ≠ 2 → p.at_ = 0) := by
  have hr := h.range
  refine ⟨fun h2 => ?_, by omega, by omega⟩
  obtain ⟨d0, d1, d2, d3⟩ := h.done h2
  have e0 := hy.1 d0
  have e1 := hy.2 d1
  have s0 := h.st0 d0
  have s1 := h.st1 d1
  simp only [stampOk, Bool.and_eq_true, decide_eq_true_eq] at s0 s1
  omega

/-- PledgeTurns: four votes, and two. -/
theorem turns_law (ya yb : Bool) (ta tb : Int) :
    PS.none.voteErr true ya ta = ((PS.none.vote false yb tb)).voteErr true ya ta ∧ (PS.none.vote true ya ta).voteErr false yb tb = PS.none.voteErr false yb tb ∧
    ((PS.none.vote false yb tb).vote true ya ta).voteErr false yb tb = PS.none.voteErr false yb tb ∧
    (((PS.none.vote false yb tb).vote true ya ta).vote false yb tb).voteErr true ya ta = PS.none.voteErr true ya ta ∧
    (((PS.none.vote false yb tb).vote true ya ta).vote false yb tb).vote true ya ta = (PS.none.vote true ya ta).vote false yb tb := by
  cases ha : stampOk ta <;> cases hb : stampOk tb <;> cases ya <;> cases yb <;> simp [PS.none, PS.vote, PS.voteErr, PS.side, nowOf, ha, hb]

/-- PledgeEnds. -/
theorem Good.commits {p : PS} (h : Good p) (hr : p.ready.2 = true) : p.commitErr p.ready.1 = 0 ∧ (p.commit p.ready.1).fate ≠ 0 := by
  unfold PS.ready at hr ⊢
  by_cases hc : p.both = false ∨ p.fate ≠ 0
  · rw [if_pos hc] at hr; cases hr
  · rw [if_neg hc]
    simp only [not_or, Classical.not_not, Bool.not_eq_false] at hc
    have hb := hc.1
    simp only [PS.both, Bool.and_eq_true] at hb
    have s0 := h.st0 hb.1
    have s1 := h.st1 hb.2
    simp only [stampOk, Bool.and_eq_true, decide_eq_true_eq] at s0 s1
    have he : p.commitErr (max p.v0.t p.v1.t) = 0 := by
      unfold PS.commitErr
      rw [if_neg (by simp [stampOk]; omega), if_neg (by rw [hc.2]; omega), if_neg (by rw [hc.2]; decide), if_neg (by rw [hc.1]; decide), if_neg (by omega)]
    refine ⟨he, ?_⟩
    unfold PS.commit
    rw [if_pos he]
    intro h; cases h
theorem abort_ends {p : PS} (h : p.fate = 0) : p.abortErr = 0 ∧ p.abort.fate ≠ 0 := by
  unfold PS.abortErr PS.abort
  rw [if_neg (by rw [h]; decide), if_neg (by rw [h]; decide)]
  exact ⟨rfl, by intro h; cases h⟩
/-- What was left is told, and nothing is left. -/
def acked (p : PS) (l : List Bool) : PS := l.foldl PS.ack p
theorem ack_fate {p : PS} (b : Bool) : (p.ack b).fate = p.fate := by unfold PS.ack; split <;> rfl
theorem acked_fate (l : List Bool) (p : PS) : (acked p l).fate = p.fate := by
  induction l generalizing p with
  | nil => rfl
  | cons b l ih => unfold acked at ih ⊢; rw [List.foldl_cons, ih, ack_fate]
theorem acked_left {p : PS} (h : p.fate ≠ 0) : (acked p p.left).left = [] := by
  obtain ⟨v0, v1, a0, a1, f, at_⟩ := p
  simp only at h
  cases a0 <;> cases a1 <;> simp [PS.left, acked, PS.ack, h]
end Go.Proofs.Ytpacbbnnmopkjaa
