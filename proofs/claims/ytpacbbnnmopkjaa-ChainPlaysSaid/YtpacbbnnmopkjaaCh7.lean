/- The walk of made. -/
import Derived.Test.YtpacbbnnmopkjaaCh5
import Derived.StillTailTactics
set_option linter.unusedVariables false
set_option linter.unusedSimpArgs false
namespace Go.Proofs.Ytpacbbnnmopkjaa
open Go.RowKit

/-- A call: kind, T, V. -/
structure Op3 where
  kind : Int
  t : Int
  v : Int
def ocs (l : List Op3) : List Value := l.flatMap (fun o => [.int .i64 o.kind, .int .i64 o.t, .int .i64 o.v])
theorem ocs_cons (o : Op3) (l : List Op3) : ocs (o :: l) = .int .i64 o.kind :: .int .i64 o.t :: .int .i64 o.v :: ocs l := rfl
theorem ocs_get (l : List Op3) (i : Nat) (h : i < l.length) : (ocs l)[i * 3]? = some (.int .i64 (l[i]).kind) ∧ (ocs l)[i * 3 + 1]? = some (.int .i64 (l[i]).t) ∧ (ocs l)[i * 3 + 2]? = some (.int .i64 (l[i]).v) := by
  induction l generalizing i with
  | nil => simp at h
  | cons v vs ih =>
    rw [ocs_cons]
    cases i with
    | zero => exact ⟨rfl, rfl, rfl⟩
    | succ i =>
      have := ih i (by simpa using h)
      rw [show (i + 1) * 3 = i * 3 + 3 by omega]
      simpa using this
theorem add_next (a : Addr) (n : Nat) : a.add (n + 1) = ⟨(a.add n).block, (a.add n).off + 1, none⟩ := by
  unfold Addr.add
  by_cases h : n = 0
  · subst h; simp
  · simp [h]; omega
theorem add_next2 (a : Addr) (n : Nat) : a.add (n + 2) = ⟨(a.add n).block, (a.add n).off + 2, none⟩ := by
  unfold Addr.add
  by_cases h : n = 0
  · subst h; simp
  · simp [h]; omega
theorem Cells.op {w : World} {A : Option Addr} {l : List Op3} (h : Cells w A (ocs l)) (k : Nat) (hk : k < l.length) :
    ∃ ad, A = some ad ∧ w.cell? (ad.add (k * 3)) = some (.int .i64 (l[k]).kind) ∧ w.cell? ⟨(ad.add (k * 3)).block, (ad.add (k * 3)).off + 1, none⟩ = some (.int .i64 (l[k]).t) ∧ w.cell? ⟨(ad.add (k * 3)).block, (ad.add (k * 3)).off + 2, none⟩ = some (.int .i64 (l[k]).v) := by
  obtain ⟨ad, rfl, h1⟩ := h.get _ _ (ocs_get l k hk).1
  obtain ⟨ad2, e, h2⟩ := h.get _ _ (ocs_get l k hk).2.1
  cases e
  obtain ⟨ad2, e, h3⟩ := h.get _ _ (ocs_get l k hk).2.2
  cases e
  rw [add_next] at h2
  rw [add_next2] at h3
  exact ⟨ad, rfl, h1, h2, h3⟩

/-- A chain's state behind calls. -/
def stepOf (c : List (Int × Int) × Int) (o : Op3) : List (Int × Int) × Int :=
  if o.kind = 0 then (putVer c.1 c.2 o.t o.v, c.2) else if o.kind = 2 then (pruneVer c.1 c.2 o.t, pruneMark c.2 o.t) else c
def madeOf (l : List Op3) : List (Int × Int) × Int := (l.take 60).foldl stepOf ([], 0)

theorem getLast_lt {vs : List (Int × Int)} {t : Int} (hr : Rises vs) (h : ¬ (0 < vs.length ∧ t ≤ lastT vs)) : ∀ v ∈ vs, v.1 < t := by
  intro v hv
  obtain ⟨k, hk, rfl⟩ := List.getElem_of_mem hv
  have h1 : lastT vs < t := by omega
  have h2 : lastT vs = (vs[vs.length - 1]).1 := by unfold lastT; rw [List.getLast?_eq_getElem?, List.getElem?_eq_getElem (by omega)]; rfl
  rcases Nat.lt_or_ge k (vs.length - 1) with h3 | h3
  · have := hr.lt k (vs.length - 1) h3 (by omega); omega
  · have : k = vs.length - 1 := by omega
    subst this; omega
theorem put_rises {vs : List (Int × Int)} {m t v : Int} (hr : Rises vs) : Rises (putVer vs m t v) := by
  unfold putVer
  split
  · rename_i he
    unfold putErr at he
    split at he
    · cases he
    split at he
    · cases he
    rename_i ho
    unfold Rises
    rw [List.pairwise_append]
    refine ⟨hr, by simp, fun a ha b hb => ?_⟩
    simp at hb; subst hb
    exact getLast_lt hr (by omega) a ha
  · exact hr
theorem prune_rises {vs : List (Int × Int)} {m t : Int} (hr : Rises vs) : Rises (pruneVer vs m t) := by
  unfold pruneVer
  split
  · exact List.Pairwise.sublist (List.drop_sublist _ _) hr
  · exact hr
theorem step_rises {c : List (Int × Int) × Int} {o : Op3} (hr : Rises c.1) : Rises (stepOf c o).1 := by
  unfold stepOf
  split
  · exact put_rises hr
  split
  · exact prune_rises hr
  · exact hr

theorem wider {w w' : World} {B g : Nat} {vs : List (Int × Int)} {m : Int} (h : IsChain w' (fun i => B ≤ i ∨ w.heap.size ≤ i) g vs m) (hB : B ≤ w.heap.size) : IsChain w' (fun i => B ≤ i) g vs m :=
  h.mono fun i hi => by rcases hi with h | h <;> omega
theorem upd_below {w w' w0 : World} {B : Nat} (h0 : Below B w0 w) (h : Upd (fun i => B ≤ i) w w') (hB : B ≤ w.heap.size) : Below B w0 w' :=
  h0.trans (h.below hB (fun i hi => by omega))

set_option maxHeartbeats 1000000 in
set_option maxRecDepth 100000 in
theorem made_calls (A : Option Addr) (n c : Nat) (l : List Op3) (w : World) (hn : n = l.length) (hc : Cells w A (ocs l)) :
    Calls Try.prog 21 #[.slice A n c] w fun e w' => e = .returned (.pointer (some ⟨w.heap.size, 0, none⟩)) ∧ IsChain w' (fun i => w.heap.size ≤ i) w.heap.size (madeOf l).1 (madeOf l).2 ∧ Rises (madeOf l).1 ∧ Below w.heap.size w w' := by
  subst hn
  have hlen : l.length ≤ 9223372036854775807 := by
    have := hc.small
    have h2 : ∀ l : List Op3, (ocs l).length = l.length * 3 := fun l => by
      induction l with
      | nil => rfl
      | cons o l ih => rw [ocs_cons]; simp [ih]; omega
    rw [h2] at this; omega
  have HC := Lib.hid (fun k (hk : k < l.length) => hc.op k hk)
  clear hc
  go_enter Try.func21, Try.ntmps21
  go_wp2_with fail
  refine (new_calls w).mono ?_
  rintro e w1 ⟨rfl, h1, b1⟩
  go_wp2
  go_loopw [4] (fun i wr => ∃ k : Nat, k ≤ l.length ∧ k ≤ 60 ∧ i = .int .i64 k ∧ IsChain wr (fun i => w.heap.size ≤ i) w.heap.size ((l.take k).foldl stepOf ([], 0)).1 ((l.take k).foldl stepOf ([], 0)).2 ∧ Rises ((l.take k).foldl stepOf ([], 0)).1 ∧ Below w.heap.size w wr) (fun i _ => 60 - (intOf i).toNat)
  case atStart => exact ⟨0, Nat.zero_le _, by omega, rfl, by simpa using h1, by simp [Rises], b1⟩
  case round =>
    obtain ⟨k, hk, hk60, rfl, hch, hri, hbl⟩ := hrel
    clear h1 b1
    by_cases hlt : k < l.length
    · by_cases h60 : k < 60
      · obtain ⟨ad, rfl, o0, o1, o2⟩ := HC.out k hlt
        have hst : (l.take (k + 1)).foldl stepOf ([], 0) = stepOf ((l.take k).foldl stepOf ([], 0)) l[k] := by
          rw [List.take_succ_eq_append_getElem hlt, List.foldl_append]; rfl
        obtain ⟨st, hs0⟩ : ∃ st, st = (l.take k).foldl stepOf ([], 0) := ⟨_, rfl⟩
        obtain ⟨o, ho⟩ : ∃ o, o = l[k] := ⟨_, rfl⟩
        rw [← hs0] at hch hri hst
        rw [← ho] at hst o0 o1 o2
        have p0 := (hbl.cell (World.block_lt_of_cell? w _ o0)).trans o0
        have p1 := (hbl.cell (World.block_lt_of_cell? w _ o1)).trans o1
        have p2 := (hbl.cell (World.block_lt_of_cell? w _ o2)).trans o2
        have hri2 := step_rises (o := o) hri
        obtain ⟨vs, m⟩ := st
        obtain ⟨kk, t, v⟩ := o
        simp only at hch hri p0 p1 p2
        have HST := Lib.hid hst
        have HCH := Lib.hid hch
        have HRI2 := Lib.hid hri2
        have hwB : w.heap.size ≤ wr.heap.size := hbl.size
        clear o0 o1 o2 ho hs0 hst hch hri2
        by_cases hz : kk = 0
        · have hkb : (kk == 0) = true := by simpa using hz
          have hsp : stepOf (vs, m) ⟨kk, t, v⟩ = (putVer vs m t v, m) := by simp [stepOf, hz]
          have HSP := Lib.hid hsp
          clear hsp hz
          go_wp2_with fail
          go_still_tail 11, (by kernel_rfl)
          change wpList _ _ _ _ _ wr.drew
          have HD : Below w.heap.size w wr.drew := below_drew hbl
          have HC2 : IsChain wr.drew (fun i => w.heap.size ≤ i) w.heap.size vs m := HCH.out.below (below_drew (Below.refl _ _))
          have hsz : wr.heap.size ≤ wr.drew.heap.size := Nat.le_refl _
          generalize wr.drew = w2 at HD HC2 hsz ⊢
          clear hbl HCH p0 p1 p2
          go_wp2_with fail
          refine (put_calls _ _ vs m t v w2 HC2).mono ?_
          rintro e w3 ⟨rfl, hc3, u3⟩
          have hw2 : w.heap.size ≤ w2.heap.size := HD.size
          have HN := Lib.hid (wider hc3 hw2)
          have HB3 := Lib.hid (upd_below HD u3 hw2)
          clear hc3 u3 HC2 HD
          go_wp2
          go_roundw
          case rel => exact ⟨k + 1, by omega, by omega, by go_num, by rw [HST.out, HSP.out]; exact HN.out, by rw [HST.out]; exact HRI2.out, HB3.out⟩
          case measure => simp [intOf]; omega
        · have hkb : (kk == 0) = false := by simpa using hz
          by_cases hz2 : kk = 2
          · have hkb2 : (kk == 2) = true := by simpa using hz2
            have hsp : stepOf (vs, m) ⟨kk, t, v⟩ = (pruneVer vs m t, pruneMark m t) := by simp [stepOf, hz2]
            have HSP := Lib.hid hsp
            clear hsp hz hz2
            go_wp2_with fail
            refine (prune_calls _ _ vs m t wr HCH.out hri).mono ?_
            rintro e w3 ⟨rfl, hc3, u3⟩
            have HN := Lib.hid (wider hc3 hwB)
            have HB3 := Lib.hid (upd_below hbl u3 hwB)
            clear hc3 u3 HCH hbl p0 p1 p2
            go_wp2
            go_roundw
            case rel => exact ⟨k + 1, by omega, by omega, by go_num, by rw [HST.out, HSP.out]; exact HN.out, by rw [HST.out]; exact HRI2.out, HB3.out⟩
            case measure => simp [intOf]; omega
          · have hkb2 : (kk == 2) = false := by simpa using hz2
            have hsp : stepOf (vs, m) ⟨kk, t, v⟩ = (vs, m) := by simp [stepOf, hz, hz2]
            have HSP := Lib.hid hsp
            clear hsp hz hz2
            have HBL := Lib.hid hbl
            go_wp2
            go_roundw
            case rel => exact ⟨k + 1, by omega, by omega, by go_num, by rw [HST.out, HSP.out]; exact HCH.out, by rw [HST.out]; exact HRI2.out, HBL.out⟩
            case measure => simp [intOf]; omega
      · obtain rfl : k = 60 := by omega
        clear HC
        have hfin : madeOf l = (l.take 60).foldl stepOf ([], 0) := rfl
        have HF := Lib.hid hfin
        have HCH := Lib.hid hch
        have HRI := Lib.hid hri
        have HBL := Lib.hid hbl
        clear hfin hch hri hbl
        go_wp2
        go_ret
        exact ⟨rfl, by rw [HF.out]; exact HCH.out, by rw [HF.out]; exact HRI.out, HBL.out⟩
    · obtain rfl : k = l.length := by omega
      clear HC
      have hfin : madeOf l = (l.take l.length).foldl stepOf ([], 0) := by
        unfold madeOf; rw [List.take_of_length_le (by omega), List.take_of_length_le (Nat.le_refl _)]
      have HF := Lib.hid hfin
      have HCH := Lib.hid hch
      have HRI := Lib.hid hri
      have HBL := Lib.hid hbl
      clear hfin hch hri hbl
      go_wp2
      go_ret
      exact ⟨rfl, by rw [HF.out]; exact HCH.out, by rw [HF.out]; exact HRI.out, HBL.out⟩
end Go.Proofs.Ytpacbbnnmopkjaa
