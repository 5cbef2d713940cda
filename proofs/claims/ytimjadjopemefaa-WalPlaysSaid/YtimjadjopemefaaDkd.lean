/- The walk of the disk law's made. -/
import Derived.Test.YtimjadjopemefaaDkc
set_option linter.unusedVariables false
set_option linter.unusedSimpArgs false
namespace Go.Proofs.Ytimjadjopemefaa
open Go.RowKit

/-- An act: kind, log, n, text, list, and where the list lies. -/
structure Act5 where
  kind : Int
  log : Int
  n : Int
  s : List UInt8
  K : Option Addr
  m : Nat
  c : Nat
  ks : List Int
def act5 (a : Act5) : List Value := [.int .i64 a.kind, .int .i64 a.log, .int .i64 a.n, .string (str a.s), .slice a.K a.m a.c]
def acs (l : List Act5) : List Value := l.flatMap act5
theorem acs_cons (o : Act5) (l : List Act5) : acs (o :: l) = act5 o ++ acs l := rfl
theorem acs_length (l : List Act5) : (acs l).length = l.length * 5 := by
  induction l with
  | nil => rfl
  | cons o l ih => rw [acs_cons, List.length_append, ih]; simp [act5]; omega
theorem acs_get (l : List Act5) (i : Nat) (h : i < l.length) : (acs l)[i * 5]? = some (.int .i64 (l[i]).kind) ∧ (acs l)[i * 5 + 1]? = some (.int .i64 (l[i]).log) ∧ (acs l)[i * 5 + 2]? = some (.int .i64 (l[i]).n) ∧ (acs l)[i * 5 + 3]? = some (.string (str (l[i]).s)) ∧ (acs l)[i * 5 + 4]? = some (.slice (l[i]).K (l[i]).m (l[i]).c) := by
  induction l generalizing i with
  | nil => simp at h
  | cons v vs ih =>
    rw [acs_cons]
    cases i with
    | zero => exact ⟨rfl, rfl, rfl, rfl, rfl⟩
    | succ i =>
      have := ih i (by simpa using h)
      rw [show (i + 1) * 5 = i * 5 + 5 by omega]
      simpa [act5] using this
theorem add_off (a : Addr) (n k : Nat) (hk : 0 < k) : a.add (n + k) = ⟨(a.add n).block, (a.add n).off + k, none⟩ := by
  unfold Addr.add
  by_cases h : n = 0
  · subst h; simp; omega
  · simp [h]; omega
theorem Cells.act {w : World} {A : Option Addr} {l : List Act5} (h : Cells w A (acs l)) (k : Nat) (hk : k < l.length) :
    ∃ ad, A = some ad ∧ w.cell? (ad.add (k * 5)) = some (.int .i64 (l[k]).kind) ∧ w.cell? ⟨(ad.add (k * 5)).block, (ad.add (k * 5)).off + 1, none⟩ = some (.int .i64 (l[k]).log) ∧ w.cell? ⟨(ad.add (k * 5)).block, (ad.add (k * 5)).off + 2, none⟩ = some (.int .i64 (l[k]).n) ∧
      w.cell? ⟨(ad.add (k * 5)).block, (ad.add (k * 5)).off + 3, none⟩ = some (.string (str (l[k]).s)) ∧ w.cell? ⟨(ad.add (k * 5)).block, (ad.add (k * 5)).off + 4, none⟩ = some (.slice (l[k]).K (l[k]).m (l[k]).c) := by
  obtain ⟨g0, g1, g2, g3, g4⟩ := acs_get l k hk
  obtain ⟨ad, rfl, h0⟩ := h.get _ _ g0
  obtain ⟨ad2, e, h1⟩ := h.get _ _ g1
  cases e
  obtain ⟨ad2, e, h2⟩ := h.get _ _ g2
  cases e
  obtain ⟨ad2, e, h3⟩ := h.get _ _ g3
  cases e
  obtain ⟨ad2, e, h4⟩ := h.get _ _ g4
  cases e
  rw [add_off _ _ _ (by decide)] at h1 h2 h3 h4
  exact ⟨ad, rfl, h0, h1, h2, h3, h4⟩
/-- What is known of an act's list. -/
def GoodAct (w : World) (a : Act5) : Prop := a.m = a.ks.length ∧ a.m ≤ a.c ∧ Cells w a.K (ints a.ks)

/-- A disk's state behind an act, as made does it. -/
def stepD (D : DS) (a : Act5) : DS :=
  if a.kind = 0 then D.append a.log (a.s.take 2000) else if a.kind = 1 then D.sync a.log else if a.kind = 2 then D.swap a.log (a.s.take 2000) else if a.kind = 5 then { D.crash (a.ks.take 20) with down := false } else D
def madeD (l : List Act5) : DS := (l.take 30).foldl stepD (freshD 3)

theorem act_acts (D : DS) (n size : Int) (f : List UInt8 × Nat → List UInt8 × Nat) : (D.act n size f).acts ≤ D.acts + 1 := by
  unfold DS.act
  split
  · exact Nat.le_refl _
  · unfold DS.fail
    split
    · unfold DS.crash; split <;> simp
    · omega
theorem stepD_acts (D : DS) (a : Act5) : (stepD D a).acts ≤ D.acts + 1 := by
  unfold stepD
  split
  · exact act_acts _ _ _ _
  split
  · exact act_acts _ _ _ _
  split
  · exact act_acts _ _ _ _
  split
  · unfold DS.crash; split <;> simp
  · omega
theorem ints_take (l : List Int) (k : Nat) : (ints l).take k = ints (l.take k) := by simp [ints, List.map_take]
theorem Cells.take {w : World} {A : Option Addr} {ks : List Int} (h : Cells w A (ints ks)) (n : Nat) : Cells w A (ints (ks.take n)) := by
  refine ⟨fun j v hj => ?_, by have := h.small; rw [ints_length] at this ⊢; simp; omega⟩
  rw [← ints_take, List.getElem?_take] at hj
  split at hj
  · exact h.get j v hj
  · cases hj

/-- A loss of power, with a list that lay there ahead of the disk. -/
theorem held_crash0 {w0 w : World} {S : Nat → Prop} {g : Nat} {D : DS} (h : Held w0 w S g D) (A : Option Addr) (m c0 : Nat) (ks : List Int) (hm : m = ks.length) (hA : Cells w0 A (ints ks)) :
    Calls Try.prog 51 #[.pointer (some ⟨g, 0, none⟩), .slice A m c0] w fun e w' => e = .returned (.tuple #[]) ∧ ∃ S', Held w0 w' S' g (D.crash ks) ∧ Grew S S' w w' :=
  (dcrash_calls g _ D A m c0 ks w h.disk hm (fun w2 hu => by
    rcases ks with _ | ⟨x, ks⟩
    · exact Cells.nil _ _
    · refine (hA.below h.below).same fun ad e hl => hu.block _ hl fun hs => ?_
      obtain ⟨ad2, e2, hc⟩ := hA.get 0 (.int .i64 x) (by simp [ints])
      rw [e] at e2
      cases e2
      have h1 := World.block_lt_of_cell? w0 _ hc
      rw [add_block] at h1
      have := h.own _ hs.1
      omega)).mono (by
    rintro e w' ⟨rfl, hd, hu⟩
    exact ⟨rfl, h.step (Below.refl _ _) (hd.mono (fun k hk => .inl hk)) (hu.mono (fun i _ hi => hi.1))⟩)

set_option maxHeartbeats 4000000 in
set_option maxRecDepth 100000 in
theorem dmade_calls (A : Option Addr) (n c : Nat) (l : List Act5) (w : World) (hn : n = l.length) (hc : Cells w A (acs l)) (hg : ∀ a ∈ l, GoodAct w a) :
    Calls Try.prog 49 #[.slice A n c] w fun e w' => ∃ g S, e = .returned (.pointer (some ⟨g, 0, none⟩)) ∧ Held w w' S g (madeD l) := by
  subst hn
  have hlen : l.length ≤ 9223372036854775807 := by have := hc.small; rw [acs_length] at this; omega
  have HC := Lib.hid (fun k (hk : k < l.length) => hc.act k hk)
  have HG := Lib.hid (fun k (hk : k < l.length) => hg l[k] (List.getElem_mem hk))
  clear hc hg
  go_enter Try.func49, Try.ntmps49
  go_wp2_with fail
  refine (held_new 3 w w (Below.refl _ _) (by decide) (by decide)).mono ?_
  rintro e w1 ⟨g, S1, rfl, h1, _⟩
  have H1 := Lib.hid h1
  clear h1
  go_wp2
  go_loopw [5] (fun i wr => ∃ k : Nat, k ≤ l.length ∧ k ≤ 30 ∧ i = .int .i64 k ∧ ∃ S, Held w wr S g ((l.take k).foldl stepD (freshD 3)) ∧ ((l.take k).foldl stepD (freshD 3)).acts ≤ k) (fun i _ => 30 - (intOf i).toNat)
  case atStart => exact ⟨0, Nat.zero_le _, by omega, rfl, _, H1.out, Nat.le_refl _⟩
  case round =>
    obtain ⟨k, hk, hk30, rfl, S, hd, hac⟩ := hrel
    clear H1
    by_cases hlt : k < l.length
    · by_cases h30 : k < 30
      · obtain ⟨ad, rfl, o0, o1, o2, o3, o4⟩ := HC.out k hlt
        obtain ⟨gm, gc, gk⟩ := HG.out k hlt
        have hst : (l.take (k + 1)).foldl stepD (freshD 3) = stepD ((l.take k).foldl stepD (freshD 3)) l[k] := by
          rw [List.take_succ_eq_append_getElem hlt, List.foldl_append]; rfl
        obtain ⟨D, hD⟩ : ∃ D, D = (l.take k).foldl stepD (freshD 3) := ⟨_, rfl⟩
        obtain ⟨a, ha⟩ : ∃ a, a = l[k] := ⟨_, rfl⟩
        rw [← hD] at hd hac hst
        rw [← ha] at hst o0 o1 o2 o3 o4 gm gc gk
        have hst2 := stepD_acts D a
        rw [← hst] at hst2
        have p0 := (hd.below.cell (World.block_lt_of_cell? w _ o0)).trans o0
        have p1 := (hd.below.cell (World.block_lt_of_cell? w _ o1)).trans o1
        have p2 := (hd.below.cell (World.block_lt_of_cell? w _ o2)).trans o2
        have p3 := (hd.below.cell (World.block_lt_of_cell? w _ o3)).trans o3
        have p4 := (hd.below.cell (World.block_lt_of_cell? w _ o4)).trans o4
        obtain ⟨kd, lg, nn, s, K, m, c5, ks⟩ := a
        simp only at p0 p1 p2 p3 p4 gm gc gk
        have HH := Lib.hid hd
        have HST := Lib.hid hst
        have hst3 : (List.foldl stepD (freshD 3) (List.take (k + 1) l)).acts ≤ k + 1 := by omega
        have HST2 := Lib.hid hst3
        clear hst3
        have GM := Lib.hid gm
        have GK := Lib.hid gk
        have hac9 : D.acts < 1000000000 := by omega
        clear o0 o1 o2 o3 o4 ha hd hst hst2 gm gk hac hD HC HG
        go_wp2_with fail
        refine (dfew_calls kd lg nn s K m c5 wr gc).mono ?_
        rintro e w4 ⟨rfl, b4⟩
        rw [show actVal kd lg nn (s.take 2000) K (min m 20) c5 = .agg #[.int .i64 kd, .int .i64 lg, .int .i64 nn, .string (str (s.take 2000)), .slice K (min m 20) c5] from rfl]
        have hsl : (s.take 2000).length ≤ 2000 := by simp; omega
        have hmm : min m 20 = (ks.take 20).length := by rw [GM.out]; simp; omega
        obtain ⟨s2, hs2⟩ : ∃ s2, s2 = s.take 2000 := ⟨_, rfl⟩
        obtain ⟨m2, hm2⟩ : ∃ m2, m2 = min m 20 := ⟨_, rfl⟩
        rw [← hm2] at hmm ⊢
        rw [← hs2] at hsl ⊢
        have HS2 := Lib.hid hs2
        have HMM := Lib.hid hmm
        have b5 := b4.alloc b4.size (.cells #[.int .i64 kd, .int .i64 lg, .int .i64 nn, .string (str s2), .slice K m2 c5] 62)
        have h5 := HH.out.later b5
        have n5 := Blk.new w4 62 #[.int .i64 kd, .int .i64 lg, .int .i64 nn, .string (str s2), .slice K m2 c5]
        clear b4 b5 HH p0 p1 p2 p3 p4 hs2 hmm hm2 gc
        go_upto_region 8 with fail
        generalize w4.alloc (.cells #[.int .i64 kd, .int .i64 lg, .int .i64 nn, .string (str s2), .slice K m2 c5] 62) = W5 at h5 n5 ⊢
        generalize w4.heap.size = b6 at n5 ⊢
        have p0 : W5.cell? ⟨b6, 0, none⟩ = some (.int .i64 kd) := n5.cell 0 _ rfl
        have p1 : W5.cell? ⟨b6, 1, none⟩ = some (.int .i64 lg) := n5.cell 1 _ rfl
        have p3 : W5.cell? ⟨b6, 3, none⟩ = some (.string (str s2)) := n5.cell 3 _ rfl
        have p4 : W5.cell? ⟨b6, 4, none⟩ = some (.slice K m2 c5) := n5.cell 4 _ rfl
        have H5 := Lib.hid h5
        clear h5 n5
        by_cases k0 : kd = 0
        · have hkb : (kd == 0) = true := by simpa using k0
          have hsp : stepD D ⟨kd, lg, nn, s, K, m, c5, ks⟩ = D.append lg s2 := by simp [stepD, k0, HS2.out]
          have HSP := Lib.hid hsp
          clear hsp k0
          go_wp2_with (with_reducible refine halt_dst 41 ?_)
          refine wpList_bytes rfl (.tmp 40) 9 22 rfl Try.underlying9 Try.underlying22 Try.underlying5 s2 rfl ?_
          intro c7 w7 hc7 hB7 b7 _
          have hA7 := hB7.cells (by omega)
          go_wp2_with fail
          refine (held_append H5.out b7 lg _ s2.length c7 s2 rfl hA7 (fun ad e => by cases e; exact .inr (Nat.le_refl _)) (by omega) hac9).mono ?_
          rintro e w8 ⟨rfl, S8, h8, _⟩
          have H8 := Lib.hid h8
          clear h8 hA7 hB7 b7 H5
          go_wp2
          go_roundw
          case rel => exact ⟨k + 1, by omega, by omega, by go_num, S8, by rw [HST.out, HSP.out]; exact H8.out, HST2.out⟩
          case measure => simp [intOf]; omega
        · have hkb0 : (kd == 0) = false := by simpa using k0
          by_cases k1 : kd = 1
          · have hkb : (kd == 1) = true := by simpa using k1
            have hsp : stepD D ⟨kd, lg, nn, s, K, m, c5, ks⟩ = D.sync lg := by simp [stepD, k1]
            have HSP := Lib.hid hsp
            clear hsp k0 k1
            go_wp2_with fail
            refine (held_sync H5.out lg hac9).mono ?_
            rintro e w8 ⟨rfl, S8, h8, _⟩
            have H8 := Lib.hid h8
            clear h8 H5
            go_wp2
            go_roundw
            case rel => exact ⟨k + 1, by omega, by omega, by go_num, S8, by rw [HST.out, HSP.out]; exact H8.out, HST2.out⟩
            case measure => simp [intOf]; omega
          · have hkb1 : (kd == 1) = false := by simpa using k1
            by_cases k2 : kd = 2
            · have hkb : (kd == 2) = true := by simpa using k2
              have hsp : stepD D ⟨kd, lg, nn, s, K, m, c5, ks⟩ = D.swap lg s2 := by simp [stepD, k2, HS2.out]
              have HSP := Lib.hid hsp
              clear hsp k0 k1 k2
              go_wp2_with (with_reducible refine halt_dst 56 ?_)
              refine wpList_bytes rfl (.tmp 55) 9 22 rfl Try.underlying9 Try.underlying22 Try.underlying5 s2 rfl ?_
              intro c7 w7 hc7 hB7 b7 _
              have hA7 := hB7.cells (by omega)
              go_wp2_with fail
              refine (held_swap H5.out b7 lg _ s2.length c7 s2 rfl hA7 (fun ad e => by cases e; exact .inr (Nat.le_refl _)) hac9).mono ?_
              rintro e w8 ⟨rfl, S8, h8, _⟩
              have H8 := Lib.hid h8
              clear h8 hA7 hB7 b7 H5
              go_wp2
              go_roundw
              case rel => exact ⟨k + 1, by omega, by omega, by go_num, S8, by rw [HST.out, HSP.out]; exact H8.out, HST2.out⟩
              case measure => simp [intOf]; omega
            · have hkb2 : (kd == 2) = false := by simpa using k2
              by_cases k5 : kd = 5
              · have hkb : (kd == 5) = true := by simpa using k5
                have hsp : stepD D ⟨kd, lg, nn, s, K, m, c5, ks⟩ = { D.crash (ks.take 20) with down := false } := by simp [stepD, k5]
                have HSP := Lib.hid hsp
                clear hsp k0 k1 k2 k5
                have hcr := held_crash0 H5.out K m2 c5 (ks.take 20) HMM.out (GK.out.take 20)
                have HCR := Lib.hid hcr
                clear hcr
                go_wp2_with fail
                refine HCR.out.mono ?_
                rintro e w7 ⟨rfl, S7, h7, _⟩
                have H7 := Lib.hid h7
                clear h7 H5
                go_wp2_with fail
                refine (held_up H7.out).mono ?_
                rintro e w8 ⟨rfl, S8, h8, _⟩
                have H8 := Lib.hid h8
                clear h8 H7
                go_wp2
                go_roundw
                case rel => exact ⟨k + 1, by omega, by omega, by go_num, S8, by rw [HST.out, HSP.out]; exact H8.out, HST2.out⟩
                case measure => simp [intOf]; omega
              · have hkb5 : (kd == 5) = false := by simpa using k5
                have hsp : stepD D ⟨kd, lg, nn, s, K, m, c5, ks⟩ = D := by simp [stepD, k0, k1, k2, k5]
                have HSP := Lib.hid hsp
                have H8 := H5
                clear hsp k0 k1 k2 k5 H5
                go_wp2
                go_roundw
                case rel => exact ⟨k + 1, by omega, by omega, by go_num, S, by rw [HST.out, HSP.out]; exact H8.out, HST2.out⟩
                case measure => simp [intOf]; omega
      · obtain rfl : k = 30 := by omega
        have hfin : madeD l = (l.take 30).foldl stepD (freshD 3) := rfl
        have HF := Lib.hid hfin
        have HH := Lib.hid hd
        clear hfin hd HC HG
        go_wp2
        go_ret
        exact ⟨g, S, rfl, by rw [HF.out]; exact HH.out⟩
    · obtain rfl : k = l.length := by omega
      have hfin : madeD l = (l.take l.length).foldl stepD (freshD 3) := by
        unfold madeD; rw [List.take_of_length_le (by omega), List.take_of_length_le (Nat.le_refl _)]
      have HF := Lib.hid hfin
      have HH := Lib.hid hd
      clear hfin hd HC HG
      go_wp2
      go_ret
      exact ⟨g, S, rfl, by rw [HF.out]; exact HH.out⟩
end Go.Proofs.Ytimjadjopemefaa
