/- The walk of disk.Crash. -/
import Derived.Test.YtimjadjopemefaaDk3
set_option linter.unusedVariables false
set_option linter.unusedSimpArgs false
namespace Go.Proofs.Ytimjadjopemefaa
open Go.RowKit

/-- What a log has behind a loss of power: what was sure, and so much more. -/
def crashN (l : List UInt8 × Nat) (k : Option Int) : Nat := l.2 + (match k with | some x => (min (max x 0) ((l.1.length : Int) - (l.2 : Int))).toNat | none => 0)
def crashLog (l : List UInt8 × Nat) (k : Option Int) : List UInt8 × Nat := (l.1.take (crashN l k), crashN l k)
def crashTo (ls : List (List UInt8 × Nat)) (ks : List Int) (k : Nat) : List (List UInt8 × Nat) := ls.mapIdx (fun i l => if i < k then crashLog l ks[i]? else l)
def DS.crash (D : DS) (ks : List Int) : DS := if D.down then D else { D with down := true, armed := 0, logs := crashTo D.logs ks D.logs.length }
theorem crashTo_length (ls : List (List UInt8 × Nat)) (ks : List Int) (k : Nat) : (crashTo ls ks k).length = ls.length := by simp [crashTo]
theorem crashTo_zero (ls : List (List UInt8 × Nat)) (ks : List Int) : crashTo ls ks 0 = ls := by
  apply List.ext_getElem (by simp [crashTo]); intro i h1 h2; simp [crashTo]
theorem crashTo_get (ls : List (List UInt8 × Nat)) (ks : List Int) (k i : Nat) (h : i < (crashTo ls ks k).length) : (crashTo ls ks k)[i] = if i < k then crashLog (ls[i]'(by rw [crashTo_length] at h; exact h)) ks[i]? else ls[i]'(by rw [crashTo_length] at h; exact h) := by simp [crashTo]
theorem crashTo_succ (ls : List (List UInt8 × Nat)) (ks : List Int) (k : Nat) (h : k < ls.length) : (crashTo ls ks k).set k (crashLog ls[k] ks[k]?) = crashTo ls ks (k + 1) := by
  apply List.ext_getElem (by simp [crashTo])
  intro i h1 h2
  rw [List.getElem_set]
  split
  · subst i; simp [crashTo]
  · rename_i hne
    rw [crashTo_get, crashTo_get]
    by_cases h3 : i < k
    · rw [if_pos h3, if_pos (by omega)]
    · rw [if_neg h3, if_neg (by omega)]
theorem crashN_le {l : List UInt8 × Nat} (h : l.2 ≤ l.1.length) (k : Option Int) : crashN l k ≤ l.1.length ∧ l.2 ≤ crashN l k := by
  unfold crashN
  cases k with
  | none => simp; exact h
  | some x => simp only; omega
theorem LogsAt.put0s {w : World} {S : Nat → Prop} {L : Nat} {ls : List (List UInt8 × Nat)} {v : Nat → Value} {i : Nat} (h : LogsAt w S L ls v) (hi : i < ls.length) {v' : Value} {b' : List UInt8} (hr : Row w 0 5 1 v' b'.length (byts b')) (ho : v'.ownBlock = (v i).ownBlock) :
    LogsAt (w.setCell ⟨L, i * 2, none⟩ v') S L (ls.set i (b', ls[i].2)) (fun j => if j = i then v' else v j) := by
  have h' := h.put0 hi (World.grownBy.refl _ _) hr (.inr (.inl ho))
  refine ⟨h'.blk, h'.row, h'.apart, fun j hj k hk => ?_, h.foot, h'.few⟩
  have hj' : j < ls.length := by simpa using hj
  by_cases e : j = i
  · subst e
    simp only [if_true] at hk
    exact h.own j hj' k (ho.symm.trans hk)
  · simp only [e, if_false] at hk
    exact h.own j hj' k hk
theorem Row.cut {w : World} {base : Nat} {A : Option Addr} {n c m : Nat} {b : List UInt8} (h : Row w base 5 1 (.slice A n c) b.length (byts b)) (hm : m ≤ b.length) : Row w base 5 1 (.slice A m m) (b.take m).length (byts (b.take m)) ∧ (Value.slice A m m).ownBlock = (Value.slice A n c).ownBlock := by
  refine ⟨⟨by rw [byts_length]; omega, ?_⟩, by cases A <;> rfl⟩
  have hl : (b.take m).length = m := by simp; omega
  rcases h.2 with ⟨h1, h2⟩ | ⟨g, cap, cur, e, hb, hg, h1, h2, h3, h4⟩
  · cases h1; left; exact ⟨by rw [h2] at hm; simp only [Nat.le_zero] at hm; rw [hm], by omega⟩
  · cases e
    refine .inr ⟨g, m, cur, by rw [hl], hb, hg, by omega, by omega, by omega, ?_⟩
    rw [hl]
    have : (cur.toList.take (b.length * 1)).take (m * 1) = (byts b).take m := by rw [h4]; simp
    rw [List.take_take, show min (m * 1) (b.length * 1) = m * 1 by omega] at this
    rw [this]; simp [byts, List.map_take]

/-- One log's loss, as it is written. -/
theorem crash_step {W w : World} {S T : Nat → Prop} {L g k M : Nat} {ls : List (List UInt8 × Nat)} {ks : List Int} {v1 : Nat → Value} {l : List UInt8 × Nat} {A1 : Option Addr} {cap1 : Nat} {xs : Array Value}
    (h : LogsAt W S L (crashTo ls ks k) v1) (hk : k < ls.length) (hl : l = ls[k]) (hv : v1 k = .slice A1 l.1.length cap1) (hs : l.2 ≤ l.1.length) (hM : crashN l ks[k]? = M) (hb : Blk W g 123 xs) (hu : Upd T w W) (hT : T L) :
    ∃ v, Blk ((W.setCell ⟨L, k * 2, none⟩ (.slice A1 M M)).setCell ⟨L, k * 2 + 1, none⟩ (.int .i64 (M : Int))) g 123 xs ∧ LogsAt ((W.setCell ⟨L, k * 2, none⟩ (.slice A1 M M)).setCell ⟨L, k * 2 + 1, none⟩ (.int .i64 (M : Int))) S L (crashTo ls ks (k + 1)) v ∧
      Upd T w ((W.setCell ⟨L, k * 2, none⟩ (.slice A1 M M)).setCell ⟨L, k * 2 + 1, none⟩ (.int .i64 (M : Int))) := by
  have hkC : k < (crashTo ls ks k).length := by rw [crashTo_length]; exact hk
  have hget : (crashTo ls ks k)[k] = l := by rw [crashTo_get, if_neg (Nat.lt_irrefl _), hl]
  have hrow := h.row k hkC
  rw [hget, hv] at hrow
  have hle := (crashN_le hs ks[k]?).1
  rw [hM] at hle
  obtain ⟨r1, r2⟩ := Row.cut hrow hle
  have h1 := h.put0s hkC (v' := .slice A1 M M) (b' := l.1.take M) r1 (by rw [hv]; exact r2)
  have h2 := h1.put1 (i := k) (by simpa using hkC) M
  have hne : g ≠ L := Typed.ne hb.typed h.typed (by decide)
  have e : ((crashTo ls ks k).set k (l.1.take M, (crashTo ls ks k)[k].2)).set k ((((crashTo ls ks k).set k (l.1.take M, (crashTo ls ks k)[k].2))[k]'(by simpa using hkC)).1, M) = crashTo ls ks (k + 1) := by
    rw [← crashTo_succ ls ks k hk, List.set_set]
    simp only [List.getElem_set_self, crashLog, ← hl, hM]
  rw [e] at h2
  refine ⟨_, (hb.kept (set_grown W ⟨L, k * 2, none⟩ _) (by simpa using hne)).kept (set_grown _ ⟨L, k * 2 + 1, none⟩ _) (by simpa using hne), h2, (hu.set _ _ (fun _ => hT)).set _ _ (fun _ => hT)⟩

set_option maxHeartbeats 2000000 in
set_option maxRecDepth 100000 in
theorem dcrash_calls (g : Nat) (S : Nat → Prop) (D : DS) (A : Option Addr) (n0 c0 : Nat) (ks : List Int) (w : World) (h : IsDisk w S g D) (hn : n0 = ks.length)
    (hA : ∀ w1, Upd (fun i => S i ∧ (Typed w i 123 ∨ Typed w i 126)) w w1 → Cells w1 A (ints ks)) :
    Calls Try.prog 51 #[.pointer (some ⟨g, 0, none⟩), .slice A n0 c0] w fun e w' => e = .returned (.tuple #[]) ∧ IsDisk w' S g (D.crash ks) ∧ Upd (fun i => S i ∧ (Typed w i 123 ∨ Typed w i 126)) w w' := by
  subst hn
  have hkl : ks.length ≤ 9223372036854775807 := by have := (hA w (Upd.refl _ _)).small; rwa [ints_length] at this
  obtain ⟨L, c, v, kv, hb, hl, hk, ho⟩ := h.at_
  have h2 : w.cell? ⟨g, 2, none⟩ = some (.bool D.down) := hb.cell 2 _ rfl
  cases hdn : D.down with
  | true =>
    have hc : D.crash ks = D := by simp [DS.crash, hdn]
    rw [hc]
    have H := Lib.hid h
    rw [hdn] at h2
    clear hb hl hk ho hA h hdn hc
    go_enter Try.func51, Try.ntmps51
    go_wp2
    (try simp only [Exit.inBlock, Exit.then])
    refine bodyPost_ret (results_none rfl _ _ _) rfl ?_
    exact ⟨rfl, H.out, Upd.refl _ _⟩
  | false =>
    have hc : D.crash ks = { D with down := true, armed := 0, logs := crashTo D.logs ks D.logs.length } := by simp [DS.crash, hdn]
    rw [hc]
    rw [hdn] at h2
    obtain ⟨T, hT⟩ : ∃ T : Nat → Prop, T = fun i => S i ∧ (Typed w i 123 ∨ Typed w i 126) := ⟨_, rfl⟩
    have hTg : T g := by rw [hT]; exact ⟨h.foot, .inl hb.typed⟩
    have hTL : T L := by rw [hT]; exact ⟨hl.foot, .inr hl.typed⟩
    have hTk : ∀ k, kv.ownBlock = some k → k < w.heap.size → ¬ T k := fun k hkk _ ht => by
      rw [hT] at ht
      rcases ht.2 with h1 | h1
      · exact (Typed.ne h1 (hk.typed k hkk) (by decide)) rfl
      · exact (Typed.ne h1 (hk.typed k hkk) (by decide)) rfl
    have hTK := Lib.hid hTk
    rw [← hT] at hA ⊢
    have HA := Lib.hid hA
    have HSM := Lib.hid h.small
    have HF := Lib.hid h.foot
    have HK := Lib.hid hk
    have HO := Lib.hid ho
    have h0 : w.cell? ⟨g, 0, none⟩ = some (.slice (some ⟨L, 0, none⟩) D.logs.length c) := hb.cell 0 _ rfl
    have h3 : w.cell? ⟨g, 3, none⟩ = some (.int .i64 D.armed) := hb.cell 3 _ rfl
    have f2 := hb.free 2 none
    have f3 := hb.free 3 none
    have hb2 : Blk ((w.setCell ⟨g, 2, none⟩ (.bool true)).setCell ⟨g, 3, none⟩ (.int .i64 0)) g 123 #[.slice (some ⟨L, 0, none⟩) D.logs.length c, .int .i64 (D.acts : Int), .bool true, .int .i64 0, kv] := by simpa using (hb.set 2 (.bool true)).set 3 (.int .i64 0)
    have u2 : Upd T w ((w.setCell ⟨g, 2, none⟩ (.bool true)).setCell ⟨g, 3, none⟩ (.int .i64 0)) := ((Upd.refl T w).set _ _ (fun _ => hTg)).set _ _ (fun _ => hTg)
    have hl2 : LogsAt ((w.setCell ⟨g, 2, none⟩ (.bool true)).setCell ⟨g, 3, none⟩ (.int .i64 0)) S L D.logs v := (hl.kept (set_grown w ⟨g, 2, none⟩ _) hb.typed (by decide) (by decide)).kept (set_grown _ ⟨g, 3, none⟩ _) (hb.set 2 _).typed (by decide) (by decide)
    have hne : L ≠ g := Typed.ne hl.typed hb.typed (by decide)
    have h16 := hl.few
    obtain ⟨n, hnn⟩ : ∃ n, n = D.logs.length := ⟨_, rfl⟩
    rw [← hnn] at h0 hb2 h16 ⊢
    have HN := Lib.hid hnn
    clear hb hl hk ho hA h hdn hc hT hTk hnn
    go_enter Try.func51, Try.ntmps51
    go_wp2
    go_loopw [22] (fun i wr => ∃ k : Nat, k ≤ n ∧ i = .int .i64 k ∧ ∃ v, Blk wr g 123 #[.slice (some ⟨L, 0, none⟩) n c, .int .i64 (D.acts : Int), .bool true, .int .i64 0, kv] ∧ LogsAt wr S L (crashTo D.logs ks k) v ∧ Upd T w wr) (fun i _ => n - (intOf i).toNat)
    case atStart => exact ⟨0, Nat.zero_le _, rfl, v, hb2, by rw [crashTo_zero]; exact hl2, u2⟩
    case round =>
      obtain ⟨k, hk, rfl, v1, hb1, hl1, u1⟩ := hrel
      clear hb2 hl2 u2 h0 h2 h3 f2 f3
      by_cases hlt : k < n
      · have hkD : k < D.logs.length := by rw [← HN.out]; exact hlt
        have hkC : k < (crashTo D.logs ks k).length := by rw [crashTo_length]; exact hkD
        have hget : (crashTo D.logs ks k)[k] = D.logs[k] := by rw [crashTo_get, if_neg (Nat.lt_irrefl _)]
        obtain ⟨l, hl⟩ : ∃ l, l = D.logs[k] := ⟨_, rfl⟩
        have hsm := HSM.out k hkD
        have hrow := hl1.row k hkC
        obtain ⟨c0', c1⟩ := hl1.cells hkC
        rw [hget, ← hl] at hrow c1
        rw [← hl] at hsm
        obtain ⟨A1, cap1, hv, hnc, hcm, _, _⟩ := hrow.cells (by rw [byts_length]; omega)
        rw [hv] at c0'
        have b0 : wr.cell? ⟨g, 0, none⟩ = some (.slice (some ⟨L, 0, none⟩) n c) := hb1.cell 0 _ rfl
        have q0 := hl1.free (k * 2)
        have q1 := hl1.free (k * 2 + 1)
        have hN := crashN_le hsm.2 ks[k]?
        obtain ⟨bs, sr⟩ := l
        simp only at hsm c0' c1 hN
        obtain ⟨B, hB⟩ : ∃ B, B = bs.length := ⟨_, rfl⟩
        have HB := Lib.hid hB
        have HL := Lib.hid hl
        have HROW := Lib.hid hrow
        have HV := Lib.hid hv
        have HL1 := Lib.hid hl1
        have HB1 := Lib.hid hb1
        have HU1 := Lib.hid u1
        have HG := Lib.hid hget
        have HCA := Lib.hid (HA.out wr u1)
        rw [← hB] at hsm c0' hnc hN
        clear hB hl hrow hv hl1 hb1 u1 hget
        by_cases hkk : k < ks.length
        · obtain ⟨ad, rfl, d0⟩ := HCA.out.get k _ (ints_get ks k hkk)
          have hNe : crashN (bs, sr) ks[k]? = sr + (min (max ks[k] 0) ((bs.length : Int) - (sr : Int))).toNat := by simp [crashN, hkk]
          obtain ⟨x, hx⟩ : ∃ x, x = ks[k] := ⟨_, rfl⟩
          rw [← hx] at d0 hNe
          have HX := Lib.hid hx
          have HNE := Lib.hid hNe
          clear hx hNe hN
          go_upto_region 8 with fail
          go_quiet (fail)
          go_wp2_with fail
          have hm : ((sr : Int) + if (B : Int) - (sr : Int) < if x < 0 then 0 else x then (B : Int) - (sr : Int) else if x < 0 then 0 else x) = ((crashN (bs, sr) ks[k]? : Nat) : Int) := by
            rw [HNE.out, ← HB.out]
            by_cases a1 : x < 0
            · simp only [a1, if_true]; split <;> omega
            · simp only [a1, if_false]; split <;> omega
          have hmn : (((sr : Int) + if (B : Int) - (sr : Int) < if x < 0 then 0 else x then (B : Int) - (sr : Int) else if x < 0 then 0 else x)).toNat = crashN (bs, sr) ks[k]? := by rw [hm]; simp
          rw [hmn, hm]
          exact ⟨⟨k + 1, by omega, by go_num, crash_step (HL1.out.below (bdrewN (Below.refl _ _) _)) hkD HL.out HV.out (by rw [← HB.out]; exact hsm.2) rfl (HB1.out.below (bdrewN (Below.refl _ _) _)) (HU1.out.drewN _) hTL⟩, by simp [intOf]; omega⟩
        · have hNe : crashN (bs, sr) ks[k]? = sr := by simp [crashN, Nat.le_of_not_lt hkk]
          have HNE := Lib.hid hNe
          clear hNe hN
          have hkk2 : ¬ (k : Int) < (ks.length : Int) := by omega
          go_wp2_with fail
          exact ⟨⟨k + 1, by omega, by go_num, crash_step HL1.out hkD HL.out HV.out (by rw [← HB.out]; exact hsm.2) HNE.out HB1.out HU1.out hTL⟩, by simp [intOf]; omega⟩
      · obtain rfl : k = n := by omega
        have HL1 := Lib.hid hl1
        have HB1 := Lib.hid hb1
        have HU1 := Lib.hid u1
        clear hl1 hb1 u1
        go_wp2
        (try simp only [Exit.inBlock, Exit.then])
        refine bodyPost_end (results_none rfl _ _ _) rfl ?_
        refine ⟨rfl, ⟨⟨L, c, v1, kv, ?_, HL1.out, HK.out.upd HU1.out (fun k e hl => hTK.out k e hl), HO.out⟩, HF.out, fun i hi => ?_, by simp⟩, HU1.out⟩
        · simpa [crashTo_length, ← HN.out] using HB1.out
        · have hi' : i < D.logs.length := by simpa [crashTo_length] using hi
          have h1 := HSM.out i hi'
          simp only [crashTo_get]
          split
          · have := crashN_le h1.2 ks[i]?
            simp [crashLog]; omega
          · exact h1
end Go.Proofs.Ytimjadjopemefaa
