/- The walks of disk's act, Append, Sync, Swap. -/
import Derived.Test.YtimjadjopemefaaDk5
import Derived.StillTailTactics
set_option linter.unusedVariables false
set_option linter.unusedSimpArgs false
namespace Go.Proofs.Ytimjadjopemefaa
open Go.RowKit

def DS.actErr (D : DS) (n size : Int) : Int := if D.has n then (if D.down then 71 else if 4194304 < size then 72 else if D.armed = 1 then 71 else 0) else 70
/-- What a refused act leaves: power that goes, if it was armed for this one. -/
def DS.fail (D : DS) (n size : Int) : DS := if D.has n = true ∧ D.down = false ∧ size ≤ 4194304 ∧ D.armed = 1 then D.crash D.keep else D
def DS.pre (D : DS) : DS := { D with armed := (if 1 < D.armed then D.armed - 1 else D.armed), acts := D.acts + 1 }
def DS.act (D : DS) (n size : Int) (f : List UInt8 × Nat → List UInt8 × Nat) : DS := if D.actErr n size = 0 then { D.pre with logs := D.logs.set n.toNat (f (D.log n)) } else D.fail n size

set_option maxHeartbeats 2000000 in
set_option maxRecDepth 100000 in
theorem act_err (g : Nat) (S : Nat → Prop) (D : DS) (n size : Int) (fv : Value) (w : World) (h : IsDisk w S g D) (he : D.actErr n size ≠ 0) :
    Calls Try.prog 73 #[.pointer (some ⟨g, 0, none⟩), .int .i64 n, .int .i64 size, fv] w fun e w' => e = .returned (.int .i64 (D.actErr n size)) ∧ IsDisk w' S g (D.fail n size) ∧ Upd S w w' := by
  have H := Lib.hid (dhas_calls g S D n w h)
  have HD := Lib.hid h
  obtain ⟨L, c, v, kv, hb, hl, hk, ho⟩ := h.at_
  have h2 : w.cell? ⟨g, 2, none⟩ = some (.bool D.down) := hb.cell 2 _ rfl
  have h3 : w.cell? ⟨g, 3, none⟩ = some (.int .i64 D.armed) := hb.cell 3 _ rfl
  have h4 : w.cell? ⟨g, 4, none⟩ = some kv := hb.cell 4 _ rfl
  cases hh : D.has n with
  | false =>
    have e1 : D.actErr n size = 70 := by simp [DS.actErr, hh]
    have e2 : D.fail n size = D := by simp [DS.fail, hh]
    rw [e1, e2]
    clear e1 e2 he hb hl hk ho h
    go_enter Try.func73, Try.ntmps73
    go_wp2_with fail
    refine H.out.mono ?_
    rintro e w1 ⟨rfl, rfl⟩
    rw [hh]
    go_wp2
    go_ret
    exact ⟨rfl, HD.out, Upd.refl _ _⟩
  | true =>
    cases hd : D.down with
    | true =>
      have e1 : D.actErr n size = 71 := by simp [DS.actErr, hh, hd]
      have e2 : D.fail n size = D := by simp [DS.fail, hd]
      rw [e1, e2]
      rw [hd] at h2
      clear e1 e2 he hb hl hk ho h
      go_enter Try.func73, Try.ntmps73
      go_wp2_with fail
      refine H.out.mono ?_
      rintro e w1 ⟨rfl, rfl⟩
      rw [hh]
      go_wp2
      go_ret
      exact ⟨rfl, HD.out, Upd.refl _ _⟩
    | false =>
      by_cases hs : 4194304 < size
      · have e1 : D.actErr n size = 72 := by simp [DS.actErr, hh, hd, hs]
        have e2 : D.fail n size = D := by simp [DS.fail]; omega
        rw [e1, e2]
        rw [hd] at h2
        clear e1 e2 he hb hl hk ho h
        go_enter Try.func73, Try.ntmps73
        go_wp2_with fail
        refine H.out.mono ?_
        rintro e w1 ⟨rfl, rfl⟩
        rw [hh]
        go_wp2
        go_ret
        exact ⟨rfl, HD.out, Upd.refl _ _⟩
      · by_cases ha : D.armed = 1
        · have e1 : D.actErr n size = 71 := by simp [DS.actErr, hh, hd, hs, ha]
          have e2 : D.fail n size = D.crash D.keep := by simp [DS.fail, hh, hd, ha]; omega
          rw [e1, e2]
          rw [hd] at h2
          rw [ha] at h3
          obtain ⟨K, kc, hkv, _, _, _, _⟩ := hk.cells1
          have HC := Lib.hid (dcrash_calls g S D K _ kc D.keep w h rfl (fun w1 hu => by
            have h1 := hk.upd hu (fun i hi _ ht => by
              rcases ht.2 with h5 | h5
              · exact (Typed.ne h5 (hk.typed i hi) (by decide)) rfl
              · exact (Typed.ne h5 (hk.typed i hi) (by decide)) rfl)
            obtain ⟨K2, kc2, e, _, _, hc, _⟩ := h1.cells1
            rw [hkv] at e
            cases e
            exact hc))
          rw [hkv] at h4
          clear e1 e2 he hb hl hk ho h ha
          go_enter Try.func73, Try.ntmps73
          go_wp2_with fail
          refine H.out.mono ?_
          rintro e w1 ⟨rfl, rfl⟩
          rw [hh]
          go_wp2_with fail
          refine HC.out.mono ?_
          rintro e w2 ⟨rfl, hd2, u2⟩
          have HD2 := Lib.hid hd2
          have HU2 := Lib.hid u2
          clear hd2 u2
          go_wp2
          go_ret
          exact ⟨rfl, HD2.out, HU2.out.mono (fun i _ h => h.1)⟩
        · exact absurd (by simp [DS.actErr, hh, hd, hs, ha]) he

set_option maxHeartbeats 2000000 in
set_option maxRecDepth 100000 in
theorem act_app (g : Nat) (S : Nat → Prop) (D : DS) (i : Nat) (size : Int) (B : Nat) (ls' : List (List UInt8 × Nat)) (w : World) (h : IsDisk w S g D) (he : D.actErr (i : Int) size = 0) (hac : D.acts < 1000000000)
    (hls : ls'.length = D.logs.length) (hsm : ∀ j (h : j < ls'.length), ls'[j].1.length ≤ 4194304 ∧ ls'[j].2 ≤ ls'[j].1.length)
    (hC : ∀ w1 L v, LogsAt w1 S L D.logs v → Upd (fun k => k = g) w w1 → Calls Try.prog 74 #[.pointer (some ⟨L, i * 2, none⟩), .pointer (some ⟨B, 0, none⟩)] w1 fun e w2 => e = .returned (.tuple #[]) ∧ ∃ v', LogsAt w2 (fun k => S k ∨ w.heap.size ≤ k) L ls' v' ∧ Upd (fun k => S k ∧ (Typed w1 k 126 ∨ Typed w1 k 5)) w1 w2) :
    Calls Try.prog 73 #[.pointer (some ⟨g, 0, none⟩), .int .i64 (i : Int), .int .i64 size, .func (.func 74) #[] #[.pointer (some ⟨B, 0, none⟩)]] w fun e w' => e = .returned (.int .i64 0) ∧ IsDisk w' (fun k => S k ∨ w.heap.size ≤ k) g { D.pre with logs := ls' } ∧ Upd S w w' := by
  have H := Lib.hid (dhas_calls g S D i w h)
  have hh : D.has (i : Int) = true := by
    unfold DS.actErr at he
    split at he
    · assumption
    · cases he
  have hil : i < D.logs.length := by
    obtain ⟨j, e, hj⟩ := DS.has_iff.1 hh
    omega
  unfold DS.actErr at he
  rw [if_pos hh] at he
  have hd : D.down = false := by
    cases hd : D.down with
    | false => rfl
    | true => rw [hd] at he; simp at he
  rw [hd] at he
  simp only [Bool.false_eq_true, if_false] at he
  by_cases hs : 4194304 < size
  · rw [if_pos hs] at he; cases he
  rw [if_neg hs] at he
  by_cases ha : D.armed = 1
  · rw [if_pos ha] at he; cases he
  obtain ⟨L, c, v, kv, hb, hl, hk, ho⟩ := h.at_
  have hSg := h.foot
  have har := h.armed
  have h0 : w.cell? ⟨g, 0, none⟩ = some (.slice (some ⟨L, 0, none⟩) D.logs.length c) := hb.cell 0 _ rfl
  have h1 : w.cell? ⟨g, 1, none⟩ = some (.int .i64 (D.acts : Int)) := hb.cell 1 _ rfl
  have h2 : w.cell? ⟨g, 2, none⟩ = some (.bool false) := by rw [← hd]; exact hb.cell 2 _ rfl
  have h3 : w.cell? ⟨g, 3, none⟩ = some (.int .i64 D.armed) := hb.cell 3 _ rfl
  have f1 := hb.free 1 none
  have f3 := hb.free 3 none
  -- what is left behind the counts, and how it ends
  have hfin : ∀ (W : World) (ar : Int), ar = (if 1 < D.armed then D.armed - 1 else D.armed) → Blk W g 123 #[.slice (some ⟨L, 0, none⟩) D.logs.length c, .int .i64 ((D.acts + 1 : Nat) : Int), .bool false, .int .i64 ar, kv] → Upd (fun k => k = g) w W →
      LogsAt W S L D.logs v ∧ ∀ w2 v', LogsAt w2 (fun k => S k ∨ w.heap.size ≤ k) L ls' v' → Upd (fun k => S k ∧ (Typed W k 126 ∨ Typed W k 5)) W w2 →
        IsDisk w2 (fun k => S k ∨ w.heap.size ≤ k) g { D.pre with logs := ls' } ∧ Upd S w w2 := by
    intro W ar har' hbW huW
    have hkg : ∀ k, kv.ownBlock = some k → k ≠ g := fun k e => Typed.ne (hk.typed k e) hb.typed (by decide)
    have hkW : Row W 0 3 1 kv D.keep.length (ints D.keep) := hk.upd huW (fun k e _ => hkg k e)
    refine ⟨hl.same fun k hk2 hoo => huW.block k hk2 fun e => ?_, fun w2 v' hl2 hu2 => ⟨⟨⟨L, c, v', kv, ?_, hl2, hkW.upd hu2 (fun k e _ ht => ?_), fun k e => .inl (ho k e)⟩, .inl hSg, hsm, ?_⟩, ?_⟩⟩
    · subst e
      rcases hoo with ⟨h5, _⟩ | ⟨h5, _⟩
      · exact (Typed.ne h5 hb.typed (by decide)) rfl
      · exact (Typed.ne h5 hb.typed (by decide)) rfl
    · have := hbW.upd hu2 (fun ht => by
        rcases ht.2 with h5 | h5
        · exact (Typed.ne h5 hbW.typed (by decide)) rfl
        · exact (Typed.ne h5 hbW.typed (by decide)) rfl)
      rw [har'] at this
      simpa [DS.pre, hls, hd] using this
    · rcases ht.2 with h5 | h5
      · exact (Typed.ne h5 (hkW.typed k e) (by decide)) rfl
      · exact (Typed.ne h5 (hkW.typed k e) (by decide)) rfl
    · simp only [DS.pre]; split <;> omega
    · exact (huW.mono (S' := S) (fun i _ e => by rw [e]; exact hSg)).trans hu2 (fun i _ h => h.1)
  have HF := Lib.hid hfin
  have HCC := Lib.hid hC
  have HB := Lib.hid hb
  have h16 := hl.few
  by_cases hg1 : 1 < D.armed
  · have hbW : Blk ((w.setCell ⟨g, 3, none⟩ (.int .i64 (D.armed - 1))).setCell ⟨g, 1, none⟩ (.int .i64 ((D.acts : Int) + 1))) g 123 #[.slice (some ⟨L, 0, none⟩) D.logs.length c, .int .i64 ((D.acts + 1 : Nat) : Int), .bool false, .int .i64 (D.armed - 1), kv] := by
      have := (hb.set 3 (.int .i64 (D.armed - 1))).set 1 (.int .i64 ((D.acts : Int) + 1))
      simpa [hd] using this
    have huW : Upd (fun k => k = g) w ((w.setCell ⟨g, 3, none⟩ (.int .i64 (D.armed - 1))).setCell ⟨g, 1, none⟩ (.int .i64 ((D.acts : Int) + 1))) := ((Upd.refl (fun k => k = g) _).set ⟨g, 3, none⟩ _ (fun _ => rfl)).set ⟨g, 1, none⟩ _ (fun _ => rfl)
    have HBW := Lib.hid hbW
    have HUW := Lib.hid huW
    have hq : (((w.setCell ⟨g, 3, none⟩ (.int .i64 (D.armed - 1))).setCell ⟨g, 1, none⟩ (.int .i64 ((D.acts : Int) + 1)))).cell? ⟨g, 0, none⟩ = some (.slice (some ⟨L, 0, none⟩) D.logs.length c) := hbW.cell 0 _ rfl
    clear hfin hC hb hl hk ho h hls hsm he hbW huW
    go_enter Try.func73, Try.ntmps73
    go_wp2_with fail
    refine H.out.mono ?_
    rintro e w1 ⟨rfl, rfl⟩
    rw [hh]
    go_wp2_with fail
    obtain ⟨hLW, hend⟩ := HF.out _ _ (by rw [if_pos hg1]) HBW.out HUW.out
    refine (HCC.out _ L v hLW HUW.out).mono ?_
    rintro e w2 ⟨rfl, v', hl2, hu2⟩
    have HE := Lib.hid (hend w2 v' hl2 hu2)
    clear hLW hend hl2 hu2
    go_wp2
    go_ret
    exact ⟨rfl, HE.out⟩
  · have hbW : Blk (w.setCell ⟨g, 1, none⟩ (.int .i64 ((D.acts : Int) + 1))) g 123 #[.slice (some ⟨L, 0, none⟩) D.logs.length c, .int .i64 ((D.acts + 1 : Nat) : Int), .bool false, .int .i64 D.armed, kv] := by
      have := hb.set 1 (.int .i64 ((D.acts : Int) + 1))
      simpa [hd] using this
    have huW : Upd (fun k => k = g) w (w.setCell ⟨g, 1, none⟩ (.int .i64 ((D.acts : Int) + 1))) := (Upd.refl (fun k => k = g) _).set ⟨g, 1, none⟩ _ (fun _ => rfl)
    have HBW := Lib.hid hbW
    have HUW := Lib.hid huW
    have hq : (w.setCell ⟨g, 1, none⟩ (.int .i64 ((D.acts : Int) + 1))).cell? ⟨g, 0, none⟩ = some (.slice (some ⟨L, 0, none⟩) D.logs.length c) := hbW.cell 0 _ rfl
    clear hfin hC hb hl hk ho h hls hsm he hbW huW
    go_enter Try.func73, Try.ntmps73
    go_wp2_with fail
    refine H.out.mono ?_
    rintro e w1 ⟨rfl, rfl⟩
    rw [hh]
    go_wp2_with fail
    obtain ⟨hLW, hend⟩ := HF.out _ _ (by rw [if_neg (by omega)]) HBW.out HUW.out
    refine (HCC.out _ L v hLW HUW.out).mono ?_
    rintro e w2 ⟨rfl, v', hl2, hu2⟩
    have HE := Lib.hid (hend w2 v' hl2 hu2)
    clear hLW hend hl2 hu2
    go_wp2
    go_ret
    exact ⟨rfl, HE.out⟩

set_option maxHeartbeats 2000000 in
set_option maxRecDepth 100000 in
theorem act_swap (g : Nat) (S : Nat → Prop) (D : DS) (i : Nat) (size : Int) (B : Nat) (ls' : List (List UInt8 × Nat)) (w : World) (h : IsDisk w S g D) (he : D.actErr (i : Int) size = 0) (hac : D.acts < 1000000000)
    (hls : ls'.length = D.logs.length) (hsm : ∀ j (h : j < ls'.length), ls'[j].1.length ≤ 4194304 ∧ ls'[j].2 ≤ ls'[j].1.length)
    (hC : ∀ w1 L v, LogsAt w1 S L D.logs v → Upd (fun k => k = g) w w1 → Calls Try.prog 78 #[.pointer (some ⟨L, i * 2, none⟩), .pointer (some ⟨B, 0, none⟩)] w1 fun e w2 => e = .returned (.tuple #[]) ∧ ∃ v', LogsAt w2 (fun k => S k ∨ w.heap.size ≤ k) L ls' v' ∧ Upd (fun k => S k ∧ (Typed w1 k 126 ∨ Typed w1 k 5)) w1 w2) :
    Calls Try.prog 73 #[.pointer (some ⟨g, 0, none⟩), .int .i64 (i : Int), .int .i64 size, .func (.func 78) #[] #[.pointer (some ⟨B, 0, none⟩)]] w fun e w' => e = .returned (.int .i64 0) ∧ IsDisk w' (fun k => S k ∨ w.heap.size ≤ k) g { D.pre with logs := ls' } ∧ Upd S w w' := by
  have H := Lib.hid (dhas_calls g S D i w h)
  have hh : D.has (i : Int) = true := by
    unfold DS.actErr at he
    split at he
    · assumption
    · cases he
  have hil : i < D.logs.length := by
    obtain ⟨j, e, hj⟩ := DS.has_iff.1 hh
    omega
  unfold DS.actErr at he
  rw [if_pos hh] at he
  have hd : D.down = false := by
    cases hd : D.down with
    | false => rfl
    | true => rw [hd] at he; simp at he
  rw [hd] at he
  simp only [Bool.false_eq_true, if_false] at he
  by_cases hs : 4194304 < size
  · rw [if_pos hs] at he; cases he
  rw [if_neg hs] at he
  by_cases ha : D.armed = 1
  · rw [if_pos ha] at he; cases he
  obtain ⟨L, c, v, kv, hb, hl, hk, ho⟩ := h.at_
  have hSg := h.foot
  have har := h.armed
  have h0 : w.cell? ⟨g, 0, none⟩ = some (.slice (some ⟨L, 0, none⟩) D.logs.length c) := hb.cell 0 _ rfl
  have h1 : w.cell? ⟨g, 1, none⟩ = some (.int .i64 (D.acts : Int)) := hb.cell 1 _ rfl
  have h2 : w.cell? ⟨g, 2, none⟩ = some (.bool false) := by rw [← hd]; exact hb.cell 2 _ rfl
  have h3 : w.cell? ⟨g, 3, none⟩ = some (.int .i64 D.armed) := hb.cell 3 _ rfl
  have f1 := hb.free 1 none
  have f3 := hb.free 3 none
  -- what is left behind the counts, and how it ends
  have hfin : ∀ (W : World) (ar : Int), ar = (if 1 < D.armed then D.armed - 1 else D.armed) → Blk W g 123 #[.slice (some ⟨L, 0, none⟩) D.logs.length c, .int .i64 ((D.acts + 1 : Nat) : Int), .bool false, .int .i64 ar, kv] → Upd (fun k => k = g) w W →
      LogsAt W S L D.logs v ∧ ∀ w2 v', LogsAt w2 (fun k => S k ∨ w.heap.size ≤ k) L ls' v' → Upd (fun k => S k ∧ (Typed W k 126 ∨ Typed W k 5)) W w2 →
        IsDisk w2 (fun k => S k ∨ w.heap.size ≤ k) g { D.pre with logs := ls' } ∧ Upd S w w2 := by
    intro W ar har' hbW huW
    have hkg : ∀ k, kv.ownBlock = some k → k ≠ g := fun k e => Typed.ne (hk.typed k e) hb.typed (by decide)
    have hkW : Row W 0 3 1 kv D.keep.length (ints D.keep) := hk.upd huW (fun k e _ => hkg k e)
    refine ⟨hl.same fun k hk2 hoo => huW.block k hk2 fun e => ?_, fun w2 v' hl2 hu2 => ⟨⟨⟨L, c, v', kv, ?_, hl2, hkW.upd hu2 (fun k e _ ht => ?_), fun k e => .inl (ho k e)⟩, .inl hSg, hsm, ?_⟩, ?_⟩⟩
    · subst e
      rcases hoo with ⟨h5, _⟩ | ⟨h5, _⟩
      · exact (Typed.ne h5 hb.typed (by decide)) rfl
      · exact (Typed.ne h5 hb.typed (by decide)) rfl
    · have := hbW.upd hu2 (fun ht => by
        rcases ht.2 with h5 | h5
        · exact (Typed.ne h5 hbW.typed (by decide)) rfl
        · exact (Typed.ne h5 hbW.typed (by decide)) rfl)
      rw [har'] at this
      simpa [DS.pre, hls, hd] using this
    · rcases ht.2 with h5 | h5
      · exact (Typed.ne h5 (hkW.typed k e) (by decide)) rfl
      · exact (Typed.ne h5 (hkW.typed k e) (by decide)) rfl
    · simp only [DS.pre]; split <;> omega
    · exact (huW.mono (S' := S) (fun i _ e => by rw [e]; exact hSg)).trans hu2 (fun i _ h => h.1)
  have HF := Lib.hid hfin
  have HCC := Lib.hid hC
  have HB := Lib.hid hb
  have h16 := hl.few
  by_cases hg1 : 1 < D.armed
  · have hbW : Blk ((w.setCell ⟨g, 3, none⟩ (.int .i64 (D.armed - 1))).setCell ⟨g, 1, none⟩ (.int .i64 ((D.acts : Int) + 1))) g 123 #[.slice (some ⟨L, 0, none⟩) D.logs.length c, .int .i64 ((D.acts + 1 : Nat) : Int), .bool false, .int .i64 (D.armed - 1), kv] := by
      have := (hb.set 3 (.int .i64 (D.armed - 1))).set 1 (.int .i64 ((D.acts : Int) + 1))
      simpa [hd] using this
    have huW : Upd (fun k => k = g) w ((w.setCell ⟨g, 3, none⟩ (.int .i64 (D.armed - 1))).setCell ⟨g, 1, none⟩ (.int .i64 ((D.acts : Int) + 1))) := ((Upd.refl (fun k => k = g) _).set ⟨g, 3, none⟩ _ (fun _ => rfl)).set ⟨g, 1, none⟩ _ (fun _ => rfl)
    have HBW := Lib.hid hbW
    have HUW := Lib.hid huW
    have hq : (((w.setCell ⟨g, 3, none⟩ (.int .i64 (D.armed - 1))).setCell ⟨g, 1, none⟩ (.int .i64 ((D.acts : Int) + 1)))).cell? ⟨g, 0, none⟩ = some (.slice (some ⟨L, 0, none⟩) D.logs.length c) := hbW.cell 0 _ rfl
    clear hfin hC hb hl hk ho h hls hsm he hbW huW
    go_enter Try.func73, Try.ntmps73
    go_wp2_with fail
    refine H.out.mono ?_
    rintro e w1 ⟨rfl, rfl⟩
    rw [hh]
    go_wp2_with fail
    obtain ⟨hLW, hend⟩ := HF.out _ _ (by rw [if_pos hg1]) HBW.out HUW.out
    refine (HCC.out _ L v hLW HUW.out).mono ?_
    rintro e w2 ⟨rfl, v', hl2, hu2⟩
    have HE := Lib.hid (hend w2 v' hl2 hu2)
    clear hLW hend hl2 hu2
    go_wp2
    go_ret
    exact ⟨rfl, HE.out⟩
  · have hbW : Blk (w.setCell ⟨g, 1, none⟩ (.int .i64 ((D.acts : Int) + 1))) g 123 #[.slice (some ⟨L, 0, none⟩) D.logs.length c, .int .i64 ((D.acts + 1 : Nat) : Int), .bool false, .int .i64 D.armed, kv] := by
      have := hb.set 1 (.int .i64 ((D.acts : Int) + 1))
      simpa [hd] using this
    have huW : Upd (fun k => k = g) w (w.setCell ⟨g, 1, none⟩ (.int .i64 ((D.acts : Int) + 1))) := (Upd.refl (fun k => k = g) _).set ⟨g, 1, none⟩ _ (fun _ => rfl)
    have HBW := Lib.hid hbW
    have HUW := Lib.hid huW
    have hq : (w.setCell ⟨g, 1, none⟩ (.int .i64 ((D.acts : Int) + 1))).cell? ⟨g, 0, none⟩ = some (.slice (some ⟨L, 0, none⟩) D.logs.length c) := hbW.cell 0 _ rfl
    clear hfin hC hb hl hk ho h hls hsm he hbW huW
    go_enter Try.func73, Try.ntmps73
    go_wp2_with fail
    refine H.out.mono ?_
    rintro e w1 ⟨rfl, rfl⟩
    rw [hh]
    go_wp2_with fail
    obtain ⟨hLW, hend⟩ := HF.out _ _ (by rw [if_neg (by omega)]) HBW.out HUW.out
    refine (HCC.out _ L v hLW HUW.out).mono ?_
    rintro e w2 ⟨rfl, v', hl2, hu2⟩
    have HE := Lib.hid (hend w2 v' hl2 hu2)
    clear hLW hend hl2 hu2
    go_wp2
    go_ret
    exact ⟨rfl, HE.out⟩

set_option maxHeartbeats 2000000 in
set_option maxRecDepth 100000 in
theorem act_sync (g : Nat) (S : Nat → Prop) (D : DS) (i : Nat) (size : Int) (ls' : List (List UInt8 × Nat)) (w : World) (h : IsDisk w S g D) (he : D.actErr (i : Int) size = 0) (hac : D.acts < 1000000000)
    (hls : ls'.length = D.logs.length) (hsm : ∀ j (h : j < ls'.length), ls'[j].1.length ≤ 4194304 ∧ ls'[j].2 ≤ ls'[j].1.length)
    (hC : ∀ w1 L v, LogsAt w1 S L D.logs v → Upd (fun k => k = g) w w1 → Calls Try.prog 79 #[.pointer (some ⟨L, i * 2, none⟩)] w1 fun e w2 => e = .returned (.tuple #[]) ∧ ∃ v', LogsAt w2 (fun k => S k ∨ w.heap.size ≤ k) L ls' v' ∧ Upd (fun k => S k ∧ (Typed w1 k 126 ∨ Typed w1 k 5)) w1 w2) :
    Calls Try.prog 73 #[.pointer (some ⟨g, 0, none⟩), .int .i64 (i : Int), .int .i64 size, .func (.func 79) #[] #[]] w fun e w' => e = .returned (.int .i64 0) ∧ IsDisk w' (fun k => S k ∨ w.heap.size ≤ k) g { D.pre with logs := ls' } ∧ Upd S w w' := by
  have H := Lib.hid (dhas_calls g S D i w h)
  have hh : D.has (i : Int) = true := by
    unfold DS.actErr at he
    split at he
    · assumption
    · cases he
  have hil : i < D.logs.length := by
    obtain ⟨j, e, hj⟩ := DS.has_iff.1 hh
    omega
  unfold DS.actErr at he
  rw [if_pos hh] at he
  have hd : D.down = false := by
    cases hd : D.down with
    | false => rfl
    | true => rw [hd] at he; simp at he
  rw [hd] at he
  simp only [Bool.false_eq_true, if_false] at he
  by_cases hs : 4194304 < size
  · rw [if_pos hs] at he; cases he
  rw [if_neg hs] at he
  by_cases ha : D.armed = 1
  · rw [if_pos ha] at he; cases he
  obtain ⟨L, c, v, kv, hb, hl, hk, ho⟩ := h.at_
  have hSg := h.foot
  have har := h.armed
  have h0 : w.cell? ⟨g, 0, none⟩ = some (.slice (some ⟨L, 0, none⟩) D.logs.length c) := hb.cell 0 _ rfl
  have h1 : w.cell? ⟨g, 1, none⟩ = some (.int .i64 (D.acts : Int)) := hb.cell 1 _ rfl
  have h2 : w.cell? ⟨g, 2, none⟩ = some (.bool false) := by rw [← hd]; exact hb.cell 2 _ rfl
  have h3 : w.cell? ⟨g, 3, none⟩ = some (.int .i64 D.armed) := hb.cell 3 _ rfl
  have f1 := hb.free 1 none
  have f3 := hb.free 3 none
  -- what is left behind the counts, and how it ends
  have hfin : ∀ (W : World) (ar : Int), ar = (if 1 < D.armed then D.armed - 1 else D.armed) → Blk W g 123 #[.slice (some ⟨L, 0, none⟩) D.logs.length c, .int .i64 ((D.acts + 1 : Nat) : Int), .bool false, .int .i64 ar, kv] → Upd (fun k => k = g) w W →
      LogsAt W S L D.logs v ∧ ∀ w2 v', LogsAt w2 (fun k => S k ∨ w.heap.size ≤ k) L ls' v' → Upd (fun k => S k ∧ (Typed W k 126 ∨ Typed W k 5)) W w2 →
        IsDisk w2 (fun k => S k ∨ w.heap.size ≤ k) g { D.pre with logs := ls' } ∧ Upd S w w2 := by
    intro W ar har' hbW huW
    have hkg : ∀ k, kv.ownBlock = some k → k ≠ g := fun k e => Typed.ne (hk.typed k e) hb.typed (by decide)
    have hkW : Row W 0 3 1 kv D.keep.length (ints D.keep) := hk.upd huW (fun k e _ => hkg k e)
    refine ⟨hl.same fun k hk2 hoo => huW.block k hk2 fun e => ?_, fun w2 v' hl2 hu2 => ⟨⟨⟨L, c, v', kv, ?_, hl2, hkW.upd hu2 (fun k e _ ht => ?_), fun k e => .inl (ho k e)⟩, .inl hSg, hsm, ?_⟩, ?_⟩⟩
    · subst e
      rcases hoo with ⟨h5, _⟩ | ⟨h5, _⟩
      · exact (Typed.ne h5 hb.typed (by decide)) rfl
      · exact (Typed.ne h5 hb.typed (by decide)) rfl
    · have := hbW.upd hu2 (fun ht => by
        rcases ht.2 with h5 | h5
        · exact (Typed.ne h5 hbW.typed (by decide)) rfl
        · exact (Typed.ne h5 hbW.typed (by decide)) rfl)
      rw [har'] at this
      simpa [DS.pre, hls, hd] using this
    · rcases ht.2 with h5 | h5
      · exact (Typed.ne h5 (hkW.typed k e) (by decide)) rfl
      · exact (Typed.ne h5 (hkW.typed k e) (by decide)) rfl
    · simp only [DS.pre]; split <;> omega
    · exact (huW.mono (S' := S) (fun i _ e => by rw [e]; exact hSg)).trans hu2 (fun i _ h => h.1)
  have HF := Lib.hid hfin
  have HCC := Lib.hid hC
  have HB := Lib.hid hb
  have h16 := hl.few
  by_cases hg1 : 1 < D.armed
  · have hbW : Blk ((w.setCell ⟨g, 3, none⟩ (.int .i64 (D.armed - 1))).setCell ⟨g, 1, none⟩ (.int .i64 ((D.acts : Int) + 1))) g 123 #[.slice (some ⟨L, 0, none⟩) D.logs.length c, .int .i64 ((D.acts + 1 : Nat) : Int), .bool false, .int .i64 (D.armed - 1), kv] := by
      have := (hb.set 3 (.int .i64 (D.armed - 1))).set 1 (.int .i64 ((D.acts : Int) + 1))
      simpa [hd] using this
    have huW : Upd (fun k => k = g) w ((w.setCell ⟨g, 3, none⟩ (.int .i64 (D.armed - 1))).setCell ⟨g, 1, none⟩ (.int .i64 ((D.acts : Int) + 1))) := ((Upd.refl (fun k => k = g) _).set ⟨g, 3, none⟩ _ (fun _ => rfl)).set ⟨g, 1, none⟩ _ (fun _ => rfl)
    have HBW := Lib.hid hbW
    have HUW := Lib.hid huW
    have hq : (((w.setCell ⟨g, 3, none⟩ (.int .i64 (D.armed - 1))).setCell ⟨g, 1, none⟩ (.int .i64 ((D.acts : Int) + 1)))).cell? ⟨g, 0, none⟩ = some (.slice (some ⟨L, 0, none⟩) D.logs.length c) := hbW.cell 0 _ rfl
    clear hfin hC hb hl hk ho h hls hsm he hbW huW
    go_enter Try.func73, Try.ntmps73
    go_wp2_with fail
    refine H.out.mono ?_
    rintro e w1 ⟨rfl, rfl⟩
    rw [hh]
    go_wp2_with fail
    obtain ⟨hLW, hend⟩ := HF.out _ _ (by rw [if_pos hg1]) HBW.out HUW.out
    refine (HCC.out _ L v hLW HUW.out).mono ?_
    rintro e w2 ⟨rfl, v', hl2, hu2⟩
    have HE := Lib.hid (hend w2 v' hl2 hu2)
    clear hLW hend hl2 hu2
    go_wp2
    go_ret
    exact ⟨rfl, HE.out⟩
  · have hbW : Blk (w.setCell ⟨g, 1, none⟩ (.int .i64 ((D.acts : Int) + 1))) g 123 #[.slice (some ⟨L, 0, none⟩) D.logs.length c, .int .i64 ((D.acts + 1 : Nat) : Int), .bool false, .int .i64 D.armed, kv] := by
      have := hb.set 1 (.int .i64 ((D.acts : Int) + 1))
      simpa [hd] using this
    have huW : Upd (fun k => k = g) w (w.setCell ⟨g, 1, none⟩ (.int .i64 ((D.acts : Int) + 1))) := (Upd.refl (fun k => k = g) _).set ⟨g, 1, none⟩ _ (fun _ => rfl)
    have HBW := Lib.hid hbW
    have HUW := Lib.hid huW
    have hq : (w.setCell ⟨g, 1, none⟩ (.int .i64 ((D.acts : Int) + 1))).cell? ⟨g, 0, none⟩ = some (.slice (some ⟨L, 0, none⟩) D.logs.length c) := hbW.cell 0 _ rfl
    clear hfin hC hb hl hk ho h hls hsm he hbW huW
    go_enter Try.func73, Try.ntmps73
    go_wp2_with fail
    refine H.out.mono ?_
    rintro e w1 ⟨rfl, rfl⟩
    rw [hh]
    go_wp2_with fail
    obtain ⟨hLW, hend⟩ := HF.out _ _ (by rw [if_neg (by omega)]) HBW.out HUW.out
    refine (HCC.out _ L v hLW HUW.out).mono ?_
    rintro e w2 ⟨rfl, v', hl2, hu2⟩
    have HE := Lib.hid (hend w2 v' hl2 hu2)
    clear hLW hend hl2 hu2
    go_wp2
    go_ret
    exact ⟨rfl, HE.out⟩
end Go.Proofs.Ytimjadjopemefaa
