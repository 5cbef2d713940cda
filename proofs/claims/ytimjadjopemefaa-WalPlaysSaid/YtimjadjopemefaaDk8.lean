/- The walk of what disk's Swap does to a log; Append, Sync, Swap. -/
import Derived.Test.YtimjadjopemefaaDk7
set_option linter.unusedVariables false
set_option linter.unusedSimpArgs false
namespace Go.Proofs.Ytimjadjopemefaa
open Go.RowKit

/-- copy onto a row of one's own, as a step of a region that draws its order. -/
theorem step_copy_row {P : Program} {w : World} {ops : Array Oper} {o : Oper} {a : Act} {K : Act → World → Prop} {Q : Exit → Act → World → Prop} {E : Prop} (hgd : o.guard = none) (d s : Operand) (dT sT : TypeId)
    (ho : o.op = .call { callee := .builtin .copy, args := #[d, s], argTypes := #[dT, sT] }) (e : TypeId) (z : Value) (size bytes : Nat) (hu : P.underlying dT = some (.slice e))
    (hinfo : (P.info? e).map (fun i => (i.zero, i.size, i.bytes)) = some (some z, size, bytes)) (hsz : 0 < size)
    (g dCap : Nat) (A : Option Addr) (n sCap base : Nat) (cs xs : List Value) (hd : a.eval d = .slice (some ⟨g, 0, none⟩) n dCap) (hs : a.eval s = .slice A n sCap)
    (hr : Row w base e size (.slice (some ⟨g, 0, none⟩) n dCap) n xs) (hn : cs.length = n * size) (hsrc : Cells w A cs) (h1 : ∀ v ∈ cs, v.oneCell' = true)
    (h : ∀ w', Row w' base e size (.slice (some ⟨g, 0, none⟩) n dCap) n cs → w.grownBy w' (some g) → K (a.put o.dst (goInt n)) w') :
    if Region.wanted o (yielded ops a.tmps) = true then Oper.wp P o a w K Q else E := by
  have hw : Region.wanted o (yielded ops a.tmps) = true := by simp [Region.wanted, hgd]
  rw [if_pos hw]
  obtain ⟨i, hi, hz, rfl, rfl⟩ := info_parts hinfo
  rcases hr.2 with ⟨e1, _⟩ | ⟨g', cap, cur, e1, hb, hg, hnc, hcm, hcs, ht⟩
  · cases e1
  simp only [Value.slice.injEq, Option.some.injEq, Addr.mk.injEq, and_true, true_and] at e1
  obtain ⟨rfl, rfl⟩ := e1
  have hfit : cs.length ≤ cur.size := by rw [hn]; exact Nat.le_trans (Nat.mul_le_mul_right _ hnc) hcs
  have hrun := run_copy_rows (P := P) w dT sT o.type e g dCap A n sCap i.size cur e cs hu (by simp [hi]) hsz hg hn hsrc hfit h1
  unfold Oper.wp
  simp [execOp, ho, resolve, invoke, builtin, hd, hs, hrun, Result.andThen]
  refine h _ ⟨hn, .inr ⟨g, dCap, _, rfl, hb, setRow_heap w g _ _ e _ hg, hnc, hcm, ?_, ?_⟩⟩ ⟨rfl, rfl, rfl, by simp [World.setRow], fun k hk hne => setRow_other w g k _ (fun e => hne (by rw [e]))⟩
  · simp; omega
  · rw [← hn]; exact List.take_left

set_option maxHeartbeats 2000000 in
set_option maxRecDepth 100000 in
theorem swap_clo (L i B : Nat) (S : Nat → Prop) (ls : List (List UInt8 × Nat)) (v : Nat → Value) (A : Option Addr) (c0 : Nat) (b : List UInt8) (w : World) (h : LogsAt w S L ls v) (hi : i < ls.length)
    (hBB : Blk w B 22 #[.slice A b.length c0]) (hA : Cells w A (byts b)) (hout : ∀ ad, A = some ad → ¬ S ad.block) (hb : b.length ≤ 4194304) :
    Calls Try.prog 78 #[.pointer (some ⟨L, i * 2, none⟩), .pointer (some ⟨B, 0, none⟩)] w fun e w2 => e = .returned (.tuple #[]) ∧ ∃ v', LogsAt w2 (fun k => S k ∨ w.heap.size ≤ k) L (ls.set i (b, b.length)) v' ∧ Upd (fun k => S k ∧ (Typed w k 126 ∨ Typed w k 5)) w w2 := by
  obtain ⟨c0', c1⟩ := h.cells hi
  obtain ⟨A1, cap1, hv, _, _, _, _⟩ := (h.row i hi).cells1
  rw [hv] at c0'
  have f0 := h.free (i * 2)
  have hB := hBB.cell 0 _ rfl
  have H := Lib.hid h
  have HBB := Lib.hid hBB
  have HA := Lib.hid hA
  have hLl := h.lt
  clear h hBB hA
  go_enter Try.func78, Try.ntmps78
  go_wp2_with (with_reducible refine halt_dst 6 ?_)
  refine wpList_maken rfl _ _ 22 rfl w.heap.size 5 (.int .u8 0) 1 1 Try.underlying22 Try.inf5 .i64 .i64 _ _ b.length rfl rfl rfl rfl (by omega) (by simp only [maxLen]; omega) (Nat.le_refl _) ?_
  intro w5 r5 b5 _
  rw [made_u8] at r5
  have hl6 := H.out.put0 hi (grown_of_below b5 _) (v' := .slice (some ⟨w.heap.size, 0, none⟩) b.length b.length) (b' := List.replicate b.length 0) (by simpa using r5.mono (Nat.zero_le _)) (.inr (.inr ⟨_, rfl, Nat.le_refl _⟩))
  have hne : w.heap.size ≠ L := by omega
  have r6 := r5.kept (set_grown w5 ⟨L, i * 2, none⟩ (.slice (some ⟨w.heap.size, 0, none⟩) b.length b.length)) (.inr (by simpa [Value.ownBlock] using hne))
  have u6 : Upd (fun k => S k ∧ (Typed w k 126 ∨ Typed w k 5)) w (w5.setCell ⟨L, i * 2, none⟩ (.slice (some ⟨w.heap.size, 0, none⟩) b.length b.length)) := (Upd.of_below b5).set _ _ (fun _ => ⟨H.out.foot, .inl H.out.typed⟩)
  have hB6 := HBB.out.upd (S := fun k => S k ∧ (Typed w k 126 ∨ Typed w k 5)) u6 (fun ht => by
    rcases ht.2 with h5 | h5
    · exact (Typed.ne h5 HBB.out.typed (by decide)) rfl
    · exact (Typed.ne h5 HBB.out.typed (by decide)) rfl)
  have c5 := (b5.cell (p := ⟨L, i * 2, none⟩) hLl).trans c0'
  have f5 := (H.out.below b5).free (i * 2)
  have hA6 := HA.out.upd u6 (fun ad e _ ht => hout ad e ht.1)
  obtain ⟨W6, hW6⟩ : ∃ W6, W6 = w5.setCell ⟨L, i * 2, none⟩ (.slice (some ⟨w.heap.size, 0, none⟩) b.length b.length) := ⟨_, rfl⟩
  rw [← hW6] at hl6 r6 u6 hB6 hA6
  have hi6 : i < (ls.set i (List.replicate b.length (0 : UInt8), ls[i].2)).length := by simpa using hi
  have hfin : ∀ w7, Row w7 w.heap.size 5 1 (.slice (some ⟨w.heap.size, 0, none⟩) b.length b.length) b.length (byts b) → W6.drew.grownBy w7 (some w.heap.size) →
      (w7.cell? ⟨L, i * 2 + 1, none⟩).isSome = true ∧ w7.frozen? ⟨L, i * 2 + 1, none⟩ = false ∧ ∃ v2, LogsAt (w7.setCell ⟨L, i * 2 + 1, none⟩ (.int .i64 (b.length : Int))) (fun k => S k ∨ w.heap.size ≤ k) L (ls.set i (b, b.length)) v2 ∧ Upd (fun k => S k ∧ (Typed w k 126 ∨ Typed w k 5)) w (w7.setCell ⟨L, i * 2 + 1, none⟩ (.int .i64 (b.length : Int))) := by
    intro w7 r7 g7
    have h7 := hl6.drew.rewrite hi6 (b' := b) (w1 := w7) (by simpa [Value.ownBlock] using g7) (by simpa using r7.mono (Nat.zero_le _))
    have hi7 : i < ((ls.set i (List.replicate b.length (0 : UInt8), ls[i].2)).set i (b, ((ls.set i (List.replicate b.length (0 : UInt8), ls[i].2))[i]'hi6).2)).length := by simpa using hi
    have h8 := h7.put1 hi7 b.length
    have hc := (h7.cells hi7).2
    have e : (((ls.set i (List.replicate b.length (0 : UInt8), ls[i].2)).set i (b, ((ls.set i (List.replicate b.length (0 : UInt8), ls[i].2))[i]'hi6).2)).set i ((((ls.set i (List.replicate b.length (0 : UInt8), ls[i].2)).set i (b, ((ls.set i (List.replicate b.length (0 : UInt8), ls[i].2))[i]'hi6).2))[i]'hi7).1, b.length)) = ls.set i (b, b.length) := by simp [List.set_set]
    rw [e] at h8
    refine ⟨by rw [hc]; rfl, h7.free _, _, h8, ?_⟩
    have u7 : Upd (fun k => S k ∧ (Typed w k 126 ∨ Typed w k 5)) w W6.drew := u6.trans (S' := fun _ => False) (Upd.of_below (bdrew (Below.refl _ _))) (fun _ _ h => h.elim)
    exact (u7.trans (Upd.of_grown (S := fun k => w.heap.size ≤ k) g7 (fun k hk _ => by cases hk; exact Nat.le_refl _)) (fun k hk h => by omega)).set _ _ (fun _ => ⟨H.out.foot, .inl H.out.typed⟩)
  have HF := Lib.hid hfin
  have HR := Lib.hid (r6.below (bdrew (Below.refl _ _)))
  have HA6 := Lib.hid (hA6.below (bdrew (Below.refl _ _)))
  have q0 : W6.cell? ⟨L, i * 2, none⟩ = some (.slice (some ⟨w.heap.size, 0, none⟩) b.length b.length) := by simpa using (hl6.cells hi6).1
  have q1 : W6.cell? ⟨B, 0, none⟩ = some (.slice A b.length c0) := hB6.cell 0 _ rfl
  have hB5 : w5.cell? ⟨B, 0, none⟩ = some (.slice A b.length c0) := (HBB.out.below b5).cell 0 _ rfl
  have hnB : B ≠ L := Typed.ne HBB.out.typed H.out.typed (by decide)
  clear hfin hl6 r6 u6 hB6 hA6 r5 b5 hB c0' f0 hi6 hne hv c1
  go_upto_region 1 with fail
  rw [← hW6]
  clear hW6 hB5 c5 f5
  go_region_law ((refine step_copy_row (by rfl) (.tmp 13) (.tmp 14) 22 22 (by rfl) 5 (.int .u8 0) 1 1 Try.underlying22 Try.inf5 (by decide) w.heap.size b.length A b.length c0 w.heap.size (byts b) _ (by rfl) (by rfl) HR.out (by rw [byts_length]; omega) HA6.out (byts_one b) ?_; intro w7 r7 g7; obtain ⟨k0, k1, k2⟩ := HF.out w7 r7 g7; obtain ⟨cv, k3⟩ := Option.isSome_iff_exists.1 k0; have K2 := Lib.hid k2; clear k0 k2 r7 g7))
  all_goals (try simp only [Exit.inBlock, Exit.then])
  all_goals (refine bodyPost_end (results_none rfl _ _ _) rfl ?_)
  all_goals (exact ⟨rfl, K2.out⟩)
end Go.Proofs.Ytimjadjopemefaa
