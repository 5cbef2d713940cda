/- The walk of disk.Arm. -/
import Derived.Test.YtimjadjopemefaaDk4
import Derived.BigFrame
set_option linter.unusedVariables false
set_option linter.unusedSimpArgs false
namespace Go.Proofs.Ytimjadjopemefaa
open Go.RowKit

theorem Try.inf3 : (Try.prog.info? 3).map (fun i => (i.zero, i.size, i.bytes)) = some (some (.int .i64 0), 1, 8) := by kernel_rfl
theorem Try.zero3 (w : World) : (zeroValue 3).run Try.prog w = .ok (.int .i64 0) w := by kernel_rfl
theorem run_clear_row {w : World} {base : Nat} {v : Value} {n : Nat} {ks : List Int} (hr : Row w base 3 1 v n (ints ks)) :
    ∃ w' xs', (∀ ty, (Builtin.clear_ #[60] ty #[v]).run Try.prog w = .ok (.tuple #[]) w') ∧ Row w' base 3 1 v n xs' ∧ w.grownBy w' v.ownBlock := by
  rcases Nat.eq_zero_or_pos n with hn | hn
  · subst hn
    refine ⟨w, ints ks, fun ty => ?_, hr, World.grownBy.refl _ _⟩
    rcases hr.2 with ⟨rfl, _⟩ | ⟨g, cap, cur, rfl, _⟩
    · simp [Builtin.clear_, run_underlying Try.underlying60]
    · simp [Builtin.clear_, run_underlying Try.underlying60]
  · obtain ⟨g, cap, cur, rfl, hb, hB, h1, h2, hcs, ht⟩ := hr.blk hn
    have hz : (Builtin.zeroCells (Value.int .i64 0).cells n).toList = List.replicate n (.int .i64 0) := by
      simp [Builtin.zeroCells, Value.cells]
      apply List.ext_getElem
      · simp
      · intro i h1 h2
        simp [Nat.mod_one]
    have hst := run_storeCells_at Try.prog g 0 3 (List.replicate n (.int .i64 0)) 0 cur w hB (by simp; omega) (by intro u hu; rw [List.eq_of_mem_replicate hu]; rfl)
    simp only [Nat.zero_add, List.take_zero, List.nil_append, List.length_replicate] at hst
    obtain ⟨m, rfl⟩ : ∃ m, n = m + 1 := ⟨n - 1, by omega⟩
    refine ⟨w.setRow g (List.replicate (m + 1) (Value.int .i64 0) ++ cur.toList.drop (m + 1)).toArray, List.replicate (m + 1) (.int .i64 0), fun ty => by simp [Builtin.clear_, run_underlying Try.underlying60, Try.zero3, hz, hst], ⟨by simp, .inr ⟨g, cap, _, rfl, hb, setRow_heap w g _ _ 3 _ hB, h1, h2, ?_, ?_⟩⟩, ⟨rfl, rfl, rfl, by simp [World.setRow], fun k hk hne => setRow_other w g k _ (fun e => hne (by rw [e]; rfl))⟩⟩
    · simp; omega
    · simp
theorem Row.empty {w : World} {base : Nat} {e : TypeId} {size : Nat} {A : Option Addr} {n c : Nat} {xs : List Value} (h : Row w base e size (.slice A n c) n xs) : Row w base e size (.slice A 0 0) 0 [] := by
  refine ⟨by simp, ?_⟩
  rcases h.2 with ⟨h1, h2⟩ | ⟨g, cap, cur, e, hb, hg, h1, h2, h3, h4⟩
  · cases h1; exact .inl ⟨rfl, rfl⟩
  · cases e; exact .inr ⟨g, 0, cur, rfl, hb, hg, Nat.le_refl _, by simp [maxLen], by simp, by simp⟩

def DS.arm (D : DS) (n : Int) (ks : List Int) : DS := { D with armed := max n 0, keep := ks }
set_option maxHeartbeats 2000000 in
set_option maxRecDepth 100000 in
theorem darm_calls (g : Nat) (S : Nat → Prop) (D : DS) (n : Int) (A : Option Addr) (n0 c0 : Nat) (ks : List Int) (w : World) (h : IsDisk w S g D) (hn : n0 = ks.length) (hnw : n ≤ 9223372036854775807)
    (hA : Cells w A (ints ks)) (hout : ∀ ad, A = some ad → ¬ S ad.block) (hks : ks.length ≤ 1000000000) :
    Calls Try.prog 38 #[.pointer (some ⟨g, 0, none⟩), .int .i64 n, .slice A n0 c0] w fun e w' => e = .returned (.tuple #[]) ∧ IsDisk w' (fun i => S i ∨ w.heap.size ≤ i) g (D.arm n ks) ∧ Upd S w w' := by
  subst hn
  have hD := h.setArmed (max n 0) (by omega)
  have hu := upd_one (w := w) g 3 (.int .i64 (max n 0)) h.foot
  have hA1 := hA.upd hu (fun ad e _ => hout ad e)
  have hSg := h.foot
  have e1 : (if n < 0 then 0 else n) = max n 0 := by split <;> omega
  have HE1 := Lib.hid e1
  obtain ⟨L, c, v, kv, hb, hl, hk, ho⟩ := h.at_
  have h3 : w.cell? ⟨g, 3, none⟩ = some (.int .i64 D.armed) := hb.cell 3 _ rfl
  have f3 := hb.free 3 none
  clear e1 h hb hl hk ho
  obtain ⟨L, c, v, kv, hb, hl, hk, ho⟩ := hD.at_
  simp only at hb hl hk
  obtain ⟨K, kc, rfl, _, _, _, _⟩ := hk.cells1
  go_enter Try.func38, Try.ntmps38
  go_upto_region 1 with fail
  rw [HE1.out]
  have hu1 : Upd S w _ := hu
  have hsz : w.heap.size ≤ (w.setCell ⟨g, 3, none⟩ (.int .i64 (max n 0))).heap.size := hu.size
  generalize w.setCell ⟨g, 3, none⟩ (.int .i64 (max n 0)) = W1 at hD hu hu1 hA1 hb hl hk hsz ⊢
  obtain ⟨W2, xs2, hcl, r2, g2⟩ := run_clear_row hk
  have q4 : W1.cell? ⟨g, 4, none⟩ = some (.slice K D.keep.length kc) := hb.cell 4 _ rfl
  have hne : some g ≠ (Value.slice K D.keep.length kc).ownBlock := fun e => (Typed.ne hb.typed (hk.typed g e.symm) (by decide)) rfl
  have hb2 := hb.kept g2 hne
  have hl2 : LogsAt W2 S L D.logs v := hl.same fun i hi hoo => g2.block i hi fun e => by
    rcases hoo with ⟨h1, _⟩ | ⟨h1, _⟩
    · exact (Typed.ne h1 (hk.typed i e.symm) (by decide)) rfl
    · exact (Typed.ne h1 (hk.typed i e.symm) (by decide)) rfl
  have hu2 : Upd S w W2 := hu1.trans (Upd.of_grown (S := S) g2 (fun i hi _ => ho i hi)) (fun i _ h => h)
  have hA2 := hA1.grown g2 (.inr fun ad e e2 => hout ad e (ho _ e2.symm))
  have q5 : W2.cell? ⟨g, 4, none⟩ = some (.slice K D.keep.length kc) := hb2.cell 4 _ rfl
  have r3 := r2.empty
  have ho3 : (Value.slice K 0 0).ownBlock = (Value.slice K D.keep.length kc).ownBlock := by cases K <;> rfl
  have hty : ∀ k, (Value.slice K 0 0).ownBlock = some k → Typed W2 k 3 := fun k e => (r2.typed k (ho3.symm.trans e))
  have hD2 := Lib.hid (And.intro hb2 (And.intro hl2 (And.intro hu2 (And.intro ho (And.intro ho3 hty)))))
  have R3 := Lib.hid r3
  have HA2 := Lib.hid hA2
  have HARM := Lib.hid hD.small
  clear hD hu hu1 hA1 hb hl hk g2 r2 hne hb2 hl2 hu2 hA2 r3 ho3 hty hsz h3 f3 hA
  go_wp2_with (first | simp only [hcl] | with_reducible refine halt_dst 22 ?_)
  refine wpList_append_row rfl (.tmp 20) (.tmp 21) 60 rfl 0 3 (.int .i64 0) 1 8 Try.underlying60 Try.inf3 rfl (by decide) (.slice K 0 0) 0 [] rfl R3.out A ks.length c0 (ints ks) rfl (by rw [ints_length]; omega) HA2.out (ints_one ks) (by simp only [maxLen]; omega) (by omega) (Nat.zero_le _) ?_
  intro v' w' r' g' o'
  have hfin : w'.cell? ⟨g, 4, none⟩ = some (.slice K D.keep.length kc) ∧ w'.frozen? ⟨g, 4, none⟩ = false ∧ IsDisk (w'.setCell ⟨g, 4, none⟩ v') (fun i => S i ∨ w.heap.size ≤ i) g (D.arm n ks) ∧ Upd S w (w'.setCell ⟨g, 4, none⟩ v') := by
    obtain ⟨hb2, hl2, hu2, ho, ho3, hty⟩ := hD2.out
    have hne : some g ≠ (Value.slice K 0 0).ownBlock := fun e => (Typed.ne hb2.typed (hty g e.symm) (by decide)) rfl
    have hb3 := hb2.kept g' hne
    have hl3 : LogsAt w' S L D.logs v := hl2.same fun i hi hoo => g'.block i hi fun e => by
      rcases hoo with ⟨h1, _⟩ | ⟨h1, _⟩
      · exact (Typed.ne h1 (hty i e.symm) (by decide)) rfl
      · exact (Typed.ne h1 (hty i e.symm) (by decide)) rfl
    have hu3 : Upd S w w' := hu2.trans (Upd.of_grown (S := S) g' (fun i hi _ => ho i (ho3.symm.trans hi))) (fun i _ h => h)
    have hne2 : some g ≠ v'.ownBlock := by
      rcases o' with e | ⟨b, e, hb⟩
      · rw [e]; exact hne
      · rw [e]; intro e2; cases e2; have := hb2.lt; omega
    refine ⟨hb3.cell 4 _ rfl, hb3.free 4 none, ⟨⟨L, c, v, v', by simpa [DS.arm] using hb3.set 4 v', (hl3.mono (fun k h => .inl h)).kept (set_grown w' ⟨g, 4, none⟩ v') hb3.typed (by decide) (by decide), ?_, fun k hk => ?_⟩, .inl hSg, HARM.out, by simp only [DS.arm]; omega⟩, hu3.set _ _ (fun _ => hSg)⟩
    · have := r'.kept (set_grown w' ⟨g, 4, none⟩ v') (.inr (by simpa using Ne.symm hne2))
      simpa [DS.arm] using this
    · rcases o' with e | ⟨b, e, hb⟩
      · exact .inl (ho k (ho3.symm.trans (e.symm.trans hk)))
      · rw [e] at hk; cases hk; exact .inr (by have := hu2.size; omega)
  obtain ⟨k0, k1, k2, k3⟩ := hfin
  obtain ⟨A', c', rfl, _, _, _, _⟩ := r'.cells1
  simp only [Nat.zero_add] at k2 k3
  have K2 := Lib.hid k2
  have K3 := Lib.hid k3
  clear k2 k3 r' g' o' q4 q5 hcl
  go_wp2
  (try simp only [Exit.inBlock, Exit.then])
  refine bodyPost_end (results_none rfl _ _ _) rfl ?_
  exact ⟨rfl, K2.out, K3.out⟩
end Go.Proofs.Ytimjadjopemefaa
