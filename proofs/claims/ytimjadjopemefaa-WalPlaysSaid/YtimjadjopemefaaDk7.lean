/- The walks of what disk's acts do to a log; Append, Sync, Swap. -/
import Derived.Test.YtimjadjopemefaaDk6
import Derived.Deep.RegionLaw
set_option linter.unusedVariables false
set_option linter.unusedSimpArgs false
namespace Go.Proofs.Ytimjadjopemefaa
open Go.RowKit

/-- append to a row of one's own, as a step of a region that draws its order. -/
theorem step_append_row {P : Program} {w : World} {ops : Array Oper} {o : Oper} {a : Act} {K : Act → World → Prop} {Q : Exit → Act → World → Prop} {E : Prop} (hgd : o.guard = none) (s x : Operand) (t : TypeId)
    (ho : o.op = .call { callee := .builtin .append, args := #[s, x], argTypes := #[t, t] })
    (base : Nat) (e : TypeId) (z : Value) (size bytes : Nat) (ht : P.underlying t = some (.slice e))
    (hinfo : (P.info? e).map (fun i => (i.zero, i.size, i.bytes)) = some (some z, size, bytes)) (hzs : z.cells.size = size) (hsz : 0 < size)
    (v : Value) (n : Nat) (xs : List Value) (hs : a.eval s = v) (hown : Row w base e size v n xs)
    (A : Option Addr) (m c : Nat) (news : List Value) (hx : a.eval x = .slice A m c) (hl : news.length = m * size) (hnews : Cells w A news) (h1 : ∀ u ∈ news, u.oneCell' = true)
    (h63 : n + m ≤ maxLen) (hbytes : (n + m) * bytes ≤ 140737488355328) (hbase : base ≤ w.heap.size)
    (h : ∀ v' w', Row w' base e size v' (n + m) (xs ++ news) → w.grownBy w' v.ownBlock → (v'.ownBlock = v.ownBlock ∨ ∃ b, v'.ownBlock = some b ∧ w.heap.size ≤ b) → K (a.put o.dst v') w') :
    if Region.wanted o (yielded ops a.tmps) = true then Oper.wp P o a w K Q else E := by
  have hw : Region.wanted o (yielded ops a.tmps) = true := by simp [Region.wanted, hgd]
  rw [if_pos hw]
  obtain ⟨v', w', hr, h2, h3, h4⟩ := run_append_row (P := P) w base t o.type e z size bytes ht hinfo hzs hsz v n xs hown A m c news hl hnews h1 h63 hbytes hbase
  unfold Oper.wp execOp
  simp only [ho, resolve, invoke, builtin, Sem.run_bind, Sem.run_pure, Result.andThen_ok, List.map_toArray, List.map_cons, List.map_nil, hs, hx, hr]
  exact h v' w' h2 h3 h4
theorem LogsAt.drew {w : World} {S : Nat → Prop} {L : Nat} {ls : List (List UInt8 × Nat)} {v : Nat → Value} (h : LogsAt w S L ls v) : LogsAt w.drew S L ls v := h.below (bdrew (Below.refl _ _))
set_option maxHeartbeats 2000000 in
set_option maxRecDepth 100000 in
theorem app_clo (L i B : Nat) (S : Nat → Prop) (ls : List (List UInt8 × Nat)) (v : Nat → Value) (A : Option Addr) (c0 : Nat) (b : List UInt8) (w : World) (h : LogsAt w S L ls v) (hi : i < ls.length)
    (hBB : Blk w B 22 #[.slice A b.length c0]) (hA : Cells w A (byts b)) (hb : ls[i].1.length + b.length ≤ 4194304) :
    Calls Try.prog 74 #[.pointer (some ⟨L, i * 2, none⟩), .pointer (some ⟨B, 0, none⟩)] w fun e w2 => e = .returned (.tuple #[]) ∧ ∃ v', LogsAt w2 (fun k => S k ∨ w.heap.size ≤ k) L (ls.set i (ls[i].1 ++ b, ls[i].2)) v' ∧ Upd (fun k => S k ∧ (Typed w k 126 ∨ Typed w k 5)) w w2 := by
  obtain ⟨c0', c1⟩ := h.cells hi
  have hrow := h.row i hi
  obtain ⟨A1, cap1, hv, _, _, _, _⟩ := hrow.cells1
  rw [hv] at c0'
  have hfin : ∀ (W : World), W = w.drew → ∀ v' w', Row w' 0 5 1 v' (ls[i].1.length + b.length) (byts ls[i].1 ++ byts b) → W.grownBy w' (v i).ownBlock → (v'.ownBlock = (v i).ownBlock ∨ ∃ b, v'.ownBlock = some b ∧ W.heap.size ≤ b) →
      w'.cell? ⟨B, 0, none⟩ = some (.slice A b.length c0) ∧ w'.cell? ⟨L, i * 2, none⟩ = some (v i) ∧ w'.frozen? ⟨L, i * 2, none⟩ = false ∧ (∃ v2, LogsAt (w'.setCell ⟨L, i * 2, none⟩ v') (fun k => S k ∨ w.heap.size ≤ k) L (ls.set i (ls[i].1 ++ b, ls[i].2)) v2 ∧ Upd (fun k => S k ∧ (Typed w k 126 ∨ Typed w k 5)) w (w'.setCell ⟨L, i * 2, none⟩ v')) := by
    intro W eW v' w' r' g' o'
    subst eW
    obtain ⟨cs, hbk, hc⟩ := h.drew.blk
    have hbk' : Blk w' L 126 cs := hbk.kept g' (Ne.symm (h.ne hi))
    have hBB' : Blk w' B 22 #[.slice A b.length c0] := (hBB.below (bdrew (Below.refl _ _))).kept g' (fun e => (Typed.ne hBB.typed (hrow.typed B e.symm) (by decide)) rfl)
    refine ⟨hBB'.cell 0 _ rfl, hbk'.cell _ _ (hc i hi).1, hbk'.free _ none, _, h.drew.put0 hi g' (b' := ls[i].1 ++ b) (by rw [byts_append]; simpa using r') (o'.imp id id |> .inr), ?_⟩
    have u1 : Upd (fun k => S k ∧ (Typed w k 126 ∨ Typed w k 5)) w w.drew := Upd.of_below (bdrew (Below.refl _ _))
    exact (u1.trans (Upd.of_grown (S := fun k => S k ∧ (Typed w k 126 ∨ Typed w k 5)) g' (fun k hk _ => ⟨h.own i hi k hk, .inr (hrow.typed k hk)⟩)) (fun _ _ h => h)).set _ _ (fun _ => ⟨h.foot, .inl h.typed⟩)
  rw [hv] at hfin
  have HF := Lib.hid hfin
  have HR := Lib.hid (show Row w.drew 0 5 1 (.slice A1 ls[i].1.length cap1) ls[i].1.length (byts ls[i].1) by rw [← hv]; exact hrow.below (bdrew (Below.refl _ _)))
  have HA := Lib.hid (hA.below (bdrew (Below.refl _ _)))
  obtain ⟨N, hN⟩ : ∃ N, N = ls[i].1.length := ⟨_, rfl⟩
  rw [← hN] at c0' HR HF hb
  have hB := hBB.cell 0 _ rfl
  clear hfin hrow h hA hv c1 hN hBB
  go_enter Try.func74, Try.ntmps74
  go_wp2_with fail
  go_region_law ((refine step_append_row (by rfl) (.tmp 7) (.tmp 8) 22 (by rfl) 0 5 (.int .u8 0) 1 1 Try.underlying22 Try.inf5 rfl (by decide) (.slice A1 N cap1) N (byts ls[i].1) (by rfl) HR.out A b.length c0 (byts b) (by rfl) (by rw [byts_length]; omega) HA.out (byts_one b) (by simp only [maxLen]; omega) (by omega) (Nat.zero_le _) ?_; intro v' w' r' g' o'; obtain ⟨k9, k0, k1, k2⟩ := HF.out _ rfl v' w' r' g' o'; obtain ⟨A', c', rfl, _, _, _, _⟩ := r'.cells1; have K2 := Lib.hid k2; clear k2 r' g' o'))
  all_goals (try simp only [Exit.inBlock, Exit.then])
  all_goals (refine bodyPost_end (results_none rfl _ _ _) rfl ?_)
  all_goals (exact ⟨rfl, K2.out⟩)

set_option maxHeartbeats 2000000 in
set_option maxRecDepth 100000 in
theorem sync_clo (L i : Nat) (S : Nat → Prop) (ls : List (List UInt8 × Nat)) (v : Nat → Value) (w : World) (h : LogsAt w S L ls v) (hi : i < ls.length) (hb : ls[i].1.length ≤ 4194304) :
    Calls Try.prog 79 #[.pointer (some ⟨L, i * 2, none⟩)] w fun e w2 => e = .returned (.tuple #[]) ∧ ∃ v', LogsAt w2 S L (ls.set i (ls[i].1, ls[i].1.length)) v' ∧ Upd (fun k => S k ∧ (Typed w k 126 ∨ Typed w k 5)) w w2 := by
  obtain ⟨c0', c1⟩ := h.cells hi
  have hrow := h.row i hi
  obtain ⟨A1, cap1, hv, _, _, _, _⟩ := hrow.cells1
  rw [hv] at c0'
  have HL := Lib.hid (h.put1 hi ls[i].1.length)
  have HU := Lib.hid ((Upd.refl (fun k => S k ∧ (Typed w k 126 ∨ Typed w k 5)) w).set ⟨L, i * 2 + 1, none⟩ (.int .i64 (ls[i].1.length : Int)) (fun _ => ⟨h.foot, .inl h.typed⟩))
  have f1 := h.free (i * 2 + 1)
  clear h hrow hv
  go_enter Try.func79, Try.ntmps79
  go_wp2
  (try simp only [Exit.inBlock, Exit.then])
  refine bodyPost_end (results_none rfl _ _ _) rfl ?_
  exact ⟨rfl, v, HL.out, HU.out⟩
end Go.Proofs.Ytimjadjopemefaa
