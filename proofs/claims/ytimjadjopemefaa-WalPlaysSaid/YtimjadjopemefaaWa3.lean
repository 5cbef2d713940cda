/- The walk of wal's Fresh. -/
import Derived.Test.YtimjadjopemefaaWa2
set_option linter.unusedVariables false
set_option linter.unusedSimpArgs false
namespace Go.Proofs.Ytimjadjopemefaa
open Go.RowKit

/-- A slice of slices of bytes. -/
structure LCells (w : World) (A : Option Addr) (ls : List (List UInt8)) : Prop where
  get : ∀ k (hk : k < ls.length), ∃ ad B c, A = some ad ∧ w.cell? (ad.add k) = some (.slice B ls[k].length c) ∧ Cells w B (byts ls[k])
theorem LCells.below {w w' : World} {A : Option Addr} {ls : List (List UInt8)} (h : LCells w A ls) (hb : Below w.heap.size w w') : LCells w' A ls :=
  ⟨fun k hk => by
    obtain ⟨ad, B, c, e, h1, h2⟩ := h.get k hk
    exact ⟨ad, B, c, e, (hb.cell (World.block_lt_of_cell? w _ h1)).trans h1, h2.below hb⟩⟩
theorem LCells.nil (w : World) (A : Option Addr) : LCells w A [] := ⟨fun k hk => by simp at hk⟩
def WS.fre (V : WS) (E : Int) (n : Nat) : WS := { V with dead := V.dead || decide (E = 71), all := if E = 0 then n else V.all, sure := if E = 0 then n else V.sure }

set_option maxHeartbeats 1000000 in
theorem wfresh_dead (g gw : Nat) (V : WS) (A : Option Addr) (n c : Nat) (w : World) (h : Blk w gw 139 (wCells g V)) (hd : V.dead = true) :
    Calls Try.prog 60 #[.pointer (some ⟨gw, 0, none⟩), .slice A n c] w fun e w' => e = .returned (.int .i64 81) ∧ w = w' := by
  have c4 : w.cell? ⟨gw, 4, none⟩ = some (.bool V.dead) := h.cell 4 _ rfl
  rw [hd] at c4
  clear h hd
  go_enter Try.func60, Try.ntmps60
  go_wp2
  go_ret
  exact ⟨rfl, rfl⟩
/-- What Fresh leaves. -/
def Freshed (w0 w : World) (S : Nat → Prop) (g gw : Nat) (D : DS) (V : WS) (ls : List (List UInt8)) (e : Ending) (w' : World) : Prop :=
  (∀ l ∈ ls, l.length ≤ 65536) ∧ e = .returned (.int .i64 (D.actErr V.log ((framesOf ls).length : Int))) ∧ (∃ S', HW w0 w' S' g gw (D.swap V.log (framesOf ls)) (V.fre (D.actErr V.log ((framesOf ls).length : Int)) ls.length) ∧ GrewW S S' gw w w') ∨
  (∃ l ∈ ls, 65536 < l.length) ∧ e = .returned (.int .i64 30) ∧ Below w.heap.size w w'

set_option maxHeartbeats 4000000 in
set_option maxRecDepth 100000 in
theorem wfresh_calls {w0 w : World} {S : Nat → Prop} {g gw : Nat} {D : DS} {V : WS} (h : HW w0 w S g gw D V) (A : Option Addr) (n c : Nat) (ls : List (List UInt8)) (hn : n = ls.length) (hA : LCells w A ls) (hl : ls.length ≤ 1000) (hd : V.dead = false) (hac : D.acts < 1000000000) :
    Calls Try.prog 60 #[.pointer (some ⟨gw, 0, none⟩), .slice A n c] w (Freshed w0 w S g gw D V ls) := by
  subst hn
  have H := Lib.hid h
  have HA := Lib.hid hA
  have c4 : w.cell? ⟨gw, 4, none⟩ = some (.bool false) := by have := h.wal.cell 4 (.bool V.dead) rfl; rw [hd] at this; exact this
  have HAC := Lib.hid hac
  clear h hA hac
  go_enter Try.func60, Try.ntmps60
  go_wp2
  go_loopw [5, 17] (fun v i wr => ∃ k : Nat, k ≤ ls.length ∧ i = .int .i64 k ∧ (∀ l ∈ ls.take k, l.length ≤ 65536) ∧ ∃ B n c, v = .slice B n c ∧ n = (framesOf (ls.take k)).length ∧ Row wr w.heap.size 5 1 (.slice B n c) n (byts (framesOf (ls.take k))) ∧ Below w.heap.size w wr) (fun _ i _ => ls.length - (intOf i).toNat)
  case atStart => exact ⟨0, Nat.zero_le _, rfl, (fun l h => by simp at h), none, 0, 0, rfl, rfl, Row.nil _ _ _ _, Below.refl _ _⟩
  case round =>
    obtain ⟨k, hk, rfl, hsh, B, m, d, rfl, hm, hr, hb⟩ := hrel
    have HSH := Lib.hid hsh
    have HM := Lib.hid hm
    have HR := Lib.hid hr
    have HB := Lib.hid hb
    have hmb : m ≤ 65544000 := by
      have h1 := framesOf_len 65536 (ls.take k) hsh
      have h2 : (ls.take k).length ≤ 1000 := by simp; omega
      have h3 : (ls.take k).length * (8 + 65536) ≤ 1000 * (8 + 65536) := Nat.mul_le_mul_right _ h2
      omega
    have hbs := hb.size
    clear hsh hm hr hb c4
    by_cases hlt : k < ls.length
    · obtain ⟨ad, B1, c1, rfl, d0, hC⟩ := (HA.out.below HB.out).get k hlt
      obtain ⟨l, hle⟩ : ∃ l, l = ls[k] := ⟨_, rfl⟩
      rw [← hle] at d0 hC
      have HC := Lib.hid hC
      have HLE := Lib.hid hle
      have hll : l.length ≤ 9223372036854775807 := hC.len
      clear hC hle
      by_cases hlong : 65536 < l.length
      · go_wp2_with fail
        refine (seal_long B1 l.length c1 wr hlong hll).mono ?_
        rintro e w1 ⟨rfl, rfl⟩
        have HF := Lib.hid (show ∃ l ∈ ls, 65536 < l.length from ⟨l, by rw [HLE.out]; exact List.getElem_mem _, hlong⟩)
        clear hlong hll
        go_wp2
        go_ret
        exact .inr ⟨HF.out, rfl, HB.out⟩
      · have hshort : l.length ≤ 65536 := by omega
        go_wp2_with fail
        refine (seal_calls B1 l.length c1 l wr rfl HC.out hshort).mono ?_
        rintro e w1 ⟨v1, rfl, r1, b1⟩
        obtain ⟨B2, c2, rfl, _, _, hC2, _⟩ := r1.cells1
        have HR1 := Lib.hid (HR.out.below b1)
        have HC2 := Lib.hid hC2
        have HB1 := Lib.hid (HB.out.trans (b1.mono hbs))
        have hbs1 : w.heap.size ≤ w1.heap.size := Nat.le_trans hbs b1.size
        clear r1 b1 hC2 d0 HR HB
        go_wp2_with (with_reducible refine halt_dst 31 ?_)
        refine wpList_append_row rfl (.tmp 29) (.tmp 30) 22 rfl w.heap.size 5 (.int .u8 0) 1 1 Try.underlying22 Try.info5 rfl (by decide) (.slice B m d) m (byts (framesOf (ls.take k))) rfl HR1.out B2 (8 + l.length) c2 (byts (frameOf l)) rfl (by rw [byts_length, frameOf_length]; omega) HC2.out (byts_one _) (by simp only [maxLen]; omega) (by omega) hbs1 ?_
        intro v3 w3 r3 g3 o3
        have hB3 := HB1.out.grown g3 hbs1 (fun q hq => (HR1.out.lt q hq).1)
        rw [← byts_append] at r3
        have hfr : framesOf (ls.take k) ++ frameOf l = framesOf (ls.take (k + 1)) := by
          rw [List.take_succ_eq_append_getElem hlt, framesOf_push, ← HLE.out]
        rw [hfr] at r3
        have hm3 : m + (8 + l.length) = (framesOf (ls.take (k + 1))).length := by
          rw [← hfr, List.length_append, ← HM.out, frameOf_length]
        have hsh3 : ∀ x ∈ ls.take (k + 1), x.length ≤ 65536 := by
          intro x hx
          rw [List.take_succ_eq_append_getElem hlt, List.mem_append] at hx
          rcases hx with hx | hx
          · exact HSH.out x hx
          · simp only [List.mem_singleton] at hx
            rw [hx, ← HLE.out]; exact hshort
        have r3' := r3
        obtain ⟨A3, c3, rfl, _, _, _, _⟩ := r3.cells1
        obtain ⟨m3, hm3e⟩ : ∃ m3, m3 = m + (8 + l.length) := ⟨_, rfl⟩
        rw [← hm3e] at r3' hm3 ⊢
        have HR3 := Lib.hid r3'
        have HM3 := Lib.hid hm3
        have HB3 := Lib.hid hB3
        have HSH3 := Lib.hid hsh3
        clear r3 r3' hm3 hB3 hsh3 hfr g3 o3 hm3e
        go_wp2
        go_roundw
        case rel => exact ⟨k + 1, by omega, by go_num, HSH3.out, A3, m3, c3, rfl, HM3.out, HR3.out, HB3.out⟩
        case measure => simp [intOf]; omega
    · obtain rfl : k = ls.length := by omega
      have hall : ls.take ls.length = ls := List.take_of_length_le (Nat.le_refl _)
      have hr := HR.out
      have hm := HM.out
      have hsh := HSH.out
      rw [hall] at hr hm hsh
      obtain ⟨B', d', he, _, _, hC, hCo⟩ := hr.cells1
      cases he
      have b1d : Below w.heap.size w wr.drew := bdrew HB.out
      have h1 := H.out.later b1d
      obtain ⟨E, hE⟩ : ∃ E, E = D.actErr V.log ((framesOf ls).length : Int) := ⟨_, rfl⟩
      obtain ⟨D', hD'⟩ : ∃ D', D' = D.swap V.log (framesOf ls) := ⟨_, rfl⟩
      have hap := held_swap H.out.held b1d V.log B m d (framesOf ls) hm (hC.below (bdrew (Below.refl _ _))) (fun ad e => .inr (hCo ad e).1) HAC.out
      rw [← hE, ← hD'] at hap
      have HFIN := Lib.hid (show ∀ w' S', HW w0 w' S' g gw D' (V.fre E ls.length) → GrewW S S' gw w w' → Freshed w0 w S g gw D V ls (.returned (.int .i64 E)) w' from fun w' S' h1 h2 => .inl ⟨hsh, by rw [hE], S', by rw [← hE, ← hD']; exact h1, h2⟩)
      have HAP := Lib.hid hap
      have H1 := Lib.hid h1
      have B1 := Lib.hid b1d
      have c2 : wr.cell? ⟨gw, 2, none⟩ = some (.pointer (some ⟨g, 0, none⟩)) := h1.wal.cell 2 _ rfl
      have c3 : wr.cell? ⟨gw, 3, none⟩ = some (.int .i64 V.log) := h1.wal.cell 3 _ rfl
      have HMT := Lib.hid (fun W (hb : Blk W gw 139 (wCells g V)) => met_calls g gw V E W hb)
      clear hE hD' hap h1 b1d hr hm hsh hall hC hCo HR HM HSH HB
      go_upto_region 12 with fail
      go_region_held3 (fun W => W.cell? ⟨gw, 2, none⟩ = some (.pointer (some ⟨g, 0, none⟩)) ∧ W.cell? ⟨gw, 3, none⟩ = some (.int .i64 V.log)) (go_keep)
        (first
          | (go_at_call 47; (with_reducible refine Calls.mono HAP.out ?_); rintro e w2 ⟨rfl, S2, hd2, hg2⟩; have h2 := H1.out.disk hd2 hg2; have hb2 := h2.wal; have y2 : w2.cell? ⟨gw, 2, none⟩ = some (.pointer (some ⟨g, 0, none⟩)) := hb2.cell 2 _ rfl; have y3 : w2.cell? ⟨gw, 3, none⟩ = some (.int .i64 V.log) := hb2.cell 3 _ rfl)
          | (go_at_call 80; (with_reducible refine Calls.mono (HMT.out _ hb2) ?_); rintro e w3 ⟨rfl, hb3, hu3⟩; have z2 : w3.cell? ⟨gw, 2, none⟩ = some (.pointer (some ⟨g, 0, none⟩)) := hb3.cell 2 _ rfl; have z3 : w3.cell? ⟨gw, 3, none⟩ = some (.int .i64 V.log) := hb3.cell 3 _ rfl))
      all_goals
        have h3 := h2.turn hb3 hu3
        have g3 : GrewW S S2 gw w w3 := (GrewW.later B1.out).trans ((GrewW.of_grew hg2).trans (GrewW.turn hu3))
        have q0 : w3.cell? ⟨gw, 0, none⟩ = some (.int .i64 (V.all : Int)) := hb3.cell 0 _ rfl
        have q1 : w3.cell? ⟨gw, 1, none⟩ = some (.int .i64 (V.sure : Int)) := hb3.cell 1 _ rfl
        have f0 := hb3.free 0 none
        have f1 := hb3.free 1 none
        have HT := Lib.hid (show HW w0 ((w3.setCell ⟨gw, 0, none⟩ (.int .i64 (ls.length : Int))).setCell ⟨gw, 1, none⟩ (.int .i64 (ls.length : Int))) S2 g gw D' (V.fre 0 ls.length) ∧ GrewW S S2 gw w ((w3.setCell ⟨gw, 0, none⟩ (.int .i64 (ls.length : Int))).setCell ⟨gw, 1, none⟩ (.int .i64 (ls.length : Int))) ∨ E ≠ 0 from by
          by_cases he : E = 0
          · left
            have hu : Upd (fun k => k = gw) w3 ((w3.setCell ⟨gw, 0, none⟩ (.int .i64 (ls.length : Int))).setCell ⟨gw, 1, none⟩ (.int .i64 (ls.length : Int))) := ((Upd.refl (fun k => k = gw) w3).set ⟨gw, 0, none⟩ _ (fun _ => rfl)).set ⟨gw, 1, none⟩ _ (fun _ => rfl)
            refine ⟨h3.turn (V' := V.fre 0 ls.length) ?_ hu, g3.trans (GrewW.turn hu)⟩
            have := (hb3.set 0 (.int .i64 (ls.length : Int))).set 1 (.int .i64 (ls.length : Int))
            simpa [wCells, WS.fre, he] using this
          · exact .inr he)
        have H3 := Lib.hid h3
        have G3 := Lib.hid g3
        clear HAP HMT H1 hd2 hg2 h2 hb2 y2 y3 z2 z3 hb3 hu3 h3 g3 c2 c3
        by_cases he : E = 0
        · subst he
          go_wp2
          go_ret
          obtain ⟨t1, t2⟩ := HT.out.resolve_right (fun h => h rfl)
          exact HFIN.out _ S2 t1 t2
        · have heb : (E == 0) = false := by simpa using he
          have hV : V.fre E ls.length = { V with dead := V.dead || decide (E = 71) } := by simp [WS.fre, he]
          have HV := Lib.hid hV
          clear hV
          go_wp2
          go_ret
          exact HFIN.out _ S2 (by rw [HV.out]; exact H3.out) G3.out
end Go.Proofs.Ytimjadjopemefaa
