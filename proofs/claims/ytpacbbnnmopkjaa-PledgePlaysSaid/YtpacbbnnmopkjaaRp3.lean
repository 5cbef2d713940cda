/- The walk of moietyref16's with. -/
import Derived.Test.YtpacbbnnmopkjaaRp2
import Derived.Deep.RegionLaw
set_option linter.unusedVariables false
set_option linter.unusedSimpArgs false
namespace Go.Proofs.Ytpacbbnnmopkjaa
open Go.RowKit

/-- append to a row of one's own, as a step of a region that draws its order. -/
theorem step_append_row {P : Program} {w : World} {ops : Array Oper} {o : Oper} {a : Act} {K : Act → World → Prop} {Q : Exit → Act → World → Prop} {E : Prop} (hgd : o.guard = Option.none) (s x : Operand) (t : TypeId)
    (ho : o.op = .call { callee := .builtin .append, args := #[s, x], argTypes := #[t, t] })
    (base : Nat) (e : TypeId) (z : Value) (size bytes : Nat) (ht : P.underlying t = some (.slice e))
    (hinfo : (P.info? e).map (fun i => (i.zero, i.size, i.bytes)) = some (some z, size, bytes)) (hzs : z.cells.size = size) (hsz : 0 < size)
    (v : Value) (n : Nat) (xs : List Value) (hs : a.eval s = v) (hown : Row w base e size v n xs)
    (A : Option Addr) (m c : Nat) (news : List Value) (hx : a.eval x = .slice A m c) (hl : news.length = m * size) (hnews : Cells w A news) (h1 : ∀ u ∈ news, u.oneCell' = true)
    (h63 : n + m ≤ maxLen) (hbytes : (n + m) * bytes ≤ 140737488355328) (hbase : base ≤ w.heap.size)
    (h : ∀ v' w', Row w' base e size v' (n + m) (xs ++ news) → w.grownBy w' v.ownBlock → (v'.ownBlock = v.ownBlock ∨ ∃ b, v'.ownBlock = some b ∧ w.heap.size ≤ b) → K (a.put o.dst v') w') :
    if Region.wanted o (yielded ops a.tmps) = true then Oper.wp P o a w K Q else E := by
  have hw : Region.wanted o (yielded ops a.tmps) = true := by simp [Region.wanted, hgd]
  rw [if_pos hw]
  obtain ⟨v', w', hr, h2, h3, h4⟩ := run_append_row (P := P) w base t o.type e z size bytes ht hinfo hzs hsz v n xs hown A m c news hl hnews h1 h63 hbytes hbase
  unfold Oper.wp execOp
  simp only [ho, resolve, invoke, builtin, Sem.run_bind, Sem.run_pure, Result.andThen_ok, List.map_toArray, List.map_cons, List.map_nil, hs, hx, hr]
  exact h v' w' h2 h3 h4
theorem Try.info67 : (Try.prog.info? 67).map (fun i => (i.zero, i.size, i.bytes)) = some (some (.agg #[.int .i64 0, .bool false, .bool false, .int .i64 0]), 4, 24) := by kernel_rfl
theorem sds_one (l : List Sd) : ∀ u ∈ sds l, u.oneCell' = true := by
  intro u hu
  simp only [sds, List.mem_flatMap] at hu
  obtain ⟨s, _, hs⟩ := hu
  simp only [sd4, List.mem_cons, List.not_mem_nil, or_false] at hs
  rcases hs with rfl | rfl | rfl | rfl <;> rfl
theorem sds_snoc (l : List Sd) (s : Sd) : sds l ++ sd4 s = sds (l ++ [s]) := by simp [sds]

theorem results_pl {fn : Func} {tmps : Array Value} {W : World} {a : Tmp} {g : Nat} {y0 y1 y2 y3 y4 : Value} (hres : fn.results = #[.cell a 65]) (ha : tmps.getD a undef = .pointer (some ⟨g, 0, Option.none⟩))
    (c0 : W.cell? ⟨g, 0, Option.none⟩ = some y0) (c1 : W.cell? ⟨g, 1, Option.none⟩ = some y1) (c2 : W.cell? ⟨g, 2, Option.none⟩ = some y2) (c3 : W.cell? ⟨g, 3, Option.none⟩ = some y3) (c4 : W.cell? ⟨g, 4, Option.none⟩ = some y4) :
    (results fn tmps).run Try.prog W = .ok (.agg #[y0, y1, y2, y3, y4]) W := by
  have ha' : tmps[a]?.getD undef = .pointer (some ⟨g, 0, Option.none⟩) := by simpa using ha
  simp [results, hres, ha', c0, c1, c2, c3, c4, go_sem]
theorem five_sets {W : World} {b : Nat} {T : TypeId} {y0 y1 y2 y3 y4 : Value} (h : Blk W b T #[y0, y1, y2, y3, y4]) (z0 z1 z2 z3 z4 : Value) :
    Blk (((((W.setCell ⟨b, 0, Option.none⟩ z0).setCell ⟨b, 1, Option.none⟩ z1).setCell ⟨b, 2, Option.none⟩ z2).setCell ⟨b, 3, Option.none⟩ z3).setCell ⟨b, 4, Option.none⟩ z4) b T #[z0, z1, z2, z3, z4] ∧
    Upd (fun k => k = b) W (((((W.setCell ⟨b, 0, Option.none⟩ z0).setCell ⟨b, 1, Option.none⟩ z1).setCell ⟨b, 2, Option.none⟩ z2).setCell ⟨b, 3, Option.none⟩ z3).setCell ⟨b, 4, Option.none⟩ z4) :=
  ⟨by simpa using ((((h.set 0 z0).set 1 z1).set 2 z2).set 3 z3).set 4 z4, (((((Upd.refl (fun k => k = b) W).set ⟨b, 0, Option.none⟩ z0 (fun _ => rfl)).set ⟨b, 1, Option.none⟩ z1 (fun _ => rfl)).set ⟨b, 2, Option.none⟩ z2 (fun _ => rfl)).set ⟨b, 3, Option.none⟩ z3 (fun _ => rfl)).set ⟨b, 4, Option.none⟩ z4 (fun _ => rfl)⟩
/-- Where a pledge's five cells are laid into the result's box. -/
theorem with_end {w W0 w3 : World} {i f t n v5 : Value} {y0 y1 y2 y3 y4 : Value} {A3 : Option Addr} {cs : List Value} (hB0 : Below w.heap.size w W0) (n2 : Blk W0 w.heap.size 65 #[i, f, t, n, y4]) (n4 : Blk W0 (w.heap.size + 1 + 1) 65 #[y0, y1, y2, y3, Value.slice Option.none 0 0])
    (hB : Below W0.heap.size W0 w3) (hs : W0.heap.size = w.heap.size + 3) (hC : Cells w3 A3 cs) (ho : ∀ ad, A3 = some ad → W0.heap.size ≤ ad.block) :
    Blk (w3.setCell ⟨w.heap.size, 4, Option.none⟩ v5) w.heap.size 65 #[i, f, t, n, v5] ∧ Blk (w3.setCell ⟨w.heap.size, 4, Option.none⟩ v5) (w.heap.size + 1 + 1) 65 #[y0, y1, y2, y3, Value.slice Option.none 0 0] ∧
    (∀ W9, Upd (fun k => k = w.heap.size + 1 + 1) (w3.setCell ⟨w.heap.size, 4, Option.none⟩ v5) W9 → Cells W9 A3 cs ∧ Below w.heap.size w W9) := by
  have e2 := (n2.below hB).set 4 v5
  have hu : Upd (fun k => k = w.heap.size) w3 (w3.setCell ⟨w.heap.size, 4, Option.none⟩ v5) := (Upd.refl _ _).set _ _ (fun _ => rfl)
  have e4 := (n4.below hB).upd hu (by omega)
  refine ⟨by simpa using e2, e4, fun W9 h9 => ?_⟩
  refine ⟨(hC.upd hu (fun ad e _ h => by have := ho ad e; omega)).upd h9 (fun ad e _ h => by have := ho ad e; omega), ?_⟩
  have b3 : Below w.heap.size w w3 := hB0.trans (hB.mono hB0.size)
  have b4 : Below w.heap.size w (w3.setCell ⟨w.heap.size, 4, Option.none⟩ v5) := b3.trans (hu.below b3.size (fun j hj e => by omega))
  exact b4.trans (h9.below b4.size (fun j hj e => by omega))
/-- The first append: into a new row, from what lay there. -/
theorem with_one {w W0 : World} {ops : Array Oper} {o : Oper} {a : Act} {K : Act → World → Prop} {Q : Exit → Act → World → Prop} {E : Prop} {A : Option Addr} {c : Nat} {l : List Sd} {v0 : Value} (hgd : o.guard = Option.none)
    (ho : o.op = .call { callee := .builtin .append, args := #[.tmp 5, .tmp 7], argTypes := #[54, 54] })
    (hs : a.eval (.tmp 5) = v0) (hx : a.eval (.tmp 7) = .slice A l.length c) (hB : Below W0.heap.size W0 w) (hrow : Row w W0.heap.size 67 4 v0 0 []) (hA : Cells W0 A (sds l)) (hl : l.length ≤ 1000)
    (h : ∀ A2 c2 w2, Row w2 W0.heap.size 67 4 (.slice A2 l.length c2) l.length (sds l) → Below W0.heap.size W0 w2 → w.grownBy w2 v0.ownBlock → K (a.put o.dst (.slice A2 l.length c2)) w2) :
    if Region.wanted o (yielded ops a.tmps) = true then Oper.wp Try.prog o a w K Q else E := by
  refine step_append_row hgd (.tmp 5) (.tmp 7) 54 ho W0.heap.size 67 (.agg #[.int .i64 0, .bool false, .bool false, .int .i64 0]) 4 24 Try.underlying54 Try.info67 rfl (by decide) v0 0 [] hs hrow A l.length c (sds l) hx (sds_length l) (hA.below hB) (sds_one l) (by simp only [maxLen]; omega) (by omega) hB.size ?_
  intro v2 w2 r2 g2 _
  rw [List.nil_append, Nat.zero_add] at r2
  have B2 : Below W0.heap.size W0 w2 := hB.grown g2 hB.size (fun j hj => (hrow.lt j hj).1)
  have r2' := r2
  obtain ⟨A2, c2, rfl, _, _, _, _⟩ := r2.cells (by rw [sds_length]; omega)
  exact h A2 c2 w2 r2' B2 g2
/-- The second append. -/
theorem with_two {w W0 : World} {ops : Array Oper} {o : Oper} {a : Act} {K : Act → World → Prop} {Q : Exit → Act → World → Prop} {E : Prop} {A2 B : Option Addr} {c2 c : Nat} {l : List Sd} {s : Sd} (hgd : o.guard = Option.none)
    (ho : o.op = .call { callee := .builtin .append, args := #[.tmp 8, .tmp 10], argTypes := #[54, 54] })
    (hs : a.eval (.tmp 8) = .slice A2 l.length c2) (hx : a.eval (.tmp 10) = .slice B 1 c) (hB : Below W0.heap.size W0 w) (hrow : Row w W0.heap.size 67 4 (.slice A2 l.length c2) l.length (sds l)) (hC : Cells w B (sd4 s)) (hl : l.length ≤ 1000)
    (h : ∀ A3 c3 w3, Row w3 W0.heap.size 67 4 (.slice A3 (l.length + 1) c3) (l.length + 1) (sds (l ++ [s])) → Below W0.heap.size W0 w3 → K (a.put o.dst (.slice A3 (l.length + 1) c3)) w3) :
    if Region.wanted o (yielded ops a.tmps) = true then Oper.wp Try.prog o a w K Q else E := by
  refine step_append_row hgd (.tmp 8) (.tmp 10) 54 ho W0.heap.size 67 (.agg #[.int .i64 0, .bool false, .bool false, .int .i64 0]) 4 24 Try.underlying54 Try.info67 rfl (by decide) _ l.length (sds l) hs hrow B 1 c (sd4 s) hx rfl hC (by intro u hu; exact sds_one [s] u (by simpa [sds] using hu)) (by simp only [maxLen]; omega) (by omega) hB.size ?_
  intro v3 w3 r3 g3 _
  rw [sds_snoc] at r3
  have B3 : Below W0.heap.size W0 w3 := hB.grown g3 hB.size (fun j hj => (hrow.lt j hj).1)
  have r3' := r3
  obtain ⟨A3, c3, rfl, _, _, _, _⟩ := r3.cells (by rw [sds_length]; simp; omega)
  exact h A3 c3 w3 r3' B3
theorem lit_cells (w : World) (s : Sd) : Cells (w.alloc (.cells #[.int .i64 s.kind, .bool s.pays, .bool s.yes, .int .i64 s.t] 67)) (some ⟨w.heap.size, 0, Option.none⟩) (sd4 s) :=
  cells_new w #[.int .i64 s.kind, .bool s.pays, .bool s.yes, .int .i64 s.t] 67 (by simp)

set_option maxHeartbeats 4000000 in
set_option maxRecDepth 100000 in
theorem with_calls (i f t n : Int) (A : Option Addr) (m c : Nat) (l : List Sd) (s : Sd) (w : World) (hm : m = l.length) (hl : l.length ≤ 1000) (hA : Cells w A (sds l)) :
    Calls Try.prog 52 #[.agg #[.int .i64 i, .int .i64 f, .int .i64 t, .int .i64 n, .slice A m c], .agg #[.int .i64 s.kind, .bool s.pays, .bool s.yes, .int .i64 s.t]] w fun e w' => ∃ A' c', e = .returned (.agg #[.int .i64 i, .int .i64 f, .int .i64 t, .int .i64 n, .slice A' (l.length + 1) c']) ∧ Cells w' A' (sds (l ++ [s])) ∧ Below w.heap.size w w' ∧ ∀ ad, A' = some ad → w.heap.size ≤ ad.block := by
  subst hm
  obtain ⟨W0, hW0⟩ : ∃ W0, W0 = ((w.alloc (.cells #[.int .i64 i, .int .i64 f, .int .i64 t, .int .i64 n, .slice A l.length c] 65)).alloc (.cells #[.int .i64 s.kind, .bool s.pays, .bool s.yes, .int .i64 s.t] 67)).alloc (.cells #[.int .i64 0, .int .i64 0, .int .i64 0, .int .i64 0, .slice Option.none 0 0] 65) := ⟨_, rfl⟩
  have b0 : Below w.heap.size w W0 := by rw [hW0]; exact (((Below.refl _ _).alloc (Nat.le_refl _) _).alloc (by simp) _).alloc (by simp; omega) _
  have n2 : Blk W0 w.heap.size 65 #[.int .i64 i, .int .i64 f, .int .i64 t, .int .i64 n, .slice A l.length c] := by rw [hW0]; exact ((Blk.new w 65 _).below (pbelow_one _ _)).below (pbelow_one _ _)
  have n3 : Blk W0 (w.heap.size + 1) 67 #[.int .i64 s.kind, .bool s.pays, .bool s.yes, .int .i64 s.t] := by
    have := (Blk.new (w.alloc (.cells #[.int .i64 i, .int .i64 f, .int .i64 t, .int .i64 n, .slice A l.length c] 65)) 67 #[.int .i64 s.kind, .bool s.pays, .bool s.yes, .int .i64 s.t]).below (pbelow_one _ (.cells #[.int .i64 0, .int .i64 0, .int .i64 0, .int .i64 0, .slice Option.none 0 0] 65))
    rw [hW0]; simpa using this
  have n4 : Blk W0 (w.heap.size + 1 + 1) 65 #[.int .i64 0, .int .i64 0, .int .i64 0, .int .i64 0, .slice Option.none 0 0] := by
    have := Blk.new ((w.alloc (.cells #[.int .i64 i, .int .i64 f, .int .i64 t, .int .i64 n, .slice A l.length c] 65)).alloc (.cells #[.int .i64 s.kind, .bool s.pays, .bool s.yes, .int .i64 s.t] 67)) 65 #[.int .i64 0, .int .i64 0, .int .i64 0, .int .i64 0, .slice Option.none 0 0]
    rw [hW0]; simpa using this
  have hWs : W0.heap.size = w.heap.size + 3 := by rw [hW0]; simp
  have HA := Lib.hid (hA.below b0)
  have HW0 := Lib.hid hW0
  have B0 := Lib.hid b0
  have N2 := Lib.hid n2
  have N4 := Lib.hid n4
  have c4 : W0.cell? ⟨w.heap.size, 4, Option.none⟩ = some (.slice A l.length c) := n2.cell 4 _ rfl
  have k0 : W0.cell? ⟨w.heap.size + 1, 0, Option.none⟩ = some (.int .i64 s.kind) := n3.cell 0 _ rfl
  have k1 : W0.cell? ⟨w.heap.size + 1, 1, Option.none⟩ = some (.bool s.pays) := n3.cell 1 _ rfl
  have k2 : W0.cell? ⟨w.heap.size + 1, 2, Option.none⟩ = some (.bool s.yes) := n3.cell 2 _ rfl
  have k3 : W0.cell? ⟨w.heap.size + 1, 3, Option.none⟩ = some (.int .i64 s.t) := n3.cell 3 _ rfl
  have HWS := Lib.hid hWs
  have HL := Lib.hid hl
  -- the three orders of the new blocks
  have hnil : Below W0.heap.size W0 (W0.alloc (.cells #[] 67)).drew ∧ Row (W0.alloc (.cells #[] 67)).drew W0.heap.size 67 4 (.slice (some ⟨W0.heap.size, 0, Option.none⟩) 0 0) 0 [] :=
    ⟨pbelow_drew (pbelow_one _ _), (row_new W0 W0.heap.size 67 4 (Nat.le_refl _)).below (pbelow_drew (Below.refl _ _))⟩
  have hnil2 : Below W0.heap.size W0 ((W0.alloc (.cells #[] 67)).alloc (.cells #[.int .i64 s.kind, .bool s.pays, .bool s.yes, .int .i64 s.t] 67)).drew ∧ Row ((W0.alloc (.cells #[] 67)).alloc (.cells #[.int .i64 s.kind, .bool s.pays, .bool s.yes, .int .i64 s.t] 67)).drew W0.heap.size 67 4 (.slice (some ⟨W0.heap.size, 0, Option.none⟩) 0 0) 0 [] ∧ Cells ((W0.alloc (.cells #[] 67)).alloc (.cells #[.int .i64 s.kind, .bool s.pays, .bool s.yes, .int .i64 s.t] 67)).drew (some ⟨W0.heap.size + 1, 0, Option.none⟩) (sd4 s) :=
    ⟨pbelow_drew ((pbelow_one _ _).alloc (by simp) _), ((row_new W0 W0.heap.size 67 4 (Nat.le_refl _)).alloc _).below (pbelow_drew (Below.refl _ _)), by
      have := lit_cells (W0.alloc (.cells #[] 67)) s
      rw [World.size_alloc] at this
      exact this.below (pbelow_drew (Below.refl _ _))⟩
  have hnil3 : Below W0.heap.size W0 ((W0.alloc (.cells #[.int .i64 s.kind, .bool s.pays, .bool s.yes, .int .i64 s.t] 67)).alloc (.cells #[] 67)).drew ∧ Row ((W0.alloc (.cells #[.int .i64 s.kind, .bool s.pays, .bool s.yes, .int .i64 s.t] 67)).alloc (.cells #[] 67)).drew W0.heap.size 67 4 (.slice (some ⟨W0.heap.size + 1, 0, Option.none⟩) 0 0) 0 [] ∧ Cells ((W0.alloc (.cells #[.int .i64 s.kind, .bool s.pays, .bool s.yes, .int .i64 s.t] 67)).alloc (.cells #[] 67)).drew (some ⟨W0.heap.size, 0, Option.none⟩) (sd4 s) :=
    ⟨pbelow_drew ((pbelow_one _ _).alloc (by simp) _), by
      have := row_new (W0.alloc (.cells #[.int .i64 s.kind, .bool s.pays, .bool s.yes, .int .i64 s.t] 67)) W0.heap.size 67 4 (by simp)
      rw [World.size_alloc] at this
      exact this.below (pbelow_drew (Below.refl _ _)), ((lit_cells W0 s).alloc _).below (pbelow_drew (Below.refl _ _))⟩
  have HN1 := Lib.hid hnil
  have HN2 := Lib.hid hnil2
  have HN3 := Lib.hid hnil3
  -- what the boxes hold
  have HK := Lib.hid (show ∀ W, Below W0.heap.size W0 W → W.cell? ⟨w.heap.size + 1, 0, Option.none⟩ = some (.int .i64 s.kind) ∧ W.cell? ⟨w.heap.size + 1, 1, Option.none⟩ = some (.bool s.pays) ∧ W.cell? ⟨w.heap.size + 1, 2, Option.none⟩ = some (.bool s.yes) ∧ W.cell? ⟨w.heap.size + 1, 3, Option.none⟩ = some (.int .i64 s.t) ∧ W.frozen? ⟨w.heap.size, 4, Option.none⟩ = false ∧ W.cell? ⟨w.heap.size, 4, Option.none⟩ = some (.slice A l.length c) from fun W hb =>
    ⟨(n3.below hb).cell 0 _ rfl, (n3.below hb).cell 1 _ rfl, (n3.below hb).cell 2 _ rfl, (n3.below hb).cell 3 _ rfl, (n2.below hb).free 4 Option.none, (n2.below hb).cell 4 _ rfl⟩)
  have hz0 : w.heap.size < W0.heap.size := by omega
  have hz1 : w.heap.size + 1 < W0.heap.size := by omega
  clear hA b0 n2 n3 n4 hW0 hWs hl hnil hnil2 hnil3
  go_enter Try.func52, Try.ntmps52
  go_wp2_with fail
  rw [← HW0.out]
  go_region_law
    (first
      | ((refine with_one (W0 := W0) (A := A) (c := c) (l := l) (by rfl) (by rfl) (by rfl) (by rfl) HN1.out.1 HN1.out.2 HA.out HL.out ?_); intro A2 c2 w2 r2 B2 g2; obtain ⟨y0, y1, y2, y3, y4, y5⟩ := HK.out w2 B2; have LC := Lib.hid (lit_cells w2 s); have R2 := Lib.hid (r2.alloc (.cells #[.int .i64 s.kind, .bool s.pays, .bool s.yes, .int .i64 s.t] 67)); have BB2 := Lib.hid (B2.alloc B2.size (.cells #[.int .i64 s.kind, .bool s.pays, .bool s.yes, .int .i64 s.t] 67)); clear r2 B2 g2)
      | ((refine with_one (W0 := W0) (A := A) (c := c) (l := l) (by rfl) (by rfl) (by rfl) (by rfl) HN2.out.1 HN2.out.2.1 HA.out HL.out ?_); intro A2 c2 w2 r2 B2 g2; obtain ⟨y0, y1, y2, y3, y4, y5⟩ := HK.out w2 B2; have LC := Lib.hid (HN2.out.2.2.grown g2 (.inr (fun ad e => by cases e; simp [Value.ownBlock]))); have R2 := Lib.hid r2; have BB2 := Lib.hid B2; clear r2 B2 g2)
      | ((refine with_one (W0 := W0) (A := A) (c := c) (l := l) (by rfl) (by rfl) (by rfl) (by rfl) HN3.out.1 HN3.out.2.1 HA.out HL.out ?_); intro A2 c2 w2 r2 B2 g2; obtain ⟨y0, y1, y2, y3, y4, y5⟩ := HK.out w2 B2; have LC := Lib.hid (HN3.out.2.2.grown g2 (.inr (fun ad e => by cases e; simp [Value.ownBlock]))); have R2 := Lib.hid r2; have BB2 := Lib.hid B2; clear r2 B2 g2)
      | ((refine with_two (W0 := W0) (l := l) (s := s) (by rfl) (by rfl) (by rfl) (by rfl) BB2.out R2.out LC.out HL.out ?_); intro A3 c3 w3 r3 B3; obtain ⟨x0, x1, x2, x3, x4, x5⟩ := HK.out w3 B3; have R3 := Lib.hid r3; have BB3 := Lib.hid B3; clear r3 B3))
  all_goals
    have r3' := R3.out
    obtain ⟨A4, c4', he, _, _, hC, ho⟩ := r3'.cells (by rw [sds_length]; have := HL.out; simp; omega)
    cases he
    obtain ⟨E2, E4, E9⟩ := with_end (v5 := .slice A3 (l.length + 1) c3) B0.out N2.out N4.out BB3.out HWS.out hC (fun ad e => (ho ad e).1)
    have HC9 := Lib.hid E9
    have HO := Lib.hid (show ∀ ad, A3 = some ad → w.heap.size ≤ ad.block from fun ad e => by have := (ho ad e).1; have := HWS.out; omega)
    have HE4 := Lib.hid E4
    have q0 := E2.cell 0 _ rfl
    have q1 := E2.cell 1 _ rfl
    have q2 := E2.cell 2 _ rfl
    have q3 := E2.cell 3 _ rfl
    have q4 := E2.cell 4 _ rfl
    have p0 := E4.cell 0 _ rfl
    have p1 := E4.cell 1 _ rfl
    have p2 := E4.cell 2 _ rfl
    have p3 := E4.cell 3 _ rfl
    have p4 := E4.cell 4 _ rfl
    have g0 := E4.free 0 Option.none
    have g1 := E4.free 1 Option.none
    have g2' := E4.free 2 Option.none
    have g3 := E4.free 3 Option.none
    have g4 := E4.free 4 Option.none
    simp only [List.getElem_toArray, List.getElem_cons_zero, List.getElem_cons_succ] at q0 q1 q2 q3 q4 p0 p1 p2 p3 p4
    clear R3 BB3 R2 BB2 LC x0 x1 x2 x3 x4 x5 HN1 HN2 HN3 HK r3' hC ho E2 E4 E9 c4 k0 k1 k2 k3 HWS N2 N4 HW0 HA y0 y1 y2 y3 y4 y5
    go_wp2_with fail
    try simp only [Exit.inBlock, Exit.then]
    obtain ⟨E10, U10⟩ := five_sets HE4.out (.int .i64 i) (.int .i64 f) (.int .i64 t) (.int .i64 n) (.slice A3 (l.length + 1) c3)
    obtain ⟨z1, z2⟩ := HC9.out _ U10
    refine bodyPost_ret (results_pl rfl rfl (E10.cell 0 _ rfl) (E10.cell 1 _ rfl) (E10.cell 2 _ rfl) (E10.cell 3 _ rfl) (E10.cell 4 _ rfl)) rfl ?_
    exact ⟨A3, c3, rfl, z1, z2, HO.out⟩
end Go.Proofs.Ytpacbbnnmopkjaa
