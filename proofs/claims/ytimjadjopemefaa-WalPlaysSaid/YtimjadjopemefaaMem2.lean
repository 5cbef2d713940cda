/- Memory, second part: strings as lists of bytes, conversions between strings and bytes, literals that are appended, make. -/
import Derived.Test.YtimjadjopemefaaMem
import Derived.Laws.Concat
import Derived.Lib.Strings
set_option linter.unusedVariables false
set_option linter.unusedSimpArgs false
namespace Go.Proofs.Ytimjadjopemefaa
open Go.RowKit

/-! ### Strings -/
def str (l : List UInt8) : ByteArray := ⟨l.toArray⟩
theorem str_size (l : List UInt8) : (str l).size = l.length := by simp [str, ByteArray.size]
theorem str_toList (l : List UInt8) : (str l).toList = l := by simp [str]
theorem str_data (l : List UInt8) : (str l).data.toList = l := by simp [str]
theorem str_extract (l : List UInt8) (a b : Nat) : (str l).extract a b = str ((l.drop a).take (b - a)) := ByteArray.extract_mk l a b
theorem str_append (l m : List UInt8) : str l ++ str m = str (l ++ m) := ByteArray.mk_append_mk l m
theorem str_all (s : ByteArray) : ∃ l, s = str l := ⟨s.data.toList, by simp [str]⟩
theorem str_get (l : List UInt8) (i : Nat) (h : i < (str l).size) : (str l)[i] = l[i]'(by rwa [str_size] at h) := by
  show l.toArray[i]'(by rw [str_size] at h; simpa using h) = _
  simp
theorem str_inj {l m : List UInt8} (h : str l = str m) : l = m := by
  have := congrArg (fun s => s.data.toList) h
  simpa [str] using this

/-- A block whose head are these bytes; it may be written there. -/
structure Bytes (w : World) (g : Nat) (l : List UInt8) : Prop where
  holds : ∃ cur fr, w.heap[g]? = some (.cells cur 5 fr) ∧ l.length ≤ cur.size ∧ cur.toList.take l.length = byts l ∧ ∀ j, j < l.length → ¬ (fr.1 ≤ j ∧ j < fr.2)

theorem Bytes.lt {w : World} {g : Nat} {l : List UInt8} (h : Bytes w g l) : g < w.heap.size := by
  obtain ⟨cur, fr, hh, _⟩ := h.holds
  exact (Array.getElem?_eq_some_iff.1 hh).1
theorem Bytes.kept {w w' : World} {g : Nat} {l : List UInt8} (h : Bytes w g l) (he : w'.heap[g]? = w.heap[g]?) : Bytes w' g l := by
  obtain ⟨cur, fr, hh, r⟩ := h.holds
  exact ⟨cur, fr, he.trans hh, r⟩
theorem Bytes.cell {w : World} {g : Nat} {l : List UInt8} (h : Bytes w g l) (j : Nat) (hj : j < l.length) : w.cell? ⟨g, j, none⟩ = some (.int .u8 (l[j].toNat : Int)) := by
  obtain ⟨cur, fr, hh, hs, ht, _⟩ := h.holds
  rw [cell_of_row w g j cur 5 fr hh]
  have := congrArg (fun t => t[j]?) ht
  simp only [List.getElem?_take, hj, if_true, byts, List.getElem?_map] at this
  simpa [hj, byt] using this
theorem Bytes.free {w : World} {g : Nat} {l : List UInt8} (h : Bytes w g l) (j : Nat) (hj : j < l.length) : w.frozen? ⟨g, j, none⟩ = false := by
  obtain ⟨cur, fr, hh, hs, ht, hf⟩ := h.holds
  have := hf j hj
  simp only [World.frozen?, hh, Bool.and_eq_false_iff, decide_eq_false_iff_not]
  omega
theorem Bytes.cells {w : World} {g : Nat} {l : List UInt8} (h : Bytes w g l) (hl : l.length ≤ 9223372036854775807) : Cells w (some ⟨g, 0, none⟩) (byts l) := by
  refine ⟨fun j v hj => ⟨_, rfl, ?_⟩, by rwa [byts_length]⟩
  have hadd : (⟨g, 0, none⟩ : Addr).add j = ⟨g, j, none⟩ := by unfold Addr.add; split <;> simp_all
  simp only [byts, List.getElem?_map, Option.map_eq_some_iff] at hj
  obtain ⟨b, hb, rfl⟩ := hj
  obtain ⟨hlt, rfl⟩ := List.getElem?_eq_some_iff.1 hb
  rw [hadd, h.cell j hlt]; rfl

/-- '[]byte(s)'. -/
theorem bytesWorld_bytes (w : World) (l : List UInt8) : Bytes (Lib.bytesWorld w 5 (str l)) w.heap.size l := by
  refine ⟨_, _, Lib.bytesWorld_at_new w 5 (str l), ?_, ?_, ?_⟩
  · simp [Lib.bytesCells, str]
  · simp only [Lib.bytesCells, str]
    simp [byts, byt]
  · intro j hj
    simp only [Lib.bytesCells, str]
    simp
    omega
theorem bytesWorld_below (w : World) (e : TypeId) (s : ByteArray) : Below w.heap.size w (Lib.bytesWorld w e s) :=
  ⟨rfl, rfl, rfl, by rw [Lib.bytesWorld_size]; omega, fun k hk => Lib.bytesWorld_at_old w e s k hk⟩

section
variable {P : Program} {ops : Array Oper} {rest : List Oper} {o : Oper} {a : Act} {Q : Exit → Act → World → Prop}

/-- An operation that is wanted: it has no guard, or its guard says so. -/
theorem wpList_wanted {w : World} (hw : Region.wanted o (yielded ops a.tmps) = true)
    (h : ∀ K : Act → World → Prop, (∀ a w, wpList P ops Q rest a w → K a w) → o.wp P a w K Q) : wpList P ops Q (o :: rest) a w :=
  wpList_step fun K hK => by rw [if_pos hw]; exact h K hK

theorem wpList_bytes {w : World} (hgd : Region.wanted o (yielded ops a.tmps) = true) (x : Operand) (src dst : TypeId) (ho : o.op = .convert src dst x)
    (hs : P.underlying src = some .string) (hd : P.underlying dst = some (.slice 5)) (he : P.underlying 5 = some (.int .u8))
    (l : List UInt8) (hx : a.eval x = .string (str l))
    (h : ∀ c w', l.length ≤ c → Bytes w' w.heap.size l → Below w.heap.size w w' → w'.heap.size = w.heap.size + 1 → wpList P ops Q rest (a.put o.dst (.slice (some ⟨w.heap.size, 0, none⟩) l.length c)) w') :
    wpList P ops Q (o :: rest) a w := by
  refine wpList_wanted hgd fun K hK => ?_
  have hr := Lib.run_convert_string_bytes (P := P) w src dst 5 (str l) hs hd he
  unfold Oper.wp execOp
  simp only [ho, Sem.run_bind, hx, hr, Result.andThen_ok]
  rw [str_size]
  exact hK _ _ (h _ _ (grownCap_ge w _ 0 5) (bytesWorld_bytes w l) (bytesWorld_below w 5 (str l)) (Lib.bytesWorld_size w 5 (str l)))

theorem run_string {w : World} (src dst e : TypeId) (hs : P.underlying src = some (.slice e)) (he : P.underlying e = some (.int .u8)) (hd : P.underlying dst = some .string)
    (A : Option Addr) (c : Nat) (l : List UInt8) (hc : Cells w A (byts l)) : (convert src dst (.slice A l.length c)).run P w = .ok (.string (str l)) w := by
  rcases Nat.eq_zero_or_pos l.length with h0 | h0
  · obtain rfl : l = [] := List.eq_nil_of_length_eq_zero h0
    cases A with
    | none => exact run_convert_bytes_nil w src e hs he 0 c dst hd
    | some ad =>
      have h1 := run_bytesToString (P := P) w ad 0 c [] (by simpa using run_loadCells_list (P := P) w ad [] (by simp))
      rw [List.length_nil, run_convert_bytes_string w src dst e _ 0 c hs he hd, h1]; rfl
  · obtain ⟨ad, rfl, hcell⟩ := hc.at_ (by rwa [byts_length])
    have hl : (loadCells ad l.length).run P w = .ok ((l.map fun b => (b.toNat : Int)).map (Value.int .u8)).toArray w := by
      have := run_loadCells_list (P := P) w ad (byts l) hcell
      rw [byts_length] at this
      rw [this]; simp [byts, byt]
    rw [run_convert_bytes_string w src dst e _ l.length c hs he hd, run_bytesToString w ad l.length c _ hl, foldl_push_bytes]
    have : (l.map fun b => (b.toNat : Int)).map (fun n => UInt8.ofNat n.toNat) = l := by
      rw [List.map_map, List.map_congr_left (g := id) (by intro b _; simp)]; simp
    rw [this]
    simp [str, ByteArray.empty, ByteArray.emptyWithCapacity]
    rfl

theorem wpList_string {w : World} (hgd : Region.wanted o (yielded ops a.tmps) = true) (x : Operand) (src dst e : TypeId) (ho : o.op = .convert src dst x)
    (hs : P.underlying src = some (.slice e)) (he : P.underlying e = some (.int .u8)) (hd : P.underlying dst = some .string)
    (A : Option Addr) (n c : Nat) (l : List UInt8) (hx : a.eval x = .slice A n c) (hn : n = l.length) (hc : Cells w A (byts l))
    (h : wpList P ops Q rest (a.put o.dst (.string (str l))) w) :
    wpList P ops Q (o :: rest) a w := by
  refine wpList_wanted hgd fun K hK => ?_
  subst hn
  have hr := run_string (P := P) (w := w) src dst e hs he hd A c l hc
  unfold Oper.wp execOp
  simp only [ho, Sem.run_bind, hx, hr, Result.andThen_ok]
  exact hK _ _ h

/-! ### Cuts of slices: the address stays closed -/
theorem run_cut {w : World} (t e : TypeId) (ht : P.underlying t = some (.slice e)) (z : Option Value) (sz bytes : Nat) (hinfo : (P.info? e).map (fun i => (i.zero, i.size, i.bytes)) = some (z, sz, bytes))
    (A : Option Addr) (len cap : Nat) (lo hi mx : Option Value) (l h m : Nat) (hb : (Instr.sliceBounds true len cap lo hi mx).run P w = .ok (l, h, m) w) :
    (Instr.sliceAt t (.slice A len cap) lo hi mx).run P w = .ok (.slice (if m = l then A else A.map (·.add (l * sz))) (h - l) (m - l)) w := by
  obtain ⟨i, hi', hzz⟩ := Option.map_eq_some_iff.1 hinfo
  simp only [Prod.mk.injEq] at hzz
  obtain ⟨_, rfl, _⟩ := hzz
  simp [Instr.sliceAt, Instr.slice, run_underlying ht, hb, sizeOf, typeInfo, hi', Result.andThen]

/-- What is known of a cut's address. -/
def CutOf (A A' : Option Addr) (l c sz : Nat) : Prop := (A = none → A' = none) ∧ (0 < c → ∀ ad, A = some ad → A' = some (ad.add (l * sz))) ∧ (∀ ad', A' = some ad' → ∃ ad, A = some ad ∧ ad'.block = ad.block)
theorem cutOf (A : Option Addr) (l m sz c : Nat) (hm : m = l + c) : CutOf A (if m = l then A else A.map (·.add (l * sz))) l c sz := by
  refine ⟨fun h => by subst h; simp, fun h ad e => by subst e; rw [if_neg (by omega)]; rfl, fun ad' e => ?_⟩
  cases A with
  | none => simp at e
  | some ad =>
    refine ⟨ad, rfl, ?_⟩
    split at e
    · cases e; rfl
    · simp at e; subst e; exact add_block _ _

section
variable {w : World} (hgd : Region.wanted o (yielded ops a.tmps) = true) (x : Operand) (t e : TypeId) (z : Option Value) (sz bytes : Nat) (ht : P.underlying t = some (.slice e)) (hinfo : (P.info? e).map (fun i => (i.zero, i.size, i.bytes)) = some (z, sz, bytes))
  (A : Option Addr) (len cap : Nat) (hx : a.eval x = .slice A len cap)
include hgd ht hinfo hx
theorem wpList_cut (lo hi mx : Option Operand) (ho : o.op = .slice t x lo hi mx) (l n c : Nat) (hb : (Instr.sliceBounds true len cap (lo.map a.eval) (hi.map a.eval) (mx.map a.eval)).run P w = .ok (l, l + n, l + c) w)
    (h : ∀ A', CutOf A A' l c sz → wpList P ops Q rest (a.put o.dst (.slice A' n c)) w) : wpList P ops Q (o :: rest) a w := by
  refine wpList_wanted hgd fun K hK => ?_
  have hr := run_cut (P := P) (w := w) t e ht z sz bytes hinfo A len cap (lo.map a.eval) (hi.map a.eval) (mx.map a.eval) _ _ _ hb
  unfold Oper.wp execOp
  simp only [ho, Sem.run_bind, hx, hr, Result.andThen_ok]
  have e1 : l + n - l = n := by omega
  have e2 : l + c - l = c := by omega
  rw [e1, e2]
  exact hK _ _ (h _ (cutOf A l (l + c) sz c rfl))
/-- x[l:h] -/
theorem wpList_cut_lh (lo hi : Operand) (ho : o.op = .slice t x (some lo) (some hi) none) (kl kh : IntKind) (l n c : Nat) (L H : Int) (hl : a.eval lo = .int kl L) (hh : a.eval hi = .int kh H) (eL : L = (l : Int)) (eH : H = (l : Int) + (n : Int)) (hn : n ≤ c) (hc : cap = l + c)
    (h : ∀ A', CutOf A A' l c sz → wpList P ops Q rest (a.put o.dst (.slice A' n c)) w) : wpList P ops Q (o :: rest) a w := by
  refine wpList_cut hgd x t e z sz bytes ht hinfo A len cap hx (some lo) (some hi) none ho l n c ?_ h
  subst eL eH
  have e1 : ((l : Int) + (n : Int)).toNat = l + n := by omega
  have e2 : (Instr.sliceBound (.int kl (l : Int)) (l + n) .sliceB).run P w = .ok l w := by rw [run_sliceBound w kl l (l + n) _ (by omega) (by omega)]; simp
  simp [e2, Instr.sliceBounds, hl, hh, run_sliceBound, hc, (by omega : (0 : Int) ≤ (l : Int) + n), (by omega : (l : Int) + n ≤ l + c), e1]
/-- x[:h] -/
theorem wpList_cut_h (hi : Operand) (ho : o.op = .slice t x none (some hi) none) (kh : IntKind) (n : Nat) (H : Int) (hh : a.eval hi = .int kh H) (eH : H = (n : Int)) (hn : n ≤ cap)
    (h : ∀ A', CutOf A A' 0 cap sz → wpList P ops Q rest (a.put o.dst (.slice A' n cap)) w) : wpList P ops Q (o :: rest) a w := by
  refine wpList_cut hgd x t e z sz bytes ht hinfo A len cap hx none (some hi) none ho 0 n cap ?_ h
  subst eH
  simp [Instr.sliceBounds, hh, run_sliceBound, hn]
/-- x[l:] -/
theorem wpList_cut_l (lo : Operand) (ho : o.op = .slice t x (some lo) none none) (kl : IntKind) (l n c : Nat) (L : Int) (hl : a.eval lo = .int kl L) (eL : L = (l : Int)) (hn : len = l + n) (hc : cap = l + c)
    (h : ∀ A', CutOf A A' l c sz → wpList P ops Q rest (a.put o.dst (.slice A' n c)) w) : wpList P ops Q (o :: rest) a w := by
  refine wpList_cut hgd x t e z sz bytes ht hinfo A len cap hx (some lo) none none ho l n c ?_ h
  subst eL
  have e2 : (Instr.sliceBound (.int kl (l : Int)) (l + n) .sliceB).run P w = .ok l w := by rw [run_sliceBound w kl l (l + n) _ (by omega) (by omega)]; simp
  simp [e2, Instr.sliceBounds, hl, run_sliceBound, hn, hc]
/-- x[:h:m] -/
theorem wpList_cut_hm (hi mx : Operand) (ho : o.op = .slice t x none (some hi) (some mx)) (kh km : IntKind) (n c : Nat) (H M : Int) (hh : a.eval hi = .int kh H) (hm : a.eval mx = .int km M) (eH : H = (n : Int)) (eM : M = (c : Int)) (hn : n ≤ c) (hc : c ≤ cap)
    (h : ∀ A', CutOf A A' 0 c sz → wpList P ops Q rest (a.put o.dst (.slice A' n c)) w) : wpList P ops Q (o :: rest) a w := by
  refine wpList_cut hgd x t e z sz bytes ht hinfo A len cap hx none (some hi) (some mx) ho 0 n c ?_ h
  subst eH eM
  simp [Instr.sliceBounds, hh, hm, run_sliceBound, hn, hc]
end

theorem grown_trans {w w1 w2 : World} {row : Option Nat} (h : w.grownBy w1 row) (k : w1.grownBy w2 row) : w.grownBy w2 row :=
  ⟨k.os.trans h.os, k.tape.trans h.tape, k.output.trans h.output, Nat.le_trans h.size k.size, fun i hi hne => (k.block i (Nat.lt_of_lt_of_le hi h.size) hne).trans (h.block i hi hne)⟩
/-- append(v, x1, .., xm): the block of the xs has just been laid. -/
theorem cells_new (W : World) (cs : Array Value) (e : TypeId) (h : cs.size ≤ 9223372036854775807) : Cells (W.alloc (.cells cs e)) (some ⟨W.heap.size, 0, none⟩) cs.toList := by
  refine ⟨fun j v hj => ⟨_, rfl, ?_⟩, by simpa using h⟩
  have hadd : (⟨W.heap.size, 0, none⟩ : Addr).add j = ⟨W.heap.size, j, none⟩ := by unfold Addr.add; split <;> simp_all
  rw [hadd, cell_of_row _ _ j cs e (0, 0) (heap_alloc_new W _)]
  simpa using hj

/-- '[]T{}': a row of one's own, empty. -/
theorem row_new (W : World) (base : Nat) (e : TypeId) (size : Nat) (h : base ≤ W.heap.size) : Row (W.alloc (.cells #[] e)) base e size (.slice (some ⟨W.heap.size, 0, none⟩) 0 0) 0 [] :=
  ⟨by simp, .inr ⟨_, 0, #[], rfl, h, heap_alloc_new W _, Nat.le_refl _, by simp [maxLen], by simp, by simp⟩⟩
theorem wpList_append_lit {W : World} (hgd : o.guard = none) (s x : Operand) (t : TypeId)
    (ho : o.op = .call { callee := .builtin .append, args := #[s, x], argTypes := #[t, t] })
    (base : Nat) (e : TypeId) (z : Value) (size bytes : Nat) (ht : P.underlying t = some (.slice e))
    (hinfo : (P.info? e).map (fun i => (i.zero, i.size, i.bytes)) = some (some z, size, bytes)) (hzs : z.cells.size = size) (hsz : 0 < size)
    (v : Value) (n : Nat) (xs : List Value) (hs : a.eval s = v) (hown : Row W base e size v n xs)
    (m c : Nat) (cs : Array Value) (hx : a.eval x = .slice (some ⟨W.heap.size, 0, none⟩) m c) (hl : cs.size = m * size) (h1 : ∀ u ∈ cs.toList, u.oneCell' = true)
    (h63 : n + m ≤ maxLen) (hbytes : (n + m) * bytes ≤ 140737488355328) (hbase : base ≤ W.heap.size) (hcs : cs.size ≤ 9223372036854775807)
    (h : ∀ v' w', Row w' base e size v' (n + m) (xs ++ cs.toList) → W.grownBy w' v.ownBlock → (v'.ownBlock = v.ownBlock ∨ ∃ b, v'.ownBlock = some b ∧ W.heap.size ≤ b) → wpList P ops Q rest (a.put o.dst v') w') :
    wpList P ops Q (o :: rest) a (W.alloc (.cells cs e)) := by
  refine wpList_append_row hgd s x t ho base e z size bytes ht hinfo hzs hsz v n xs hs (hown.alloc _) _ m c cs.toList hx (by simpa using hl) (cells_new W cs e hcs) h1 h63 hbytes (by simp; omega) ?_
  intro v' w' r1 r2 r3
  refine h v' w' r1 (grown_trans (World.grownBy_alloc W _ _) r2) ?_
  rcases r3 with r3 | ⟨b, r3, r4⟩
  · exact .inl r3
  · exact .inr ⟨b, r3, by simp at r4; omega⟩

/-- make([]T, 0, n) -/
theorem wpList_make0 {w : World} (hg : o.guard = none) (l c : Operand) (t : TypeId) (hop : o.op = Op.makeSlice t l c)
    (base : Nat) (e : TypeId) (z : Value) (size bytes : Nat) (ht : P.underlying t = some (.slice e)) (hinfo : (P.info? e).map (fun i => (i.zero, i.size, i.bytes)) = some (some z, size, bytes))
    (kl kc : IntKind) (C : Int) (n : Nat) (hl : a.eval l = .int kl 0) (hc : a.eval c = .int kc C) (hC : C = (n : Int)) (b2 : bytes * n ≤ 281474976710656) (b3 : n ≤ maxLen) (b4 : base ≤ w.heap.size)
    (hK : ∀ w', Row w' base e size (.slice (some ⟨w.heap.size, 0, none⟩) 0 n) 0 [] → Below w.heap.size w w' → wpList P ops Q rest (a.put o.dst (.slice (some ⟨w.heap.size, 0, none⟩) 0 n)) w') :
    wpList P ops Q (o :: rest) a w := by
  obtain ⟨i, hi, hz, rfl, rfl⟩ := info_parts hinfo
  exact wpList_make_own w hg l c t hop base e i z i.size ht hi hz rfl kl kc C n hl hc hC b2 b3 b4 fun w' r1 r2 => hK w' (Row.of_owns r1) (below_of_grown r2)

/-- make([]T, n) -/
theorem wpList_maken {w : World} (hg : o.guard = none) (l c : Operand) (t : TypeId) (hop : o.op = Op.makeSlice t l c)
    (base : Nat) (e : TypeId) (z : Value) (size bytes : Nat) (ht : P.underlying t = some (.slice e)) (hinfo : (P.info? e).map (fun i => (i.zero, i.size, i.bytes)) = some (some z, size, bytes))
    (kl kc : IntKind) (L C : Int) (n : Nat) (hl : a.eval l = .int kl L) (hc : a.eval c = .int kc C) (hL : L = (n : Int)) (hC : C = (n : Int)) (b2 : bytes * n ≤ 281474976710656) (b3 : n ≤ maxLen) (b4 : base ≤ w.heap.size)
    (hK : ∀ w', Row w' base e size (.slice (some ⟨w.heap.size, 0, none⟩) n n) n (madeCells z.cells (n * size)).toList → Below w.heap.size w w' → w.heap.size < w'.heap.size → wpList P ops Q rest (a.put o.dst (.slice (some ⟨w.heap.size, 0, none⟩) n n)) w') :
    wpList P ops Q (o :: rest) a w := by
  obtain ⟨i, hi, hz, rfl, rfl⟩ := info_parts hinfo
  exact wpList_make_full w hg l c t hop base e i z i.size ht hi hz rfl kl kc L C n hl hc hL hC b2 b3 b4 fun w' r1 r2 => hK w' (Row.of_owns r1) (below_of_grown r2) ((Row.of_owns r1).lt _ rfl).2
end
end Go.Proofs.Ytimjadjopemefaa
