/- Memory, for all proofs of this seat: what a slice's elements are (Cells), a slice that may be appended to (Row), and the laws of append, make, copy and conversion over them. -/
import Derived.WalkKit
import Derived.Lib.Hide
import Derived.Lib.ConvBytes
import Derived.Laws.BytesArg
import Derived.Laws.CopyOwn
import Derived.Laws.AppendOwnNone
import Derived.ArgAppend
set_option linter.unusedVariables false
set_option linter.unusedSimpArgs false
namespace Go.Proofs.Ytimjadjopemefaa
open Go.RowKit

def byt (b : UInt8) : Value := .int .u8 (b.toNat : Int)
def byts (l : List UInt8) : List Value := l.map byt
theorem byts_length (l : List UInt8) : (byts l).length = l.length := by simp [byts]
theorem byts_append (l m : List UInt8) : byts (l ++ m) = byts l ++ byts m := by simp [byts]
theorem byts_one (l : List UInt8) : ∀ u ∈ byts l, u.oneCell' = true := by
  intro u hu; simp only [byts, List.mem_map] at hu; obtain ⟨b, _, rfl⟩ := hu; rfl

/-- A slice's elements, as cells from A on. -/
structure Cells (w : World) (A : Option Addr) (vs : List Value) : Prop where
  get : ∀ j v, vs[j]? = some v → ∃ ad, A = some ad ∧ w.cell? (ad.add j) = some v
  small : vs.length ≤ 9223372036854775807

theorem Cells.nil (w : World) (A : Option Addr) : Cells w A [] := ⟨fun j v h => by simp at h, by simp⟩
theorem Cells.byte {w : World} {A : Option Addr} {l : List UInt8} (h : Cells w A (byts l)) (k : Nat) (hk : k < l.length) : ∃ ad, A = some ad ∧ w.cell? (ad.add k) = some (.int .u8 ((l[k]).toNat : Int)) :=
  h.get k _ (by simp [hk, byt, byts])
theorem Cells.len {w : World} {A : Option Addr} {l : List UInt8} (h : Cells w A (byts l)) : l.length ≤ 9223372036854775807 := by
  have := h.small; rwa [byts_length] at this
theorem Cells.at_ {w : World} {A : Option Addr} {vs : List Value} (h : Cells w A vs) (hn : 0 < vs.length) : ∃ ad, A = some ad ∧ ∀ j u, vs[j]? = some u → w.cell? (ad.add j) = some u := by
  obtain ⟨ad, rfl, _⟩ := h.get 0 vs[0] (by simp [hn])
  refine ⟨ad, rfl, fun j u hu => ?_⟩
  obtain ⟨ad', e, hc⟩ := h.get j u hu
  cases e
  exact hc
/-- Where the cells lie, if there are any. -/
def Cells.block {w : World} {A : Option Addr} {vs : List Value} (_ : Cells w A vs) : Option Nat := A.map (·.block)
theorem add_block (a : Addr) (n : Nat) : (a.add n).block = a.block := by unfold Addr.add; split <;> rfl
theorem add_add (a : Addr) (n m : Nat) : (a.add n).add m = a.add (n + m) := by
  unfold Addr.add
  by_cases h : n = 0
  · subst h; simp
  · by_cases h2 : m = 0
    · subst h2; simp [h]
    · have : n + m ≠ 0 := by omega
      simp [h, h2, this]; omega
/-- What is changed elsewhere changes no cell. -/
theorem Cells.grown {w w' : World} {A : Option Addr} {vs : List Value} {row : Option Nat} (h : Cells w A vs) (hg : w.grownBy w' row) (hne : vs = [] ∨ ∀ ad, A = some ad → some ad.block ≠ row) : Cells w' A vs := by
  refine ⟨fun j v hj => ?_, h.small⟩
  obtain ⟨ad, rfl, hc⟩ := h.get j v hj
  refine ⟨ad, rfl, hg.cell hc ?_⟩
  rcases hne with rfl | hne
  · simp at hj
  · rw [add_block]; exact hne ad rfl
theorem Cells.below {w w' : World} {A : Option Addr} {vs : List Value} (h : Cells w A vs) (hb : Below w.heap.size w w') : Cells w' A vs := by
  refine ⟨fun j v hj => ?_, h.small⟩
  obtain ⟨ad, rfl, hc⟩ := h.get j v hj
  exact ⟨ad, rfl, (hb.cell (World.block_lt_of_cell? w _ hc)).trans hc⟩
theorem Cells.alloc {w : World} {A : Option Addr} {vs : List Value} (h : Cells w A vs) (o : Obj) : Cells (w.alloc o) A vs := h.below ((Below.refl _ _).alloc (Nat.le_refl _) o)
/-- A cut. -/
theorem Cells.sub {w : World} {A : Option Addr} {vs : List Value} (h : Cells w A vs) (lo n : Nat) (h2 : lo + n ≤ vs.length) (A' : Option Addr) (hA : 0 < n → ∀ ad, A = some ad → A' = some (ad.add lo)) :
    Cells w A' ((vs.drop lo).take n) := by
  refine ⟨fun j v hj => ?_, by have := h.small; simp; omega⟩
  rw [List.getElem?_take] at hj
  split at hj
  · rename_i hlt
    rw [List.getElem?_drop] at hj
    obtain ⟨ad, rfl, hcell⟩ := h.get _ v hj
    exact ⟨_, hA (by omega) ad rfl, by rw [add_add]; exact hcell⟩
  · cases hj
theorem Cells.bsub {w : World} {A : Option Addr} {l : List UInt8} (h : Cells w A (byts l)) (lo n : Nat) (h2 : lo + n ≤ l.length) (A' : Option Addr) (hA : 0 < n → ∀ ad, A = some ad → A' = some (ad.add lo)) :
    Cells w A' (byts ((l.drop lo).take n)) := by
  have := h.sub lo n (by rwa [byts_length]) A' hA
  simpa [byts] using this

/-- A slice that owns its row: it may be appended to; its block bears no mark, and is at least as large as its capacity. -/
def Row (w : World) (base : Nat) (e : TypeId) (size : Nat) (v : Value) (n : Nat) (xs : List Value) : Prop :=
  xs.length = n * size ∧
  ((v = .slice none 0 0 ∧ n = 0) ∨
   ∃ g cap cur, v = .slice (some ⟨g, 0, none⟩) n cap ∧ base ≤ g ∧ w.heap[g]? = some (.cells cur e (0, 0)) ∧ n ≤ cap ∧ cap ≤ maxLen ∧ cap * size ≤ cur.size ∧ cur.toList.take (n * size) = xs)

section
variable {w : World} {base : Nat} {e : TypeId} {size : Nat} {v : Value} {n : Nat} {xs : List Value}
theorem Row.of_owns (h : w.ownsRow base e size v n xs) : Row w base e size v n xs := by
  refine ⟨h.1, ?_⟩
  rcases h.2 with h | ⟨g, cap, cur, h1, h2, h3, h4, h5, h6, h7⟩
  · exact .inl h
  · exact .inr ⟨g, cap, cur, h1, h2, h3, h4, h5, by omega, h7⟩
theorem Row.nil (w : World) (base : Nat) (e : TypeId) (size : Nat) : Row w base e size (.slice none 0 0) 0 [] := ⟨by simp, .inl ⟨rfl, rfl⟩⟩
theorem Row.lt (h : Row w base e size v n xs) : ∀ k, v.ownBlock = some k → base ≤ k ∧ k < w.heap.size := by
  intro k hk
  rcases h.2 with ⟨rfl, _⟩ | ⟨g, cap, cur, rfl, hb, hg, _⟩
  · simp [Value.ownBlock] at hk
  · simp [Value.ownBlock] at hk
    subst hk
    exact ⟨hb, (Array.getElem?_eq_some_iff.1 hg).1⟩
theorem Row.kept {w' : World} {row : Option Nat} (h : Row w base e size v n xs) (hg : w.grownBy w' row) (hne : v.ownBlock = none ∨ v.ownBlock ≠ row) : Row w' base e size v n xs := by
  refine ⟨h.1, ?_⟩
  rcases h.2 with hn | ⟨g, cap, cur, rfl, hb, hgg, rest⟩
  · exact .inl hn
  · refine .inr ⟨g, cap, cur, rfl, hb, ?_, rest⟩
    rw [hg.block g (Array.getElem?_eq_some_iff.1 hgg).1 (by simpa [Value.ownBlock] using hne)]
    exact hgg
theorem grown_of_below {w w1 : World} (h : Below w.heap.size w w1) (row : Option Nat) : w.grownBy w1 row := ⟨h.os, h.tape, h.output, h.size, fun i hi _ => h.block i hi⟩
theorem below_of_grown {w w1 : World} (h : w.grownBy w1 none) : Below w.heap.size w w1 := ⟨h.os, h.tape, h.output, h.size, fun i hi => h.block i hi (by simp)⟩
theorem Row.below {w' : World} (h : Row w base e size v n xs) (hb : Below w.heap.size w w') : Row w' base e size v n xs :=
  h.kept (grown_of_below hb none) (by cases v.ownBlock <;> simp)
theorem Row.alloc (h : Row w base e size v n xs) (o : Obj) : Row (w.alloc o) base e size v n xs := h.below ((Below.refl _ _).alloc (Nat.le_refl _) o)
theorem Row.mono {base' : Nat} (h : Row w base e size v n xs) (hb : base' ≤ base) : Row w base' e size v n xs := by
  refine ⟨h.1, ?_⟩
  rcases h.2 with h | ⟨g, cap, cur, h1, h2, h3⟩
  · exact .inl h
  · exact .inr ⟨g, cap, cur, h1, by omega, h3⟩
theorem Row.cells1 (h : Row w base e 1 v n xs) : ∃ A c, v = .slice A n c ∧ n ≤ c ∧ xs.length = n ∧ Cells w A xs ∧ (∀ ad, A = some ad → base ≤ ad.block ∧ ad.block < w.heap.size) := by
  have hl : xs.length = n := by simpa using h.1
  rcases h.2 with ⟨rfl, rfl⟩ | ⟨g, cap, cur, rfl, hb, hh, h4, h5, h6, h7⟩
  · obtain rfl : xs = [] := List.eq_nil_of_length_eq_zero hl
    exact ⟨none, 0, rfl, Nat.le_refl _, rfl, Cells.nil _ _, fun ad h => by cases h⟩
  · refine ⟨_, cap, rfl, h4, hl, ⟨fun j u hu => ⟨_, rfl, ?_⟩, by simp only [maxLen] at h5; omega⟩, fun ad h => by cases h; exact ⟨hb, (Array.getElem?_eq_some_iff.1 hh).1⟩⟩
    have hadd : (⟨g, 0, none⟩ : Addr).add j = ⟨g, j, none⟩ := by unfold Addr.add; split <;> simp_all
    rw [hadd, cell_of_row w g j cur e (0, 0) hh]
    rw [← h7, List.getElem?_take] at hu
    split at hu
    · simpa using hu
    · cases hu
theorem Row.cells (h : Row w base e size v n xs) (hb : xs.length ≤ 9223372036854775807) : ∃ A c, v = .slice A n c ∧ n ≤ c ∧ c ≤ maxLen ∧ Cells w A xs ∧ (∀ ad, A = some ad → base ≤ ad.block ∧ ad.block < w.heap.size) := by
  have hl := h.1
  rcases h.2 with ⟨rfl, rfl⟩ | ⟨g, cap, cur, rfl, hb', hh, h4, h5, h6, h7⟩
  · obtain rfl : xs = [] := List.eq_nil_of_length_eq_zero (by simpa using hl)
    exact ⟨none, 0, rfl, Nat.le_refl _, by simp [maxLen], Cells.nil _ _, fun ad h => by cases h⟩
  · refine ⟨_, cap, rfl, h4, h5, ⟨fun j u hu => ⟨_, rfl, ?_⟩, hb⟩, fun ad h => by cases h; exact ⟨hb', (Array.getElem?_eq_some_iff.1 hh).1⟩⟩
    have hadd : (⟨g, 0, none⟩ : Addr).add j = ⟨g, j, none⟩ := by unfold Addr.add; split <;> simp_all
    rw [hadd, cell_of_row w g j cur e (0, 0) hh]
    rw [← h7, List.getElem?_take] at hu
    split at hu
    · simpa using hu
    · cases hu
theorem setRow_same (w : World) (g : Nat) (cur : Array Value) (e : TypeId) (fr : Nat × Nat) (hg : w.heap[g]? = some (.cells cur e fr)) : w.setRow g cur = w := by
  have h : (w.setRow g cur).heap = w.heap := by
    apply Array.ext_getElem?
    intro k
    by_cases hk : k = g
    · subst hk; rw [setRow_heap w k cur cur e fr hg, hg]
    · rw [setRow_other w g k cur hk]
  have h2 : w.setRow g cur = { w with heap := (w.setRow g cur).heap } := rfl
  rw [h2, h]
end

/-- A block is a row of cells of this type. -/
def Typed (w : World) (k : Nat) (e : TypeId) : Prop := ∃ cs fr, w.heap[k]? = some (.cells cs e fr)
theorem Typed.lt {w : World} {k : Nat} {e : TypeId} (h : Typed w k e) : k < w.heap.size := by
  obtain ⟨cs, fr, hh⟩ := h
  exact (Array.getElem?_eq_some_iff.1 hh).1
theorem Typed.same {w w' : World} {k : Nat} {e : TypeId} (h : Typed w k e) (he : w'.heap[k]? = w.heap[k]?) : Typed w' k e := by
  obtain ⟨cs, fr, hh⟩ := h
  exact ⟨cs, fr, he.trans hh⟩
theorem Typed.below {w w' : World} {k : Nat} {e : TypeId} (h : Typed w k e) (hb : Below w.heap.size w w') : Typed w' k e := h.same (hb.block k h.lt)
theorem Typed.ne {w : World} {k k' : Nat} {e e' : TypeId} (h : Typed w k e) (h' : Typed w k' e') (hne : e ≠ e') : k ≠ k' := by
  rintro rfl
  obtain ⟨cs, fr, hh⟩ := h
  obtain ⟨cs', fr', hh'⟩ := h'
  rw [hh] at hh'
  injection hh' with hh'
  injection hh' with _ ht
  exact hne ht
theorem Row.typed {w : World} {base : Nat} {e : TypeId} {size : Nat} {v : Value} {n : Nat} {xs : List Value} (h : Row w base e size v n xs) (k : Nat) (hk : v.ownBlock = some k) : Typed w k e := by
  rcases h.2 with ⟨rfl, _⟩ | ⟨g, cap, cur, rfl, hb, hg, _⟩
  · simp [Value.ownBlock] at hk
  · simp [Value.ownBlock] at hk
    subst hk
    exact ⟨_, _, hg⟩

/-- A goal at which the walk stands still. -/
def Halted (p : Prop) : Prop := p
theorem halt_dst {P : Program} {ops : Array Oper} {rest : List Oper} {a : Act} {w : World} {Q : Exit → Act → World → Prop} (d : Tmp) {op : Op} {ty : TypeId} {pos : String} {af : Array Edge} {g : Option (Nat × Bool)}
    (h : Halted (wpList P ops Q (⟨some d, op, ty, pos, af, g⟩ :: rest) a w)) : wpList P ops Q (⟨some d, op, ty, pos, af, g⟩ :: rest) a w := h
theorem halt_none {P : Program} {ops : Array Oper} {rest : List Oper} {a : Act} {w : World} {Q : Exit → Act → World → Prop} {op : Op} {ty : TypeId} {pos : String} {af : Array Edge} {g : Option (Nat × Bool)}
    (h : Halted (wpList P ops Q (⟨none, op, ty, pos, af, g⟩ :: rest) a w)) : wpList P ops Q (⟨none, op, ty, pos, af, g⟩ :: rest) a w := h

/-- append to a row of one's own, from whatever cells. -/
theorem run_append_row {P : Program} (w : World) (base : Nat) (t ty e : TypeId) (z : Value) (size bytes : Nat) (ht : P.underlying t = some (.slice e))
    (hinfo : (P.info? e).map (fun i => (i.zero, i.size, i.bytes)) = some (some z, size, bytes)) (hzs : z.cells.size = size) (hsz : 0 < size)
    (v : Value) (n : Nat) (xs : List Value) (hown : Row w base e size v n xs)
    (A : Option Addr) (m c : Nat) (news : List Value) (hl : news.length = m * size) (hnews : Cells w A news) (h1 : ∀ u ∈ news, u.oneCell' = true)
    (h63 : n + m ≤ maxLen) (hbytes : (n + m) * bytes ≤ 140737488355328) (hbase : base ≤ w.heap.size) :
    ∃ v' w', (Builtin.append_ #[t, t] ty #[v, .slice A m c]).run P w = .ok v' w' ∧ Row w' base e size v' (n + m) (xs ++ news) ∧ w.grownBy w' v.ownBlock ∧
      (v'.ownBlock = v.ownBlock ∨ ∃ b, v'.ownBlock = some b ∧ w.heap.size ≤ b) := by
  obtain ⟨i, hi, hz, rfl, rfl⟩ := info_parts hinfo
  rcases Nat.eq_zero_or_pos m with rfl | hm
  · -- nothing is appended
    obtain rfl : news = [] := List.eq_nil_of_length_eq_zero (by simpa using hl)
    refine ⟨v, w, ?_, by simpa using hown, World.grownBy.refl _ _, .inl rfl⟩
    rcases hown.2 with ⟨rfl, rfl⟩ | ⟨g, cap, cur, rfl, hbg, hg, hnc, hcm, hcs, htake⟩
    · cases A <;> simp [Builtin.append_, run_underlying ht, sizeOf, typeInfo, hi, Builtin.lenOf, Builtin.firstCells, loadCells, loadCellsFrom]
    · cases A with
      | none => simp [Builtin.append_, run_underlying ht, sizeOf, typeInfo, hi, Builtin.lenOf, Builtin.firstCells, loadCells, loadCellsFrom, hnc, storeCells]
      | some a =>
        have hr := run_append_room (P := P) w t ty e i ht hi g n cap cur hg a 0 c [] (by simp) (fun j u h => by simp at h) (by simp) (by simpa using hnc) (by simp; exact Nat.le_trans (Nat.mul_le_mul_right _ hnc) hcs)
        rw [hr]
        congr 1
        simp only [List.append_nil, List.length_nil, Nat.add_zero, List.take_append_drop]
        exact setRow_same w g cur e (0, 0) hg
  obtain ⟨a, rfl, hcells⟩ := hnews.at_ (by rw [hl]; exact Nat.mul_pos hm hsz)
  have hlen : (xs ++ news).length = (n + m) * i.size := by rw [List.length_append, hown.1, hl, Nat.add_mul]
  rcases hown.2 with ⟨rfl, rfl⟩ | ⟨g, cap, cur, rfl, hbg, hg, hnc, hcm, hcs, htake⟩
  · obtain rfl : xs = [] := List.eq_nil_of_length_eq_zero (by simpa using hown.1)
    obtain ⟨v', w', hrun, r1, r2, r3⟩ := run_append_own (P := P) w w.heap.size t ty e i z i.size i.bytes ht hi hz rfl rfl hzs hsz (.slice none 0 0) 0 [] (World.ownsRow_nil w _ e i.size) a m c news hl hcells h1 h63 hbytes (Nat.le_refl _)
    refine ⟨v', w', hrun, (Row.of_owns r1).mono hbase, r2, .inr ?_⟩
    rcases r1.2 with ⟨rfl, h0⟩ | ⟨g, cap, cur, rfl, hb, _⟩
    · omega
    · exact ⟨g, rfl, hb⟩
  · by_cases hroom : n + m ≤ cap
    · have hfit : n * i.size + news.length ≤ cur.size := by
        rw [hl, ← Nat.add_mul]; exact Nat.le_trans (Nat.mul_le_mul_right _ hroom) hcs
      have hr := run_append_room (P := P) w t ty e i ht hi g n cap cur hg a m c news hl hcells h1 hroom hfit
      refine ⟨_, _, hr, ⟨hlen, .inr ⟨g, cap, _, rfl, hbg, setRow_heap w g cur _ e _ hg, hroom, hcm, ?_, ?_⟩⟩, ⟨rfl, rfl, rfl, by simp, fun k hk hne => setRow_other w g k _ (fun e => hne (by simp [Value.ownBlock, e]))⟩, .inl rfl⟩
      · simp only [List.size_toArray, List.length_append, List.length_take, List.length_drop, Array.length_toList]
        omega
      · rw [htake, ← hlen]
        exact List.take_left
    · have holds : ∀ j u, xs[j]? = some u → w.cell? ((⟨g, 0, none⟩ : Addr).add j) = some u := by
        intro j u hu
        have hadd : (⟨g, 0, none⟩ : Addr).add j = ⟨g, j, none⟩ := by unfold Addr.add; split <;> simp_all
        rw [hadd, cell_of_row w g j cur e (0, 0) hg]
        rw [← htake, List.getElem?_take] at hu
        split at hu
        · simpa using hu
        · cases hu
      obtain ⟨v', w', hrun, r1, r2⟩ := run_append_arg_grows (P := P) w t ty e i z i.size i.bytes ht hi hz rfl rfl hzs hsz ⟨g, 0, none⟩ n cap xs hown.1 holds a m c news hl hcells (by omega) h63 hbytes
      refine ⟨v', w', hrun, (Row.of_owns r1).mono hbase, ⟨r2.os, r2.tape, r2.output, r2.size, fun k hk _ => r2.block k hk (by simp)⟩, .inr ?_⟩
      rcases r1.2 with ⟨rfl, h0⟩ | ⟨g, cap, cur, rfl, hb, _⟩
      · omega
      · exact ⟨g, rfl, hb⟩

theorem wpList_append_row {P : Program} {w : World} {ops : Array Oper} {rest : List Oper} {o : Oper} {a : Act} {Q : Exit → Act → World → Prop} (hgd : o.guard = none) (s x : Operand) (t : TypeId)
    (ho : o.op = .call { callee := .builtin .append, args := #[s, x], argTypes := #[t, t] })
    (base : Nat) (e : TypeId) (z : Value) (size bytes : Nat) (ht : P.underlying t = some (.slice e))
    (hinfo : (P.info? e).map (fun i => (i.zero, i.size, i.bytes)) = some (some z, size, bytes)) (hzs : z.cells.size = size) (hsz : 0 < size)
    (v : Value) (n : Nat) (xs : List Value) (hs : a.eval s = v) (hown : Row w base e size v n xs)
    (A : Option Addr) (m c : Nat) (news : List Value) (hx : a.eval x = .slice A m c) (hl : news.length = m * size) (hnews : Cells w A news) (h1 : ∀ u ∈ news, u.oneCell' = true)
    (h63 : n + m ≤ maxLen) (hbytes : (n + m) * bytes ≤ 140737488355328) (hbase : base ≤ w.heap.size)
    (h : ∀ v' w', Row w' base e size v' (n + m) (xs ++ news) → w.grownBy w' v.ownBlock → (v'.ownBlock = v.ownBlock ∨ ∃ b, v'.ownBlock = some b ∧ w.heap.size ≤ b) → wpList P ops Q rest (a.put o.dst v') w') : wpList P ops Q (o :: rest) a w := by
  refine wpList_plain hgd fun K hK => ?_
  obtain ⟨v', w', hr, h2, h3, h4⟩ := run_append_row (P := P) w base t o.type e z size bytes ht hinfo hzs hsz v n xs hown A m c news hl hnews h1 h63 hbytes hbase
  unfold Oper.wp execOp
  simp only [ho, resolve, invoke, builtin, Sem.run_bind, Sem.run_pure, Result.andThen_ok, List.map_toArray, List.map_cons, List.map_nil, hs, hx, hr]
  exact hK _ _ (h v' w' h2 h3 h4)
end Go.Proofs.Ytimjadjopemefaa
