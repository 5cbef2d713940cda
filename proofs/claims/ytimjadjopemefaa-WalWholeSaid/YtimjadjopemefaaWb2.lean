/- The plain law of a wal that a crash tears. -/
import Derived.Test.YtimjadjopemefaaWb1
import Derived.Test.YtimjadjopemefaaCut
set_option linter.unusedVariables false
set_option linter.unusedSimpArgs false
namespace Go.Proofs.Ytimjadjopemefaa
open Go.RowKit

/-- Where the frames end that are whole. -/
theorem torn_at (ts : List (List UInt8)) (N : Nat) : ∀ (d m : Nat), ts.length - m = d → m ≤ ts.length → (framesOf (ts.take m)).length ≤ N →
    ∃ q, m ≤ q ∧ q ≤ ts.length ∧ (framesOf (ts.take q)).length ≤ N ∧ ∀ l, ts[q]? = some l → N < (framesOf (ts.take q)).length + 8 + l.length
  | 0, m, hd, hm, hN => ⟨m, Nat.le_refl _, hm, hN, fun l hl => by rw [List.getElem?_eq_none (by omega)] at hl; cases hl⟩
  | d + 1, m, hd, hm, hN => by
    have hlt : m < ts.length := by omega
    have hs : (framesOf (ts.take (m + 1))).length = (framesOf (ts.take m)).length + (8 + ts[m].length) := by
      rw [List.take_succ_eq_append_getElem hlt, framesOf_push, List.length_append, frameOf_length]
    by_cases h : (framesOf (ts.take (m + 1))).length ≤ N
    · obtain ⟨q, h1, h2, h3, h4⟩ := torn_at ts N d (m + 1) (by omega) (by omega) h
      exact ⟨q, by omega, h2, h3, h4⟩
    · refine ⟨m, Nat.le_refl _, hm, hN, fun l hl => ?_⟩
      rw [List.getElem?_eq_getElem hlt] at hl
      cases hl
      omega

/-- A disk that is armed, with records behind those that are sure. -/
def armD (xs zs : List (List UInt8)) (a k : Int) (n : Nat) : DS := ⟨[(framesOf (xs ++ zs), (framesOf xs).length)], n + zs.length, false, a, [k]⟩
/-- .. and behind the crash. -/
def tornD (xs zs : List (List UInt8)) (k : Int) (n : Nat) : DS := ⟨[crashLog (framesOf (xs ++ zs), (framesOf xs).length) (some k)], n + zs.length, false, 0, [k]⟩
section
variable {xs zs : List (List UInt8)} {a k : Int} {n : Nat}
theorem framesOf_app (xs zs : List (List UInt8)) : framesOf (xs ++ zs) = framesOf xs ++ framesOf zs := by simp [framesOf]
theorem arm_start (h : 0 ≤ a) : (oneS xs n).arm a [k] = armD xs [] a k n := by
  simp only [oneS, DS.arm, armD, List.append_nil, List.length_nil, Nat.add_zero]
  rw [show max a 0 = a by omega]
theorem armD_le (h : (framesOf (xs ++ zs)).length ≤ 16128) (ha : a ≠ 1) : Live (armD xs zs a k n) 0 (framesOf (xs ++ zs)) (framesOf xs).length :=
  ⟨by simp [armD], rfl, rfl, ha, by omega, by rw [framesOf_app, List.length_append]; omega⟩
theorem armD_app {s : List UInt8} (h : (framesOf (xs ++ zs)).length ≤ 16128) (hs : s.length ≤ 1000) (ha : a ≠ 1) :
    (armD xs zs a k n).appErr 0 (frameOf s) = 0 ∧ (armD xs zs a k n).append 0 (frameOf s) = armD xs (zs ++ [s]) (if 1 < a then a - 1 else a) k n := by
  obtain ⟨e1, e2⟩ := (armD_le h ha).append (c := frameOf s) (by rw [frameOf_length]; omega)
  refine ⟨e1, e2.trans ?_⟩
  simp only [armD, DS.pre, ← List.append_assoc, framesOf_push, List.length_append, List.length_cons, List.length_nil]
  simp
  omega
theorem armD_cut {s : List UInt8} (h : (framesOf (xs ++ zs)).length ≤ 16128) (hs : s.length ≤ 1000) :
    (armD xs zs 1 k n).appErr 0 (frameOf s) = 71 ∧ (armD xs zs 1 k n).append 0 (frameOf s) = (armD xs zs 1 k n).crash [k] := by
  have hh : (armD xs zs 1 k n).has 0 = true := by simp [DS.has, armD]
  have hz : (armD xs zs 1 k n).appSize 0 (frameOf s) = ((frameOf s).length : Int) + ((framesOf (xs ++ zs)).length : Int) := by
    unfold DS.appSize; rw [if_pos hh]; rfl
  have hz2 : (armD xs zs 1 k n).appSize 0 (frameOf s) ≤ 4194304 := by rw [hz, frameOf_length]; omega
  have he : (armD xs zs 1 k n).appErr 0 (frameOf s) = 71 := by
    unfold DS.appErr DS.actErr
    rw [if_pos hh, if_neg (by simp [armD]), if_neg (by omega), if_pos (show (armD xs zs 1 k n).armed = 1 from rfl)]
  refine ⟨he, ?_⟩
  unfold DS.append DS.act
  rw [if_neg (by unfold DS.appErr at he; rw [he]; decide)]
  unfold DS.fail
  rw [if_pos ⟨hh, rfl, hz2, rfl⟩]
  rfl
theorem armD_crash : ({ (armD xs zs a k n).crash [k] with down := false } : DS) = tornD xs zs k n := by
  simp [armD, tornD, DS.crash, crashTo]
theorem armD_crash2 : (({ ((armD xs zs a k n).crash [k]).crash [k] with down := false } : DS)) = tornD xs zs k n := by
  have : ((armD xs zs a k n).crash [k]).crash [k] = (armD xs zs a k n).crash [k] := by
    have h : ((armD xs zs a k n).crash [k]).down = true := by simp [armD, DS.crash]
    rw [DS.crash, if_pos h]
  rw [this]
  exact armD_crash
/-- What two openings behind it say. -/
theorem tornD_open (h : (framesOf (xs ++ zs)).length ≤ 16128) (hs : ∀ l ∈ xs ++ zs, l.length ≤ 1000) :
    ∃ q D1, xs.length ≤ q ∧ q ≤ (xs ++ zs).length ∧ openErrD (tornD xs zs k n) 0 = 0 ∧ openD (tornD xs zs k n) 0 = D1 ∧ (∃ M, scanOf ((tornD xs zs k n).log 0).1 = ((xs ++ zs).take q, M)) ∧ D1.acts ≤ n + zs.length + 1 ∧
      openErrD D1 0 = 0 ∧ openD D1 0 = D1 ∧ quietD D1 0 ∧ ∃ M, scanOf (D1.log 0).1 = ((xs ++ zs).take q, M) := by
  have hs6 : ∀ l ∈ xs ++ zs, l.length ≤ 65536 := fun l hl => Nat.le_trans (hs l hl) (by decide)
  have hle : (framesOf xs).length ≤ (framesOf (xs ++ zs)).length := by rw [framesOf_app, List.length_append]; omega
  obtain ⟨N, hN⟩ : ∃ N, N = crashN (framesOf (xs ++ zs), (framesOf xs).length) (some k) := ⟨_, rfl⟩
  have hN2 : (framesOf xs).length ≤ N ∧ N ≤ (framesOf (xs ++ zs)).length := by
    rw [hN]; simp only [crashN]; omega
  have htk : (xs ++ zs).take xs.length = xs := by simp
  obtain ⟨q, q1, q2, q3, q4⟩ := torn_at (xs ++ zs) N _ xs.length rfl (by simp) (by rw [htk]; exact hN2.1)
  have hsc := torn (xs ++ zs) hs6 N q q2 hN2.2 q3 q4
  have hL : Live (tornD xs zs k n) 0 ((framesOf (xs ++ zs)).take N) N := by
    refine ⟨by simp [tornD], ?_, rfl, by simp [tornD], by simp; omega, by simp; omega⟩
    rw [hN]; rfl
  obtain ⟨e1, D1, e2, e3, e4, e5, e6, e7⟩ := hL.open
  have hlog : ((tornD xs zs k n).log 0).1 = (framesOf (xs ++ zs)).take N := by
    have := hL.logq
    rw [show (0 : Int) = ((0 : Nat) : Int) from rfl, this]
  rw [hsc] at e3 e7
  simp only at e3
  have hsplit : framesOf (xs ++ zs) = framesOf ((xs ++ zs).take q) ++ framesOf ((xs ++ zs).drop q) := by
    rw [← framesOf_app, List.take_append_drop]
  have htt : ((framesOf (xs ++ zs)).take N).take (framesOf ((xs ++ zs).take q)).length = framesOf ((xs ++ zs).take q) := by
    rw [List.take_take, Nat.min_eq_left q3, hsplit, List.take_left']
    rfl
  rw [htt] at e3
  have hL1 : Live D1 0 (framesOf ((xs ++ zs).take q)) (framesOf ((xs ++ zs).take q)).length := by
    refine ⟨by rw [e3]; simp [tornD], by simp only [e3]; simp [tornD], e4, by rw [e6 rfl]; decide, ?_, Nat.le_refl _⟩
    omega
  have hsc1 := scan_frames ((xs ++ zs).take q) (fun l hl => hs6 l (List.mem_of_mem_take hl))
  obtain ⟨f1, D2, f2, _, _, _, _, f7⟩ := hL1.open
  rw [hsc1] at f7
  refine ⟨q, D1, q1, q2, e1, e2, ⟨_, by rw [hlog]; exact hsc⟩, e5, f1, f2.trans (f7 ⟨by simp, by simp⟩), hL1.quiet (by rw [hsc1]) rfl, ⟨(framesOf ((xs ++ zs).take q)).length, ?_⟩⟩
  · have := hL1.logq
    rw [show (0 : Int) = ((0 : Nat) : Int) from rfl, this]
    exact hsc1
end
/-- A row's beginning. -/
theorem Row.first {w : World} {base : Nat} {e : TypeId} {A : Option Addr} {c n q : Nat} {xs : List Value} (h : Row w base e 1 (.slice A n c) n xs) (hq : q ≤ n) : Row w base e 1 (.slice A q c) q (xs.take q) := by
  have hl : xs.length = n := by simpa using h.1
  refine ⟨by simp; omega, ?_⟩
  rcases h.2 with ⟨e1, rfl⟩ | ⟨g, cap, cur, e1, h2, h3, h4, h5, h6, h7⟩
  · cases e1
    obtain rfl : q = 0 := by omega
    exact .inl ⟨rfl, rfl⟩
  · cases e1
    refine .inr ⟨g, c, cur, rfl, h2, h3, by omega, h5, h6, ?_⟩
    rw [← h7, List.take_take]
    congr 1
    omega
theorem strs_take (q : Nat) (xs : List (List UInt8)) : (strs xs).take q = strs (xs.take q) := by simp [strs, List.map_take]
/-- x[:h] keeps the address. -/
theorem wpList_cut_first {P : Program} {w : World} {ops : Array Oper} {rest : List Oper} {o : Oper} {a : Act} {Q : Exit → Act → World → Prop} (hgd : Region.wanted o (yielded ops a.tmps) = true) (x : Operand) (t e : TypeId) (z : Option Value) (sz bytes : Nat) (ht : P.underlying t = some (.slice e)) (hinfo : (P.info? e).map (fun i => (i.zero, i.size, i.bytes)) = some (z, sz, bytes))
    (A : Option Addr) (len cap : Nat) (hx : a.eval x = .slice A len cap) (hi : Operand) (ho : o.op = .slice t x none (some hi) none) (kh : IntKind) (n : Nat) (H : Int) (hh : a.eval hi = .int kh H) (eH : H = (n : Int)) (hn : n ≤ cap)
    (h : wpList P ops Q rest (a.put o.dst (.slice A n cap)) w) : wpList P ops Q (o :: rest) a w := by
  refine wpList_wanted hgd fun K hK => ?_
  have hb : (Instr.sliceBounds true len cap (none : Option Value) (some (a.eval hi)) none).run P w = .ok (0, n, cap) w := by
    subst eH
    simp [Instr.sliceBounds, hh, run_sliceBound, hn]
  have hr := run_cut (P := P) (w := w) t e ht z sz bytes hinfo A len cap none (some (a.eval hi)) none _ _ _ hb
  unfold Oper.wp execOp
  simp only [ho, Sem.run_bind, hx, Option.map_none, Option.map_some, hr, Result.andThen_ok, Nat.sub_zero, Nat.zero_mul]
  have e1 : (if cap = 0 then A else A.map (·.add 0)) = A := by
    split
    · rfl
    · cases A <;> simp [add_zero]
  rw [e1]
  exact hK _ _ h
end Go.Proofs.Ytimjadjopemefaa
