/-
  ROWS OF IDS: slices whose elements are arrays of 32 bytes: a literal of them, an element's address, an element read. No Go function is named here.
-/
import Derived.Test.YtbnjgldilckhpaaOwn
namespace Go.Proofs.Ytbnjgldilckhpaa
set_option linter.unusedSimpArgs false
set_option linter.unusedVariables false
open Go.RowKit

theorem set_chunk : ∀ (X A Z : List Value) (o k : Nat), X.length ≤ Z.length → A.length = o + k →
    (X.zipIdx k).foldl (fun (cs : Array Value) (p : Value × Nat) => cs.setIfInBounds (o + p.2) p.1) (A ++ Z).toArray = (A ++ X ++ Z.drop X.length).toArray
  | [], A, Z, o, k, _, _ => by simp
  | x :: X, A, Z, o, k, h, hA => by
    cases Z with
    | nil => simp at h
    | cons z Z =>
      have ih := set_chunk X (A ++ [x]) Z o (k + 1) (by simpa using h) (by simp; omega)
      rw [List.zipIdx_cons, List.foldl_cons]
      have e : (A ++ z :: Z).toArray.setIfInBounds (o + k) x = (A ++ [x] ++ Z).toArray := by
        rw [List.setIfInBounds_toArray, List.set_append_right _ _ (by omega), hA, Nat.sub_self, List.set_cons_zero]
        simp
      simp only [e]
      rw [ih]
      simp
theorem fill_chunks : ∀ (xs : List (List Value)) (A Z : List Value) (k : Nat), (∀ x ∈ xs, x.length = 32) → A.length = k * 32 → Z.length = 32 * xs.length →
    Instr.fill (fun i => some (i * 32, 32)) (A ++ Z).toArray ((xs.zipIdx k).map fun p => (p.2, Value.agg p.1.toArray)) = some (A ++ xs.flatten).toArray
  | [], A, Z, k, _, _, hZ => by
    obtain rfl : Z = [] := List.eq_nil_of_length_eq_zero (by simpa using hZ)
    simp [Instr.fill]
  | x :: xs, A, Z, k, hx, hA, hZ => by
    have h1 : x.length = 32 := hx x (by simp)
    have hZ' : Z.length = 32 * xs.length + 32 := by rw [hZ, List.length_cons]; omega
    have ih := fill_chunks xs (A ++ x) (Z.drop 32) (k + 1) (fun y hy => hx y (by simp [hy])) (by simp [hA, h1]; omega) (by rw [List.length_drop, hZ']; omega)
    have hset := set_chunk x A Z (k * 32) 0 (by omega) (by omega)
    rw [List.zipIdx_cons, List.map_cons]
    have hb : (decide (x.toArray.size ≠ 32) || decide (k * 32 + x.toArray.size > (A ++ Z).toArray.size)) = false := by
      simp [h1, hA, hZ']
    unfold Instr.fill
    simp only [Value.cells, hb, Bool.false_eq_true, if_false]
    have e : (x.toArray.zipIdx.foldl (fun (cs : Array Value) (p : Value × Nat) => cs.setIfInBounds (k * 32 + p.2) p.1) (A ++ Z).toArray) = (A ++ x ++ Z.drop 32).toArray := by
      rw [← Array.foldl_toList, Array.toList_zipIdx]
      rw [h1] at hset
      exact hset
    have e2 : (x.toArray.zipIdx.foldl (fun (cs : Array Value) x => match x with | (c, j) => cs.setIfInBounds (k * 32 + j) c) (A ++ Z).toArray) = (A ++ x ++ Z.drop 32).toArray := e
    first | rw [e2] | rw [e]
    rw [ih]
    simp
    exact ⟨h1, by omega⟩

/-- What is known of a type whose elements are 32 cells each. -/
structure Elem32 (P : Program) (e : TypeId) : Prop where
  info : ∃ i z, P.info? e = some i ∧ i.zero = some z ∧ i.size = 32

theorem run_buildSlice32 {P : Program} {t e : TypeId} (ht : P.underlying t = some (.slice e)) (he : Elem32 P e) (xs : List (List UInt8)) (h0 : 0 < xs.length) (hx : ∀ x ∈ xs, x.length = 32) (hm : xs.length ≤ 4096) {parts : Array (Nat × Value)}
    (hp : parts.toList = (xs.zipIdx 0).map fun p => (p.2, agg p.1)) (w : World) :
    (Instr.buildSlice t xs.length parts).run P w = .ok (.slice (some ⟨w.heap.size, 0, none⟩) xs.length xs.length) (w.alloc (.cells (bs xs.flatten).toArray e)) := by
  obtain ⟨i, z, hi, hz, hsz⟩ := he.info
  have n1 : ¬ (xs.length * 32 > 2 ^ 24) := by omega
  have n0 : ¬ (xs.length * 32 = 0) := by omega
  have key := fill_chunks (xs.map bs) [] (((Array.range (xs.length * 32)).map (z.cells[· % z.cells.size]!)).toList) 0 (fun y hy => by
    obtain ⟨x, hx', rfl⟩ := List.mem_map.1 hy
    rw [bs_length, hx x hx']) rfl (by simp; omega)
  have e1 : ((xs.map bs).zipIdx 0).map (fun p => (p.2, Value.agg p.1.toArray)) = parts.toList := by
    rw [hp, List.zipIdx_map, List.map_map]
    rfl
  have e2 : (xs.map bs).flatten = bs xs.flatten := by
    unfold bs
    rw [← List.map_flatten]
  rw [e1, e2, List.nil_append, List.nil_append] at key
  simp only [Instr.buildSlice, Sem.run_bind, run_underlying ht, Result.andThen_ok, sizeOf, typeInfo, run_program, hi, hsz, Sem.run_pure, if_neg n1, if_neg n0, zeroValue, hz, newRow]
  simp only [Array.toArray_toList] at key
  rw [key]
  rfl

section
variable {P : Program} {ops : Array Oper} {rest : List Oper} {Q : Exit → Act → World → Prop} {a : Act} {w0 w : World} {L : List Blk}
theorem wpl_rows32 (hF : Fr w0 w L) (xs : List (List UInt8)) {dst : Option Tmp} {t ty e : TypeId} {m : Nat} {pos : String} {after : Array Edge} {parts : Array (Nat × Operand)} (ht : P.underlying t = some (.slice e)) (he : Elem32 P e) (hm : xs.length = m) (h0 : 0 < m) (hx : ∀ x ∈ xs, x.length = 32) (hm' : m ≤ 4096)
    (hp : (parts.map fun (i, x) => (i, a.eval x)).toList = (xs.zipIdx 0).map fun p => (p.2, agg p.1))
    (h : ∀ b' w', Fr w0 w' (L ++ [⟨b', bs xs.flatten, e⟩]) → wpList P ops Q rest (a.put dst (.slice (some ⟨b', 0, none⟩) m m)) w') :
    wpList P ops Q (⟨dst, .buildSlice t m parts, ty, pos, after, none⟩ :: rest) a w := by
  subst hm
  have hr := run_buildSlice32 ht he xs h0 hx hm' hp w
  refine wpList_plain rfl fun K hK => ?_
  unfold Oper.wp
  simp only [execOp, Sem.run_bind, Sem.run_pure, Result.andThen_ok, hr]
  exact hK _ _ (h _ _ (hF.alloc _ e))
end

/-- Row number i. -/
theorem row_at (xs : List (List UInt8)) (hx : ∀ x ∈ xs, x.length = 32) : ∀ (i : Nat) (h : i < xs.length), ((bs xs.flatten).drop (i * 32)).take 32 = bs (xs.getD i []) := by
  induction xs with
  | nil => intro i h; simp at h
  | cons x xs ih =>
    intro i h
    have h1 : x.length = 32 := hx x (by simp)
    have e : bs (x :: xs).flatten = bs x ++ bs xs.flatten := by simp [bs]
    rw [e]
    cases i with
    | zero =>
      rw [Nat.zero_mul, List.drop_zero, List.take_left' (by rw [bs_length, h1])]
      rfl
    | succ i =>
      rw [List.drop_append, List.drop_eq_nil_of_le (by rw [bs_length, h1]; omega), List.nil_append, bs_length, h1, show (i + 1) * 32 - 32 = i * 32 by omega]
      exact ih (fun y hy => hx y (by simp [hy])) i (by simpa using h)

section
variable {P : Program} {ops : Array Oper} {rest : List Oper} {Q : Act → Prop} {a : Act} {w0 : World} {L : List Blk}
theorem wq_idx32 {dst : Option Tmp} {T ty : TypeId} {x y : Operand} {pos : String} {after : Array Edge} {b n c : Nat} {e : TypeId} {k : Int}
    (hx : a.eval x = .slice (some ⟨b, 0, none⟩) n c) (hy : a.eval y = .int .i64 k) (hu : P.underlying T = some (.slice e)) (he : (P.info? e).map (·.size) = some 32) (h0 : 0 ≤ k) (h1 : k < n)
    (h : wpQuiet P ops (fun w' => Fr w0 w' L) Q rest (a.put dst (.pointer (some ⟨b, k.toNat * 32, none⟩)))) :
    wpQuiet P ops (fun w' => Fr w0 w' L) Q (⟨dst, .indexAddr T x y, ty, pos, after, none⟩ :: rest) a := by
  refine wq_pure (v := .pointer (some ⟨b, k.toNat * 32, none⟩)) (fun w => ?_) h
  cases hq : P.info? e with
  | none => simp [hq] at he
  | some inf =>
    have hs : inf.size = 32 := by simpa [hq] using he
    simp [execOp, hx, hy, Instr.indexAt, run_underlying hu, asIntOf, h0, h1, sizeOf, typeInfo, hq, hs, Addr.add_lit]
theorem wq_loadRow {dst : Option Tmp} {T T' ty : TypeId} {x : Operand} {pos : String} {after : Array Edge} {b i n : Nat} {e : TypeId} (xs : List (List UInt8)) (hxs : ∀ y ∈ xs, y.length = 32)
    (hx : a.eval x = .pointer (some ⟨b, i * 32, none⟩)) (hi : i < xs.length) (hk : ∃ k : Nat, L[k]? = some ⟨b, bs xs.flatten, T'⟩) (hu : P.underlying T = some (.array n e)) (hs : (P.info? T).map (·.size) = some 32)
    (h : wpQuiet P ops (fun w' => Fr w0 w' L) Q rest (a.put dst (agg (xs.getD i [])))) :
    wpQuiet P ops (fun w' => Fr w0 w' L) Q (⟨dst, .load T x, ty, pos, after, none⟩ :: rest) a := by
  refine wq_step rfl (fun w hF => ?_) h
  obtain ⟨k, hk⟩ := hk
  have hrow := row_at xs hxs i hi
  have hlen : (bs (xs.getD i [])).length = 32 := by
    rw [bs_length]
    have : xs.getD i [] = xs[i] := by simp [List.getD, hi]
    rw [this]
    exact hxs _ (List.getElem_mem hi)
  have hr : w.rangeAt b (i * 32) (bs (xs.getD i [])) := by
    intro j v hv
    rw [hF.cell hk]
    rw [← hrow, List.getElem?_take] at hv
    split at hv
    · rwa [List.getElem?_drop] at hv
    · cases hv
  unfold Oper.quietAt execOp
  simp only [hx, Sem.run_bind, run_loadAt_mid w b (i * 32) T (bs (xs.getD i [])) (.array n e) hr hu rfl (by rw [hlen]; exact hs), Result.andThen_ok, Sem.run_pure]
  exact ⟨rfl, rfl⟩
/-- A sum that may go round. -/
theorem wq_addIw {dst : Option Tmp} {x y : Operand} {T ty T' : TypeId} {pos : String} {after : Array Edge} {m n : Int} (hx : a.eval x = .int .i64 m) (hy : a.eval y = .int .i64 n)
    (h : wpQuiet P ops (fun w' => Fr w0 w' L) Q rest (a.put dst (.int .i64 (IntKind.i64.wrap (m + n))))) : wpQuiet P ops (fun w' => Fr w0 w' L) Q (⟨dst, .binOp .add T x y T', ty, pos, after, none⟩ :: rest) a :=
  wq_bin hx hy rfl (fun w => rfl) h
end
end Go.Proofs.Ytbnjgldilckhpaa
