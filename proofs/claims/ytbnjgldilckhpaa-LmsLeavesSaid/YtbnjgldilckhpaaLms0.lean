/-
  ROWS OF IDS THAT ARE MADE AND WRITTEN; shifts and bits of ints; a region that draws its order, whose reads lean on what stays true, and whose calls stand in line. No Go function is named here.
-/
import Derived.Test.YtbnjgldilckhpaaRows32
import Derived.Test.YtbnjgldilckhpaaLine2
import Derived.Deep.MidRow
namespace Go.Proofs.Ytbnjgldilckhpaa
set_option linter.unusedSimpArgs false
set_option linter.unusedVariables false
open Go.RowKit

/-! ### Rows -/
theorem flat_len : ∀ (xs : List (List UInt8)), (∀ x ∈ xs, x.length = 32) → xs.flatten.length = xs.length * 32
  | [], _ => rfl
  | x :: xs, h => by
    rw [List.flatten_cons, List.length_append, h x (by simp), flat_len xs (fun y hy => h y (by simp [hy])), List.length_cons]
    omega
theorem flat_split (xs : List (List UInt8)) {i : Nat} (hi : i < xs.length) : xs.flatten = (xs.take i).flatten ++ (xs.getD i [] ++ (xs.drop (i + 1)).flatten) := by
  have e : xs = xs.take i ++ xs[i] :: xs.drop (i + 1) := by rw [← List.drop_eq_getElem_cons hi, List.take_append_drop]
  have e2 : xs.getD i [] = xs[i] := by simp [List.getD, hi]
  rw [e2]
  conv => lhs; rw [e]
  rw [List.flatten_append, List.flatten_cons]
theorem set_flat (xs : List (List UInt8)) {i : Nat} (hi : i < xs.length) (v : List UInt8) : (xs.set i v).flatten = (xs.take i).flatten ++ (v ++ (xs.drop (i + 1)).flatten) := by
  rw [List.set_eq_take_append_cons_drop, if_pos hi, List.flatten_append, List.flatten_cons]
theorem set_rows {xs : List (List UInt8)} (h : ∀ x ∈ xs, x.length = 32) {v : List UInt8} (hv : v.length = 32) (i : Nat) : ∀ x ∈ xs.set i v, x.length = 32 := by
  intro x hx
  rcases List.mem_or_eq_of_mem_set hx with h' | h'
  · exact h x h'
  · rw [h', hv]
theorem rep_rows (n : Nat) : ∀ x ∈ List.replicate n zeros, x.length = 32 := fun x hx => by rw [List.eq_of_mem_replicate hx]; exact zeros_length
theorem rep_flat (n : Nat) : (List.replicate n zeros).flatten = List.replicate (n * 32) 0 := by
  induction n with
  | zero => rfl
  | succ n ih =>
    rw [List.replicate_succ, List.flatten_cons, ih, show (n + 1) * 32 = 32 + n * 32 by omega, ← List.replicate_append_replicate]
    rfl
theorem getD_len {xs : List (List UInt8)} (h : ∀ x ∈ xs, x.length = 32) {i : Nat} (hi : i < xs.length) : (xs.getD i []).length = 32 := by
  have e2 : xs.getD i [] = xs[i] := by simp [List.getD, hi]
  rw [e2]
  exact h _ (List.getElem_mem hi)
theorem getD_set_other {xs : List (List UInt8)} {i j : Nat} (h : i ≠ j) (v : List UInt8) : (xs.set i v).getD j [] = xs.getD j [] := by
  simp [List.getD, List.getElem?_set, h]
theorem getD_set_self {xs : List (List UInt8)} {i : Nat} (h : i < xs.length) (v : List UInt8) : (xs.set i v).getD i [] = v := by
  simp [List.getD, List.getElem?_set, h]

/-- Cells, set one by one. -/
def setAll (cs : List Value) : Nat → List Value → List Value
  | _, [] => cs
  | o, v :: r => setAll (cs.set o v) (o + 1) r
theorem setAll_mid : ∀ (vs A B Z : List Value) (o : Nat), A.length = o → B.length = vs.length → setAll (A ++ (B ++ Z)) o vs = A ++ (vs ++ Z)
  | [], A, B, Z, o, _, hB => by
    obtain rfl : B = [] := List.eq_nil_of_length_eq_zero (by simpa using hB)
    rfl
  | v :: vs, A, [], Z, o, _, hB => by simp at hB
  | v :: vs, A, b :: B, Z, o, hA, hB => by
    subst hA
    have ih := setAll_mid vs (A ++ [v]) B Z (A.length + 1) (by simp) (by simpa using hB)
    rw [setAll, List.set_append_right _ _ (Nat.le_refl _), Nat.sub_self]
    simpa using ih
theorem Fr.setCells {w0 : World} : ∀ (vs : List Value) (o : Nat) {w : World} {L : List Blk} {k b : Nat} {cs : List Value} {t : TypeId}, Fr w0 w L → L[k]? = some ⟨b, cs, t⟩ → Fr w0 (w.setCells b o vs) (L.set k ⟨b, setAll cs o vs, t⟩)
  | [], o, w, L, k, b, cs, t, h, hk => by
    have e : L.set k ⟨b, cs, t⟩ = L := run_append_fr.set_self' hk
    rw [setAll, e]
    exact h
  | v :: vs, o, w, L, k, b, cs, t, h, hk => by
    have h1 := h.setCell hk o v
    have hl := (List.getElem?_eq_some_iff.1 hk).1
    have h2 := Fr.setCells vs (o + 1) h1 (k := k) (b := b) (cs := cs.set o v) (t := t) (by simp [hl])
    rw [List.set_set] at h2
    exact h2
theorem setAll_row {xs : List (List UInt8)} (hxs : ∀ x ∈ xs, x.length = 32) {i : Nat} (hi : i < xs.length) {v : List UInt8} (hv : v.length = 32) : setAll (bs xs.flatten) (i * 32) (bs v) = bs (xs.set i v).flatten := by
  rw [flat_split xs hi, set_flat xs hi]
  simp only [bs_append]
  refine setAll_mid _ _ _ _ _ ?_ ?_
  · rw [bs_length, flat_len _ (fun x hx => hxs x (List.mem_of_mem_take hx)), List.length_take]
    rw [Nat.min_eq_left (by omega)]
  · rw [bs_length, bs_length, getD_len hxs hi, hv]
theorem Fr.there {w0 w : World} {L : List Blk} (h : Fr w0 w L) {k b : Nat} {cs : List Value} {t : TypeId} (hk : L[k]? = some ⟨b, cs, t⟩) {o n : Nat} (hn : o + n ≤ cs.length) : w.there b o n := fun j hj =>
  ⟨by rw [h.cell hk, List.getElem?_eq_getElem (by omega)]; rfl, h.free hk _⟩
theorem Fr.range {w0 w : World} {L : List Blk} (h : Fr w0 w L) {k b : Nat} {xs : List (List UInt8)} {t : TypeId} (hk : L[k]? = some ⟨b, bs xs.flatten, t⟩) (hxs : ∀ x ∈ xs, x.length = 32) {i : Nat} (hi : i < xs.length) : w.rangeAt b (i * 32) (bs (xs.getD i [])) := by
  intro j v hv
  rw [h.cell hk]
  rw [← row_at xs hxs i hi, List.getElem?_take] at hv
  split at hv
  · rwa [List.getElem?_drop] at hv
  · cases hv
/-- Row number i, as a slice reads it. -/
theorem Fr.slRow {w0 w : World} {L : List Blk} (h : Fr w0 w L) {k b : Nat} {xs : List (List UInt8)} {t : TypeId} (hk : L[k]? = some ⟨b, bs xs.flatten, t⟩) (hxs : ∀ x ∈ xs, x.length = 32) {i : Nat} (hi : i < xs.length) : Sl w (some ⟨b, i * 32, none⟩) (bs (xs.getD i [])) :=
  fun j v hv => ⟨_, rfl, by rw [Addr.add_lit]; exact h.range hk hxs hi j v hv⟩

section
variable {P : Program}
theorem run_storeRow {w0 w : World} {L : List Blk} (hF : Fr w0 w L) {k b : Nat} {xs : List (List UInt8)} {t T : TypeId} (hk : L[k]? = some ⟨b, bs xs.flatten, t⟩) (hxs : ∀ x ∈ xs, x.length = 32) {i : Nat} (hi : i < xs.length) {v : List UInt8} (hv : v.length = 32) (hs : (P.info? T).map (·.size) = some 32) :
    ∃ w', (storeVar T ⟨b, i * 32, none⟩ (agg v)).run P w = .ok () w' ∧ Fr w0 w' (L.set k ⟨b, bs (xs.set i v).flatten, t⟩) := by
  have hvl : (bs v).length = 32 := by rw [bs_length, hv]
  have hsz : (bs v).toArray.size = 32 := by simpa using hvl
  refine ⟨_, run_storeVar_mid w b (i * 32) T (bs v).toArray (hF.there hk ?_) (by rw [hsz]; exact hs) (all_oneCell_toArray (bs_oneCell v)), ?_⟩
  · rw [hsz, bs_length, flat_len xs hxs]
    omega
  · have := hF.setCells (bs v) (i * 32) hk
    rwa [setAll_row hxs hi hv] at this
theorem run_idx32 {T e : TypeId} {b n c : Nat} {k : Int} (hu : P.underlying T = some (.slice e)) (he : (P.info? e).map (·.size) = some 32) (h0 : 0 ≤ k) (h1 : k < n) (w : World) :
    (Instr.indexAt T (.slice (some ⟨b, 0, none⟩) n c) (.int .i64 k)).run P w = .ok (.pointer (some ⟨b, k.toNat * 32, none⟩)) w := by
  cases hq : P.info? e with
  | none => simp [hq] at he
  | some inf =>
    have hs : inf.size = 32 := by simpa [hq] using he
    simp [Instr.indexAt, run_underlying hu, asIntOf, h0, h1, sizeOf, typeInfo, hq, hs, Addr.add_lit]
/-- 'x[:]' of an array that lies anywhere. -/
theorem run_sliceAny {T e : TypeId} {n : Nat} {p : Addr} (hu : P.underlying T = some (.array n e)) (he : (P.info? e).map (·.size) = some 1) (w : World) :
    (Instr.sliceAt T (.pointer (some p)) none none none).run P w = .ok (.slice (some p) n n) w := by
  obtain ⟨hu', h2, h1⟩ := arr_of hu
  rw [run_sliceAt_array_all w T _ hu', h1, h2]
  cases hq : P.info? e with
  | none => simp [hq] at he
  | some i =>
    have hs : i.size = 1 := by simpa [hq] using he
    have e0 : p.add 0 = p := by unfold Addr.add; rfl
    simp [sizeOf, typeInfo, hq, hs, slicedAt, e0]
end

structure IdRows (P : Program) (e : TypeId) : Prop where
  info : ∃ i, P.info? e = some i ∧ i.zero = some (.agg (bs zeros).toArray) ∧ i.size = 32 ∧ i.bytes = 32
theorem IdRows.elem {P : Program} {e : TypeId} (h : IdRows P e) : Elem32 P e := by
  obtain ⟨i, h1, h2, h3, _⟩ := h.info
  exact ⟨i, _, h1, h2, h3⟩
theorem IdRows.size {P : Program} {e : TypeId} (h : IdRows P e) : (P.info? e).map (·.size) = some 32 := by
  obtain ⟨i, h1, h2, h3, _⟩ := h.info
  rw [h1]
  exact congrArg some h3
theorem made_zeros (n : Nat) : madeCells (bs zeros).toArray (n * 32) = (bs (List.replicate n zeros).flatten).toArray := by
  apply Array.ext'
  rw [rep_flat, show bs zeros = List.replicate 32 (B 0) from rfl, show bs (List.replicate (n * 32) 0) = List.replicate (n * 32) (B 0) by simp [bs]]
  apply List.ext_getElem
  · simp [madeCells]
  · intro i h1 h2
    have h3 : i % 32 < 32 := Nat.mod_lt _ (by decide)
    simp [madeCells, h3, -List.reduceReplicate]

section
variable {P : Program} {ops : Array Oper} {rest : List Oper} {Q : Exit → Act → World → Prop} {a : Act} {w0 w : World} {L : List Blk}
theorem wpl_make32 (hF : Fr w0 w L) {dst : Option Tmp} {x y : Operand} {t ty : TypeId} {pos : String} {after : Array Edge} {e : TypeId} (ht : P.underlying t = some (.slice e)) (he : IdRows P e)
    {n : Int} (hx : a.eval x = .int .i64 n) (hy : a.eval y = .int .i64 n) (h0 : 0 ≤ n) (hn : n ≤ 4096)
    (h : ∀ b' w', Fr w0 w' (L ++ [⟨b', bs (List.replicate n.toNat zeros).flatten, e⟩]) → wpList P ops Q rest (a.put dst (.slice (some ⟨b', 0, none⟩) n.toNat n.toNat)) w') :
    wpList P ops Q (⟨dst, .makeSlice t x y, ty, pos, after, none⟩ :: rest) a w := by
  obtain ⟨i, hi, hz, hsz, hby⟩ := he.info
  have hr := run_make (P := P) w t e i _ ht hi hz .i64 .i64 n n h0 (Int.le_refl _) (by rw [hby]; omega) (by omega)
  rw [hsz, show (Value.agg (bs zeros).toArray).cells = (bs zeros).toArray from rfl, made_zeros] at hr
  refine wpList_plain rfl fun K hK => ?_
  unfold Oper.wp
  simp only [execOp, hx, hy, Sem.run_bind, Sem.run_pure, Result.andThen_ok, hr]
  exact hK _ _ (h _ _ (hF.alloc _ e))
theorem wpl_idx32 {dst : Option Tmp} {T ty : TypeId} {x y : Operand} {pos : String} {after : Array Edge} {b n c : Nat} {e : TypeId} {k : Int}
    (hx : a.eval x = .slice (some ⟨b, 0, none⟩) n c) (hy : a.eval y = .int .i64 k) (hu : P.underlying T = some (.slice e)) (he : (P.info? e).map (·.size) = some 32) (h0 : 0 ≤ k) (h1 : k < n)
    (h : wpList P ops Q rest (a.put dst (.pointer (some ⟨b, k.toNat * 32, none⟩))) w) :
    wpList P ops Q (⟨dst, .indexAddr T x y, ty, pos, after, none⟩ :: rest) a w :=
  wpl_here (by simp only [execOp, hx, hy, Sem.run_bind, run_idx32 hu he h0 h1, Result.andThen_ok, Sem.run_pure]) h
theorem wpl_loadRow (hF : Fr w0 w L) {dst : Option Tmp} {T T' ty : TypeId} {x : Operand} {pos : String} {after : Array Edge} {b i n : Nat} {e : TypeId} (xs : List (List UInt8)) (hxs : ∀ y ∈ xs, y.length = 32)
    (hx : a.eval x = .pointer (some ⟨b, i * 32, none⟩)) (hi : i < xs.length) (hk : ∃ k : Nat, L[k]? = some ⟨b, bs xs.flatten, T'⟩) (hu : P.underlying T = some (.array n e)) (hs : (P.info? T).map (·.size) = some 32)
    (h : wpList P ops Q rest (a.put dst (agg (xs.getD i []))) w) :
    wpList P ops Q (⟨dst, .load T x, ty, pos, after, none⟩ :: rest) a w := by
  obtain ⟨k, hk⟩ := hk
  exact wpl_here (by simp only [execOp, hx, Sem.run_bind, run_loadAt_mid w b (i * 32) T (bs (xs.getD i [])) (.array n e) (hF.range hk hxs hi) hu rfl (by rw [bs_length, getD_len hxs hi]; exact hs), Result.andThen_ok, Sem.run_pure]) h
theorem wpl_sliceAny {dst : Option Tmp} {T ty e : TypeId} {x : Operand} {pos : String} {after : Array Edge} {n : Nat} {p : Addr} (hx : a.eval x = .pointer (some p)) (hu : P.underlying T = some (.array n e)) (he : (P.info? e).map (·.size) = some 1)
    (h : wpList P ops Q rest (a.put dst (.slice (some p) n n)) w) :
    wpList P ops Q (⟨dst, .slice T x none none none, ty, pos, after, none⟩ :: rest) a w :=
  wpl_here (by simp only [execOp, hx, Option.map_none, Sem.run_bind, run_sliceAny hu he, Result.andThen_ok, Sem.run_pure]) h
end
section
variable {P : Program} {ops : Array Oper} {rest : List Oper} {Q : Act → Prop} {a : Act} {w0 : World} {L : List Blk}
theorem wq_sliceAny {dst : Option Tmp} {T ty e : TypeId} {x : Operand} {pos : String} {after : Array Edge} {n : Nat} {p : Addr} (hx : a.eval x = .pointer (some p)) (hu : P.underlying T = some (.array n e)) (he : (P.info? e).map (·.size) = some 1)
    (h : wpQuiet P ops (fun w' => Fr w0 w' L) Q rest (a.put dst (.slice (some p) n n))) :
    wpQuiet P ops (fun w' => Fr w0 w' L) Q (⟨dst, .slice T x none none none, ty, pos, after, none⟩ :: rest) a :=
  wq_pure (fun w => by simp only [execOp, hx, Option.map_none, Sem.run_bind, run_sliceAny hu he, Result.andThen_ok, Sem.run_pure]) h
end
section
variable {P : Program} {ops : Array Oper} {rest : List (LE × Oper)} {Q : Act → World → Prop} {a : Act} {w0 : World} {K M : List Blk} {i : Nat}
/-- A row of an own block of rows is stored. -/
theorem wpLine_storeRow (k : Nat) {xs : List (List UInt8)} {v : List UInt8} {T T' ty : TypeId} {x y : Operand} {pos : String} {after : Array Edge} {g : Option (Nat × Bool)} {b j : Nat}
    (hw : Region.wanted ⟨none, .store T x y, ty, pos, after, g⟩ (yielded ops a.tmps) = true)
    (hx : a.eval x = .pointer (some ⟨b, j * 32, none⟩)) (hy : a.eval y = agg v) (hk : M[k]? = some ⟨b, bs xs.flatten, T'⟩) (hxs : ∀ x ∈ xs, x.length = 32) (hj : j < xs.length) (hv : v.length = 32) (hs : (P.info? T).map (·.size) = some 32)
    (h : wpLine P ops w0 Q rest a K (M.set k ⟨b, bs (xs.set j v).flatten, T'⟩)) :
    wpLine P ops w0 Q ((ln i, ⟨none, .store T x y, ty, pos, after, g⟩) :: rest) a K M := by
  refine wpLine_run hw fun w R hF => ?_
  obtain ⟨w', hr, hF'⟩ := run_storeRow (P := P) hF (get_mid K R hk) hxs hj hv hs
  rw [set_mid K R (List.getElem?_eq_some_iff.1 hk).1] at hF'
  refine ⟨undef, _, [], _, .inr ⟨?_, rfl⟩, hF', by rw [List.append_nil]; exact h⟩
  unfold execOp
  simp only [hx, hy, Instr.storeAt, Instr.sureAddr, Sem.run_bind, Sem.run_pure, Result.andThen_ok, hr]
/-- A literal of ids. -/
theorem wpLine_rows {dst : Option Tmp} {t ty e : TypeId} {m : Nat} {pos : String} {after : Array Edge} {g : Option (Nat × Bool)} {parts : Array (Nat × Operand)} (xs : List (List UInt8)) (ht : P.underlying t = some (.slice e)) (he : Elem32 P e)
    (hw : Region.wanted ⟨dst, .buildSlice t m parts, ty, pos, after, g⟩ (yielded ops a.tmps) = true) (hm : xs.length = m) (h0 : 0 < m) (hx : ∀ x ∈ xs, x.length = 32) (hm' : m ≤ 4096)
    (hp : (parts.map fun (i, x) => (i, a.eval x)).toList = (xs.zipIdx 0).map fun p => (p.2, agg p.1))
    (h : ∀ b', wpLine P ops w0 Q rest (a.put dst (.slice (some ⟨b', 0, none⟩) m m)) K (M ++ [⟨b', bs xs.flatten, e⟩])) :
    wpLine P ops w0 Q ((ln i, ⟨dst, .buildSlice t m parts, ty, pos, after, g⟩) :: rest) a K M := by
  subst hm
  refine wpLine_run hw fun w R hF => ?_
  have hr := run_buildSlice32 ht he xs h0 hx hm' hp w
  have hF' := hF.alloc (bs xs.flatten) e
  refine ⟨.slice (some ⟨w.heap.size, 0, none⟩) xs.length xs.length, _, [], M ++ [⟨w.heap.size, bs xs.flatten, e⟩], .inl (by simp only [execOp, Sem.run_bind, hr, Result.andThen_ok, Sem.run_pure]), hF'.perms ?_, by rw [List.append_nil]; exact h _⟩
  simp only [List.nil_append, List.append_assoc]
  exact ((List.perm_append_comm).append_left M).append_left K
end

/-! ### Shifts and bits -/
theorem or_ints (a b k : Nat) (hb : b < 2 ^ k) (h : 2 ^ k * a + b < 9223372036854775808) : Op.intBits .or .i64 (((2 ^ k * a : Nat) : Int)) (b : Int) = pure (.int .i64 ((2 ^ k * a + b : Nat) : Int)) := by
  have e1 : (2 ^ k * a) % 2 ^ 64 = 2 ^ k * a := Nat.mod_eq_of_lt (by omega)
  have e2 : b % 2 ^ 64 = b := Nat.mod_eq_of_lt (by omega)
  have e3 : (BitVec.ofInt 64 (((2 ^ k * a : Nat) : Int)) ||| BitVec.ofInt 64 (b : Int)).toNat = 2 ^ k * a + b := by
    rw [BitVec.toNat_or, BitVec.ofInt_natCast, BitVec.ofInt_natCast, BitVec.toNat_ofNat, BitVec.toNat_ofNat, e1, e2, Nat.two_pow_add_eq_or_of_lt hb]
  show pure (Value.int .i64 (IntKind.i64.wrap ((BitVec.ofInt 64 (((2 ^ k * a : Nat) : Int)) ||| BitVec.ofInt 64 (b : Int)).toNat : Nat))) = _
  rw [e3]
  congr 2
  rw [IntKind.wrap_i64]
  omega
theorem xor_ints (a b : Nat) (ha : a < 4096) (hb : b < 4096) : Op.intBits .xor .i64 (a : Int) (b : Int) = pure (.int .i64 ((a ^^^ b : Nat) : Int)) := by
  have hx : a ^^^ b < 2 ^ 12 := Nat.xor_lt_two_pow ha hb
  have e1 : a % 2 ^ 64 = a := Nat.mod_eq_of_lt (by omega)
  have e2 : b % 2 ^ 64 = b := Nat.mod_eq_of_lt (by omega)
  have e3 : (BitVec.ofInt 64 (a : Int) ^^^ BitVec.ofInt 64 (b : Int)).toNat = a ^^^ b := by
    rw [BitVec.toNat_xor, BitVec.ofInt_natCast, BitVec.ofInt_natCast, BitVec.toNat_ofNat, BitVec.toNat_ofNat, e1, e2]
  show pure (Value.int .i64 (IntKind.i64.wrap ((BitVec.ofInt 64 (a : Int) ^^^ BitVec.ofInt 64 (b : Int)).toNat : Nat))) = _
  rw [e3]
  congr 2
  rw [IntKind.wrap_i64]
  omega
theorem shl_i64 (t : TypeId) (x n : Int) (yk : IntKind) (h : 0 ≤ n) (h2 : n ≤ 63) (h3 : -9223372036854775808 ≤ x * 2 ^ n.toNat) (h4 : x * 2 ^ n.toNat ≤ 9223372036854775807) : binOp .shl t (.int .i64 x) (.int yk n) = pure (.int .i64 (x * 2 ^ n.toNat)) := by
  rw [binOp_shl, shift_shl_any _ _ _ _ h]
  congr 2
  rw [show min n.toNat IntKind.i64.bits = n.toNat from Nat.min_eq_left (show n.toNat ≤ 64 by omega), IntKind.wrap_i64]
  omega
section
variable {P : Program} {ops : Array Oper} {rest : List Oper} {Q : Exit → Act → World → Prop} {a : Act} {w : World}
theorem wpl_shlI {dst : Option Tmp} {x y : Operand} {T ty T' : TypeId} {pos : String} {after : Array Edge} {u n : Int} {k : IntKind} (hx : a.eval x = .int .i64 u) (hy : a.eval y = .int k n) (hn : 0 ≤ n) (hn2 : n ≤ 63) (h3 : -9223372036854775808 ≤ u * 2 ^ n.toNat) (h4 : u * 2 ^ n.toNat ≤ 9223372036854775807)
    (h : wpList P ops Q rest (a.put dst (.int .i64 (u * 2 ^ n.toNat))) w) :
    wpList P ops Q (⟨dst, .binOp .shl T x y T', ty, pos, after, none⟩ :: rest) a w :=
  wpl_pure (fun w => by simp only [execOp, hx, hy, Sem.run_bind, Sem.run_pure, Result.andThen_ok, shl_i64 T u n k hn hn2 h3 h4, show eqGuard .shl T x y (.int .i64 u) (.int k n) = pure () from rfl]) h
theorem wpl_xorI {dst : Option Tmp} {x y : Operand} {T ty T' : TypeId} {pos : String} {after : Array Edge} {u n : Nat} (hx : a.eval x = .int .i64 u) (hy : a.eval y = .int .i64 n) (hu : u < 4096) (hn : n < 4096)
    (h : wpList P ops Q rest (a.put dst (.int .i64 ((u ^^^ n : Nat) : Int))) w) :
    wpList P ops Q (⟨dst, .binOp .xor T x y T', ty, pos, after, none⟩ :: rest) a w :=
  wpl_pure (fun w => by simp only [execOp, hx, hy, Sem.run_bind, Sem.run_pure, Result.andThen_ok, show binOp .xor T (.int .i64 (u : Int)) (.int .i64 (n : Int)) = Op.intBits .xor .i64 (u : Int) (n : Int) from rfl, xor_ints u n hu hn, show eqGuard .xor T x y (.int .i64 (u : Int)) (.int .i64 (n : Int)) = pure () from rfl]) h
end
section
variable {P : Program} {ops : Array Oper} {rest : List Oper} {Q : Act → Prop} {a : Act} {w0 : World} {L : List Blk}
theorem wq_shlI {dst : Option Tmp} {x y : Operand} {T ty T' : TypeId} {pos : String} {after : Array Edge} {u n : Int} {k : IntKind} (hx : a.eval x = .int .i64 u) (hy : a.eval y = .int k n) (hn : 0 ≤ n) (hn2 : n ≤ 63) (h3 : -9223372036854775808 ≤ u * 2 ^ n.toNat) (h4 : u * 2 ^ n.toNat ≤ 9223372036854775807)
    (h : wpQuiet P ops (fun w' => Fr w0 w' L) Q rest (a.put dst (.int .i64 (u * 2 ^ n.toNat)))) :
    wpQuiet P ops (fun w' => Fr w0 w' L) Q (⟨dst, .binOp .shl T x y T', ty, pos, after, none⟩ :: rest) a :=
  wq_pure (fun w => by simp only [execOp, hx, hy, Sem.run_bind, Sem.run_pure, Result.andThen_ok, shl_i64 T u n k hn hn2 h3 h4, show eqGuard .shl T x y (.int .i64 u) (.int k n) = pure () from rfl]) h
theorem wq_orI {dst : Option Tmp} {x y : Operand} {T ty T' : TypeId} {pos : String} {after : Array Edge} {p q : Int} (k u v : Nat) (hx : a.eval x = .int .i64 p) (hy : a.eval y = .int .i64 q) (hp : p = ((2 ^ k * u : Nat) : Int)) (hq : q = (v : Int)) (hv : v < 2 ^ k) (hs : 2 ^ k * u + v < 9223372036854775808)
    (h : wpQuiet P ops (fun w' => Fr w0 w' L) Q rest (a.put dst (.int .i64 (p + q)))) :
    wpQuiet P ops (fun w' => Fr w0 w' L) Q (⟨dst, .binOp .or T x y T', ty, pos, after, none⟩ :: rest) a := by
  refine wq_pure (fun w => ?_) h
  have e : Op.intBits .or .i64 p q = pure (.int .i64 (p + q)) := by
    rw [hp, hq, or_ints u v k hv hs]
    congr 2
  simp only [execOp, hx, hy, Sem.run_bind, Sem.run_pure, Result.andThen_ok, show binOp .or T (.int .i64 p) (.int .i64 q) = Op.intBits .or .i64 p q from rfl, e, show eqGuard .or T x y (.int .i64 p) (.int .i64 q) = pure () from rfl]
theorem wq_idxP {dst : Option Tmp} {T ty : TypeId} {x y : Operand} {pos : String} {after : Array Edge} {p : Addr} {n c : Nat} {e : TypeId} {k : Int}
    (hx : a.eval x = .slice (some p) n c) (hy : a.eval y = .int .i64 k) (hu : P.underlying T = some (.slice e)) (he : (P.info? e).map (·.size) = some 1) (h0 : 0 ≤ k) (h1 : k < n)
    (h : wpQuiet P ops (fun w' => Fr w0 w' L) Q rest (a.put dst (.pointer (some (p.add k.toNat))))) :
    wpQuiet P ops (fun w' => Fr w0 w' L) Q (⟨dst, .indexAddr T x y, ty, pos, after, none⟩ :: rest) a := by
  refine wq_pure (v := .pointer (some (p.add k.toNat))) (fun w => ?_) h
  cases hq : P.info? e with
  | none => simp [hq] at he
  | some inf =>
    have hs : inf.size = 1 := by simpa [hq] using he
    simp [execOp, hx, hy, Instr.indexAt, run_underlying hu, asIntOf, h0, h1, sizeOf, typeInfo, hq, hs]
end

/-! ### Reads that lean on what stays true, then calls and stores in line -/
section
variable {P : Program} {ops : Array Oper} {md : Region.Mode} {S : World → Prop}
def wpSeq (P : Program) (Q : Exit → Act → World → Prop) (S : World → Prop) : List Oper → Act → World → Prop
  | [], a, w => Q .normal a w
  | o :: rest, a, w => LUpon P (fun v w' => S w' ∧ wpSeq P Q S rest (a.put o.dst v) w') ((execOp a.eval o).run P w)
theorem seq_ok {Q : Exit → Act → World → Prop} : ∀ (cs : List Nat) (listed : Array Bool) (a : Act) (w : World), lineB md ops cs listed = true → wpSeq P Q S (cs.filterMap (ops[·]?)) a w →
    wpAnyH P md ops (noP Q) S cs.length listed a w := by
  intro cs
  induction cs with
  | nil =>
    intro listed a w hB h
    simp only [lineB, beq_iff_eq] at hB
    exact ⟨hB, h⟩
  | cons i is ih =>
    intro listed a w hB h
    simp only [lineB, Bool.and_eq_true, beq_iff_eq] at hB
    obtain ⟨⟨h1, hr⟩, hB'⟩ := hB
    cases ho : ops[i]? with
    | none => simp [ho] at h1
    | some o =>
      simp only [ho] at h1
      have hg' : o.guard = none := by simpa using h1
      rw [List.filterMap_cons_some ho] at h
      refine wpAnyH_all hr (by simp) fun j hj => ?_
      simp only [List.mem_singleton] at hj
      subst hj
      unfold wpOp
      simp only [ho]
      rw [if_pos (by simp [Region.wanted, hg'])]
      refine .inl ?_
      unfold Oper.wp
      have h' : LUpon P (fun v w' => S w' ∧ wpSeq P Q S (is.filterMap (ops[·]?)) (a.put o.dst v) w') ((execOp a.eval o).run P w) := h
      refine h'.upon ?_
      rintro v w' ⟨hS, h⟩
      exact ⟨hS, ih _ _ _ hB' h⟩
theorem wp_region_seq {id : Nat} {Q : Exit → Act → World → Prop} {a : Act} {w : World} {l : List Oper} (S : World → Prop) (qs cs : List Nat) (hm : P.follows .mixedOrders = true) (hB : storesB .any l.toArray qs cs = true) (hS : S w.drew)
    (h : wpQuiet P l.toArray S (fun a' => wpSeq P Q S (cs.filterMap (l.toArray[·]?)) a' w.drew) (qs.filterMap (l.toArray[·]?)) a) : (Code.region id l.toArray true).wp P Q a w := by
  simp only [storesB, Bool.and_eq_true, decide_eq_true_eq] at hB
  obtain ⟨⟨⟨hsel, hsz⟩, hT⟩, hL⟩ := hB
  refine Code.wp_mono noP_imp (wp_region_held (S := S) hm ?_)
  rw [← hsz]
  exact takes_ok hsel hS qs _ _ (by rw [hsz]; exact hT) h fun a' hK => by
    have := seq_ok (P := P) (md := .any) cs (after_ qs (Array.replicate l.toArray.size false)) a' w.drew hL hK
    rw [hsz]
    exact this
end
end Go.Proofs.Ytbnjgldilckhpaa
