/-
  TEXTS: strings as lists of bytes, and single operations on them, plain and drawn; a byte's shifts. No Go function is named here.
-/
import Derived.Test.YtjjkndbkjnfimaaCut
namespace Go.Proofs.Ytjjkndbkjnfimaa
set_option linter.unusedSimpArgs false
set_option linter.unusedVariables false
open Go.RowKit

/-- A text. -/
def St (l : List UInt8) : Value := .string ⟨l.toArray⟩

theorem size_mk (l : List UInt8) : (⟨l.toArray⟩ : ByteArray).size = l.length := rfl
theorem mk_get (l : List UInt8) (i : Nat) (h : i < l.length) : (⟨l.toArray⟩ : ByteArray)[i]? = some (gb l i) := by
  have hs : i < (⟨l.toArray⟩ : ByteArray).size := h
  rw [getElem?_pos _ i hs, gb_eq h]
  rfl
theorem run_indexSt {P : Program} {T : TypeId} (hT : P.underlying T = some .string) {l : List UInt8} {kd : IntKind} {i : Int} (h0 : 0 ≤ i) (h1 : i < (l.length : Int)) (w : World) :
    (Instr.index T (St l) (.int kd i)).run P w = .ok (B (gb l i.toNat)) w := by
  have hn : i.toNat < l.length := by omega
  have hg := mk_get l i.toNat hn
  simp only [Instr.index, St, asIntOf, Sem.run_bind, Sem.run_pure, Result.andThen_ok, run_underlying hT, if_pos h0, hg]
  rfl
theorem append_mk (l m : List UInt8) : (⟨l.toArray⟩ : ByteArray) ++ (⟨m.toArray⟩ : ByteArray) = ⟨(l ++ m).toArray⟩ := by
  apply ByteArray.ext
  rw [ByteArray.data_append]
  simp
theorem toList_mk (l : List UInt8) : (⟨l.toArray⟩ : ByteArray).toList = l := by
  have h : ∀ (n i : Nat) (r : List UInt8), l.length - i = n → i ≤ l.length → ByteArray.toList.loop ⟨l.toArray⟩ i r = r.reverse ++ l.drop i := by
    intro n
    induction n with
    | zero =>
      intro i r hn hi
      unfold ByteArray.toList.loop
      rw [if_neg (by show ¬ i < l.length; omega), List.drop_eq_nil_of_le (by omega), List.append_nil]
    | succ n ih =>
      intro i r hn hi
      unfold ByteArray.toList.loop
      have hlt : i < l.length := by omega
      rw [if_pos (by show i < l.length; omega), ih (i + 1) _ (by omega) (by omega), List.drop_eq_getElem_cons hlt, List.reverse_cons, List.append_assoc]
      have e : (⟨l.toArray⟩ : ByteArray).get! i = l[i] := by
        show (l.toArray)[i]! = l[i]
        rw [getElem!_pos _ i (by simpa using hlt)]
        simp
      rw [e]
      rfl
  unfold ByteArray.toList
  rw [h l.length 0 [] (by omega) (by omega)]
  simp
theorem run_addSt {P : Program} {T : TypeId} {l m : List UInt8} (hT : P.underlying T = some .string) (h : l.length + m.length ≤ 4294967296) (w : World) : (binOp .add T (St l) (St m)).run P w = .ok (St (l ++ m)) w := by
  have := run_string_add_sum (P := P) (w := w) ⟨l.toArray⟩ ⟨m.toArray⟩ (by rw [size_mk, size_mk]; omega)
  unfold St binOp
  simp only [this, append_mk]
theorem run_eqSt {P : Program} {T : TypeId} {l m : List UInt8} (w : World) : (binOp .eql T (St l) (St m)).run P w = .ok (.bool (decide (l = m))) w := by
  simp only [St, binOp, Op.stringOp, toList_mk]
  rw [Sem.run_pure]
  congr 2
  rw [Bool.eq_iff_iff]
  simp
theorem run_neqSt {P : Program} {T : TypeId} {l m : List UInt8} (w : World) : (binOp .neq T (St l) (St m)).run P w = .ok (.bool (!decide (l = m))) w := by
  simp only [St, binOp, Op.stringOp, toList_mk]
  rw [Sem.run_pure]
  congr 2
  rw [Bool.eq_iff_iff]
  simp
theorem extract_mk (l : List UInt8) (i j : Nat) : (⟨l.toArray⟩ : ByteArray).extract i j = ⟨((l.drop i).take (j - i)).toArray⟩ := by
  apply ByteArray.ext
  rw [ByteArray.data_extract]
  simp [List.extract_eq_take_drop]
theorem run_sliceSt {P : Program} {T : TypeId} (hT : P.underlying T = some .string) {l : List UInt8} {k k' : IntKind} {i j : Int} (h0 : 0 ≤ i) (h1 : i ≤ j) (h2 : j ≤ (l.length : Int)) (w : World) :
    (Instr.sliceAt T (St l) (some (.int k i)) (some (.int k' j)) none).run P w = .ok (St ((l.drop i.toNat).take (j.toNat - i.toNat))) w := by
  rw [run_sliceAt_string w T _ _ _ _ hT]
  unfold St
  rw [run_slice_string w T ⟨l.toArray⟩ k k' i j hT h0 h1 (by rw [size_mk]; exact h2), extract_mk]

/-! ### At the lists -/
section
variable {P : Program} {ops : Array Oper} {rest : List Oper} {Q : Exit → Act → World → Prop} {a : Act} {w0 w : World} {L : List Blk}
theorem wpl_indexSt {dst : Option Tmp} {T ty : TypeId} {x y : Operand} {pos : String} {after : Array Edge} {l : List UInt8} {kd : IntKind} {i : Int} (hT : P.underlying T = some .string)
    (hx : a.eval x = St l) (hy : a.eval y = .int kd i) (h0 : 0 ≤ i) (h1 : i < (l.length : Int)) (h : wpList P ops Q rest (a.put dst (B (gb l i.toNat))) w) :
    wpList P ops Q (⟨dst, .index T x y, ty, pos, after, none⟩ :: rest) a w :=
  wpl_pure (fun w => by simp only [execOp, hx, hy, Sem.run_bind, run_indexSt hT h0 h1, Result.andThen_ok, Sem.run_pure]) h
theorem wpl_eqSt {dst : Option Tmp} {T ty T' : TypeId} {x y : Operand} {pos : String} {after : Array Edge} {l m : List UInt8} (hx : a.eval x = St l) (hy : a.eval y = St m)
    (h : wpList P ops Q rest (a.put dst (.bool (decide (l = m)))) w) : wpList P ops Q (⟨dst, .binOp .eql T x y T', ty, pos, after, none⟩ :: rest) a w :=
  wpl_pure (fun w => by simp only [execOp, hx, hy, Sem.run_bind, Sem.run_pure, Result.andThen_ok, run_eqSt, show eqGuard .eql T x y (St l) (St m) = pure () from rfl]) h
theorem wpl_neqSt {dst : Option Tmp} {T ty T' : TypeId} {x y : Operand} {pos : String} {after : Array Edge} {l m : List UInt8} (hx : a.eval x = St l) (hy : a.eval y = St m)
    (h : wpList P ops Q rest (a.put dst (.bool (!decide (l = m)))) w) : wpList P ops Q (⟨dst, .binOp .neq T x y T', ty, pos, after, none⟩ :: rest) a w :=
  wpl_pure (fun w => by simp only [execOp, hx, hy, Sem.run_bind, Sem.run_pure, Result.andThen_ok, run_neqSt, show eqGuard .neq T x y (St l) (St m) = pure () from rfl]) h
/-- Bytes as a text. -/
theorem wpl_toSt {dst : Option Tmp} {S T ty e : TypeId} {x : Operand} {pos : String} {after : Array Edge} (l : List UInt8) (hS : P.underlying S = some (.slice e)) (he : P.underlying e = some (.int .u8)) (hT : P.underlying T = some .string)
    {p : Option Addr} {n c : Nat} (hx : a.eval x = .slice p n c) (hn : l.length = n) (hl : Sl w p (bs l)) (h : wpList P ops Q rest (a.put dst (St l)) w) :
    wpList P ops Q (⟨dst, .convert S T x, ty, pos, after, none⟩ :: rest) a w := wpl_string hS he hT hx hn hl h
end
section
variable {P : Program} {ops : Array Oper} {rest : List Oper} {Q : Act → Prop} {a : Act} {w0 : World} {L : List Blk}
theorem wq_indexSt {dst : Option Tmp} {T ty : TypeId} {x y : Operand} {pos : String} {after : Array Edge} {l : List UInt8} {kd : IntKind} {i : Int} (hT : P.underlying T = some .string)
    (hx : a.eval x = St l) (hy : a.eval y = .int kd i) (h0 : 0 ≤ i) (h1 : i < (l.length : Int)) (h : wpQuiet P ops (fun w' => Fr w0 w' L) Q rest (a.put dst (B (gb l i.toNat)))) :
    wpQuiet P ops (fun w' => Fr w0 w' L) Q (⟨dst, .index T x y, ty, pos, after, none⟩ :: rest) a :=
  wq_pure (fun w => by simp only [execOp, hx, hy, Sem.run_bind, run_indexSt hT h0 h1, Result.andThen_ok, Sem.run_pure]) h
theorem wq_sliceSt {dst : Option Tmp} {T ty : TypeId} {x y z : Operand} {pos : String} {after : Array Edge} {l : List UInt8} {k k' : IntKind} {i j : Int} (hT : P.underlying T = some .string)
    (hx : a.eval x = St l) (hy : a.eval y = .int k i) (hz : a.eval z = .int k' j) (h0 : 0 ≤ i) (h1 : i ≤ j) (h2 : j ≤ (l.length : Int)) (h : wpQuiet P ops (fun w' => Fr w0 w' L) Q rest (a.put dst (St ((l.drop i.toNat).take (j.toNat - i.toNat))))) :
    wpQuiet P ops (fun w' => Fr w0 w' L) Q (⟨dst, .slice T x (some y) (some z) none, ty, pos, after, none⟩ :: rest) a :=
  wq_pure (fun w => by simp only [execOp, hx, hy, hz, Option.map_some, Option.map_none, Sem.run_bind, run_sliceSt hT h0 h1 h2, Result.andThen_ok, Sem.run_pure]) h
theorem wq_addSt {dst : Option Tmp} {T ty T' : TypeId} {x y : Operand} {pos : String} {after : Array Edge} {l m : List UInt8} (hT : P.underlying T = some .string) (hx : a.eval x = St l) (hy : a.eval y = St m) (hb : l.length + m.length ≤ 4294967296)
    (h : wpQuiet P ops (fun w' => Fr w0 w' L) Q rest (a.put dst (St (l ++ m)))) : wpQuiet P ops (fun w' => Fr w0 w' L) Q (⟨dst, .binOp .add T x y T', ty, pos, after, none⟩ :: rest) a :=
  wq_bin hx hy rfl (fun w => run_addSt hT hb w) h
theorem wq_eqSt {dst : Option Tmp} {T ty T' : TypeId} {x y : Operand} {pos : String} {after : Array Edge} {l m : List UInt8} (hx : a.eval x = St l) (hy : a.eval y = St m)
    (h : wpQuiet P ops (fun w' => Fr w0 w' L) Q rest (a.put dst (.bool (decide (l = m))))) : wpQuiet P ops (fun w' => Fr w0 w' L) Q (⟨dst, .binOp .eql T x y T', ty, pos, after, none⟩ :: rest) a :=
  wq_bin hx hy rfl (fun w => run_eqSt w) h

/-! ### Half bytes -/
theorem wq_shr4 {dst : Option Tmp} {T ty T' : TypeId} {x y : Operand} {pos : String} {after : Array Edge} {p : UInt8} {k : IntKind} (hx : a.eval x = B p) (hy : a.eval y = .int k 4)
    (h : wpQuiet P ops (fun w' => Fr w0 w' L) Q rest (a.put dst (.int .u8 ((p.toNat / 16 : Nat) : Int)))) : wpQuiet P ops (fun w' => Fr w0 w' L) Q (⟨dst, .binOp .shr T x y T', ty, pos, after, none⟩ :: rest) a :=
  wq_bin hx hy rfl (fun w => by
    show ((binOp .shr T (.int .u8 (p.toNat : Int)) (.int k 4)).run P w) = _
    rw [binOp_shr, shift_shr_any _ _ _ _ (by omega)]
    rfl) h
theorem and15 (p : UInt8) : (p &&& 15).toNat = p.toNat % 16 := by
  rw [UInt8.toNat_and]
  exact Nat.and_two_pow_sub_one_eq_mod p.toNat 4
theorem wq_and15 {dst : Option Tmp} {T ty T' : TypeId} {x y : Operand} {pos : String} {after : Array Edge} {p : UInt8} (hx : a.eval x = B p) (hy : a.eval y = .int .u8 15)
    (h : wpQuiet P ops (fun w' => Fr w0 w' L) Q rest (a.put dst (.int .u8 ((p.toNat % 16 : Nat) : Int)))) : wpQuiet P ops (fun w' => Fr w0 w' L) Q (⟨dst, .binOp .and T x y T', ty, pos, after, none⟩ :: rest) a :=
  wq_bin hx hy rfl (fun w => by
    have e := binOp_and_B T p 15
    have e2 : B (p &&& 15) = .int .u8 ((p.toNat % 16 : Nat) : Int) := by unfold B; rw [and15]
    rw [e2] at e
    exact congrArg (fun s : Sem Value => s.run P w) e) h
theorem wq_quo16 {dst : Option Tmp} {T ty T' : TypeId} {x y : Operand} {pos : String} {after : Array Edge} {p : UInt8} (hx : a.eval x = B p) (hy : a.eval y = .int .u8 16)
    (h : wpQuiet P ops (fun w' => Fr w0 w' L) Q rest (a.put dst (.int .u8 ((p.toNat / 16 : Nat) : Int)))) : wpQuiet P ops (fun w' => Fr w0 w' L) Q (⟨dst, .binOp .quo T x y T', ty, pos, after, none⟩ :: rest) a :=
  wq_bin hx hy rfl (fun w => by
    have hp := p.toNat_lt
    have key : ∀ q : Fin 256, Op.intDiv .quo .u8 (q.val : Int) 16 = pure (.int .u8 ((q.val / 16 : Nat) : Int)) := by
      intro q
      have e : ((q.val : Int)).tdiv 16 = ((q.val / 16 : Nat) : Int) := rfl
      have hq := q.isLt
      have e2 : (((q.val : Int) / 16) % 256) = (q.val : Int) / 16 := by omega
      simp [Op.intDiv, e, e2, IntKind.wrap, IntKind.signed, IntKind.bits]
    have := key ⟨p.toNat, hp⟩
    show (Op.intDiv .quo .u8 (p.toNat : Int) 16).run P w = _
    rw [this]
    rfl) h
theorem wq_rem16 {dst : Option Tmp} {T ty T' : TypeId} {x y : Operand} {pos : String} {after : Array Edge} {p : UInt8} (hx : a.eval x = B p) (hy : a.eval y = .int .u8 16)
    (h : wpQuiet P ops (fun w' => Fr w0 w' L) Q rest (a.put dst (.int .u8 ((p.toNat % 16 : Nat) : Int)))) : wpQuiet P ops (fun w' => Fr w0 w' L) Q (⟨dst, .binOp .rem T x y T', ty, pos, after, none⟩ :: rest) a :=
  wq_bin hx hy rfl (fun w => by
    have hp := p.toNat_lt
    have key : ∀ q : Fin 256, Op.intDiv .rem .u8 (q.val : Int) 16 = pure (.int .u8 ((q.val % 16 : Nat) : Int)) := by
      intro q
      have e : ((q.val : Int)).tmod 16 = ((q.val % 16 : Nat) : Int) := rfl
      have hq := q.isLt
      have e2 : (((q.val : Int) / 16) % 256) = (q.val : Int) / 16 := by omega
      simp [Op.intDiv, e, e2, IntKind.wrap, IntKind.signed, IntKind.bits]
    have := key ⟨p.toNat, hp⟩
    show (Op.intDiv .rem .u8 (p.toNat : Int) 16).run P w = _
    rw [this]
    rfl) h
theorem wq_addU8 {dst : Option Tmp} {T ty T' : TypeId} {x y : Operand} {pos : String} {after : Array Edge} {m n : Nat} (hx : a.eval x = .int .u8 (m : Int)) (hy : a.eval y = .int .u8 (n : Int)) (hb : m + n < 256)
    (h : wpQuiet P ops (fun w' => Fr w0 w' L) Q rest (a.put dst (.int .u8 ((m + n : Nat) : Int)))) : wpQuiet P ops (fun w' => Fr w0 w' L) Q (⟨dst, .binOp .add T x y T', ty, pos, after, none⟩ :: rest) a :=
  wq_bin hx hy rfl (fun w => by
    simp [binOp, Op.intArith, IntKind.wrap, IntKind.signed, IntKind.bits]
    omega) h
end

section
variable {P : Program} {ops : Array Oper} {rest : List Oper} {Q : Exit → Act → World → Prop} {a : Act} {w0 w : World} {L : List Blk}
theorem wpl_shr4 {dst : Option Tmp} {T ty T' : TypeId} {x y : Operand} {pos : String} {after : Array Edge} {p : UInt8} {k : IntKind} (hx : a.eval x = B p) (hy : a.eval y = .int k 4)
    (h : wpList P ops Q rest (a.put dst (.int .u8 ((p.toNat / 16 : Nat) : Int))) w) : wpList P ops Q (⟨dst, .binOp .shr T x y T', ty, pos, after, none⟩ :: rest) a w :=
  wpl_pure (fun w => by
    have e : (binOp .shr T (B p) (.int k 4)).run P w = .ok (.int .u8 ((p.toNat / 16 : Nat) : Int)) w := by
      show ((binOp .shr T (.int .u8 (p.toNat : Int)) (.int k 4)).run P w) = _
      rw [binOp_shr, shift_shr_any _ _ _ _ (by omega)]
      rfl
    simp only [execOp, hx, hy, Sem.run_bind, Sem.run_pure, Result.andThen_ok, e, show eqGuard .shr T x y (B p) (.int k 4) = pure () from rfl]) h
theorem wpl_and15 {dst : Option Tmp} {T ty T' : TypeId} {x y : Operand} {pos : String} {after : Array Edge} {p : UInt8} (hx : a.eval x = B p) (hy : a.eval y = .int .u8 15)
    (h : wpList P ops Q rest (a.put dst (.int .u8 ((p.toNat % 16 : Nat) : Int))) w) : wpList P ops Q (⟨dst, .binOp .and T x y T', ty, pos, after, none⟩ :: rest) a w :=
  wpl_pure (fun w => by
    have e := binOp_and_B T p 15
    have e2 : B (p &&& 15) = .int .u8 ((p.toNat % 16 : Nat) : Int) := by unfold B; rw [and15]
    rw [e2] at e
    have e3 : (binOp .and T (B p) (.int .u8 15)).run P w = .ok (.int .u8 ((p.toNat % 16 : Nat) : Int)) w := congrArg (fun s : Sem Value => s.run P w) e
    simp only [execOp, hx, hy, Sem.run_bind, Sem.run_pure, Result.andThen_ok, e3, show eqGuard .and T x y (B p) (.int .u8 15) = pure () from rfl]) h
theorem wpl_lenSt {dst : Option Tmp} {T ty : TypeId} {x : Operand} {pos : String} {after : Array Edge} {l : List UInt8} (hT : P.underlying T = some .string) (hx : a.eval x = St l)
    (h : wpList P ops Q rest (a.put dst (.int .i64 (l.length : Int))) w) : wpList P ops Q (⟨dst, .call { callee := .builtin .len, args := #[x], argTypes := #[T] }, ty, pos, after, none⟩ :: rest) a w :=
  wpl_pure (fun w => by
    simp only [execOp, resolve, invoke, builtin, Sem.run_bind, Sem.run_pure, Result.andThen_ok, List.map_toArray, List.map_cons, List.map_nil, hx]
    simp [Builtin.len_, St, run_underlying hT, size_mk, goInt]) h
end

/-! ### The text of bytes -/
def digits : List UInt8 := [48, 49, 50, 51, 52, 53, 54, 55, 56, 57, 97, 98, 99, 100, 101, 102]
def texts : List UInt8 → List UInt8
  | [] => []
  | x :: xs => gb digits (x.toNat / 16) :: gb digits (x.toNat % 16) :: texts xs
theorem texts_append : ∀ l m, texts (l ++ m) = texts l ++ texts m
  | [], _ => rfl
  | x :: xs, m => by simp [texts, texts_append xs m]
theorem texts_length : ∀ l, (texts l).length = 2 * l.length
  | [] => rfl
  | x :: xs => by simp [texts, texts_length xs]; omega
theorem texts_take (l : List UInt8) (i : Nat) (h : i < l.length) : texts (l.take (i + 1)) = texts (l.take i) ++ [gb digits ((gb l i).toNat / 16), gb digits ((gb l i).toNat % 16)] := by
  rw [List.take_succ_eq_append_getElem h, texts_append, ← gb_eq h]
  rfl
theorem gb_texts : ∀ (l : List UInt8) (j : Nat), j < l.length → gb (texts l) (2 * j) = gb digits ((gb l j).toNat / 16) ∧ gb (texts l) (2 * j + 1) = gb digits ((gb l j).toNat % 16)
  | [], j, h => by simp at h
  | x :: xs, 0, _ => ⟨rfl, rfl⟩
  | x :: xs, j + 1, h => by
    have ih := gb_texts xs j (by simpa using h)
    have e1 : 2 * (j + 1) = 2 * j + 2 := by omega
    have e2 : 2 * (j + 1) + 1 = (2 * j + 1) + 2 := by omega
    rw [e2, e1]
    exact ih
theorem digit_val : ∀ k, k < 16 → (gb digits k).toNat = if k < 10 then 48 + k else 87 + k := by decide
end Go.Proofs.Ytjjkndbkjnfimaa
