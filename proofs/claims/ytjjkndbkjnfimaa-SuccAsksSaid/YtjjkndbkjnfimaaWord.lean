/-
  WORDS OF 32 BITS AS VALUES, and the operations on them as the walks meet them. No Go function is named here.
-/
import Derived.Test.YtjjkndbkjnfimaaBase
import Derived.Laws.Shifts
namespace Go.Proofs.Ytjjkndbkjnfimaa
set_option linter.unusedSimpArgs false
set_option linter.unusedVariables false
open Go.RowKit

/-- A word as a value. -/
def W (x : UInt32) : Value := .int .u32 (x.toNat : Int)
/-- Words as values. -/
def ws (l : List UInt32) : List Value := l.map W
abbrev aggw (l : List UInt32) : Value := .agg (ws l).toArray
def gw (l : List UInt32) (i : Nat) : UInt32 := l.getD i 0
/-- To the left, to the right. -/
def sl (x : UInt32) (n : Nat) : UInt32 := UInt32.ofNat (x.toNat * 2 ^ n)
def sr (x : UInt32) (n : Nat) : UInt32 := UInt32.ofNat (x.toNat / 2 ^ n)
/-- A byte as a word, a word's lowest byte. -/
def up (x : UInt8) : UInt32 := UInt32.ofNat x.toNat
def down (x : UInt32) : UInt8 := b8 (x.toNat : Int)
/-- Round to the right. -/
def rr (x : UInt32) (n : Nat) : UInt32 := sr x n ||| sl x (32 - n)

theorem ws_length (l : List UInt32) : (ws l).length = l.length := by simp [ws]
theorem ws_get {l : List UInt32} {i : Nat} (h : i < l.length) : (ws l)[i]? = some (W (gw l i)) := by
  simp [ws, gw, List.getD, h]
theorem ws_set (l : List UInt32) (i : Nat) (x : UInt32) : (ws l).set i (W x) = ws (l.set i x) := by simp [ws, List.map_set]
theorem gw_eq {l : List UInt32} {i : Nat} (h : i < l.length) : gw l i = l[i] := by simp [gw, List.getD, h]
theorem ws_oneCell (l : List UInt32) : ∀ v ∈ ws l, v.oneCell' = true := by
  intro v hv
  obtain ⟨x, _, rfl⟩ := List.mem_map.1 hv
  rfl
theorem W_oneCell (x : UInt32) : (W x).oneCell' = true := rfl

theorem ofInt_word (x : UInt32) : BitVec.ofInt 32 (x.toNat : Int) = x.toBitVec := by
  rw [BitVec.ofInt_natCast]
  show BitVec.ofNat 32 x.toBitVec.toNat = x.toBitVec
  simp
theorem u32_wrap32 (r : BitVec 32) : IntKind.u32.wrap (r.toNat : Int) = (r.toNat : Int) := by
  have := r.isLt
  simp [IntKind.wrap, IntKind.signed, IntKind.bits]
  omega
theorem W_eq {n : Int} {x : UInt32} (h : n = (x.toNat : Int)) : (Value.int .u32 n) = W x := by rw [h]; rfl

section
variable (t : TypeId) (x y : UInt32) (n : Int) (yk : IntKind)
@[go_sem] theorem eqGuard_W (op : BinOp) (o p : Operand) (v : Value) : eqGuard op t o p (W x) v = pure () := by cases op <;> rfl
@[go_sem] theorem binOp_add_W : binOp .add t (W x) (W y) = pure (W (x + y)) := by
  simp [W, binOp, Op.intArith]
  simp [IntKind.wrap, IntKind.signed, IntKind.bits]
@[go_sem] theorem binOp_xor_W : binOp .xor t (W x) (W y) = pure (W (x ^^^ y)) := by
  simp only [W, binOp, Op.intBits, ne_eq, not_true_eq_false, if_false, IntKind.bits, ofInt_word, u32_wrap32]
  rfl
@[go_sem] theorem binOp_or_W : binOp .or t (W x) (W y) = pure (W (x ||| y)) := by
  simp only [W, binOp, Op.intBits, ne_eq, not_true_eq_false, if_false, IntKind.bits, ofInt_word, u32_wrap32]
  rfl
@[go_sem] theorem binOp_and_W : binOp .and t (W x) (W y) = pure (W (x &&& y)) := by
  simp only [W, binOp, Op.intBits, ne_eq, not_true_eq_false, if_false, IntKind.bits, ofInt_word, u32_wrap32]
  rfl
@[go_sem] theorem unary_xor_W : Op.unary .xor (W x) = pure (W (~~~x)) := by
  have e : BitVec.ofInt 32 (IntKind.u32.max) = BitVec.allOnes 32 := by kernel_rfl
  simp only [W, Op.unary, Op.intBits, IntKind.signed, IntKind.bits, Bool.false_eq_true, if_false, e, ofInt_word, u32_wrap32]
  have e2 : (BitVec.allOnes 32 ^^^ x.toBitVec).toNat = (~~~x).toNat := by rw [BitVec.allOnes_xor]; rfl
  exact congrArg (fun k : Nat => (pure (Value.int .u32 (k : Int)) : Sem Value)) e2
@[go_sem] theorem binOp_shr_W (h : 0 ≤ n) : binOp .shr t (W x) (.int yk n) = pure (W (sr x n.toNat)) := by
  unfold W
  rw [binOp_shr, shift_shr_any _ _ _ _ h]
  congr 2
  unfold sr
  have hx := x.toNat_lt
  rw [UInt32.toNat_ofNat']
  show (x.toNat : Int) / 2 ^ min n.toNat 32 = _
  generalize n.toNat = k
  have e : x.toNat / 2 ^ min k 32 = x.toNat / 2 ^ k := by
    rcases Nat.le_total k 32 with h | h
    · rw [Nat.min_eq_left h]
    · rw [Nat.min_eq_right h, Nat.div_eq_of_lt hx, Nat.div_eq_of_lt (Nat.lt_of_lt_of_le hx (Nat.pow_le_pow_right (by omega) h))]
  have h2 : x.toNat / 2 ^ k < 2 ^ 32 := Nat.lt_of_le_of_lt (Nat.div_le_self _ _) hx
  rw [Nat.mod_eq_of_lt h2, ← e]
  simp
@[go_sem] theorem binOp_shl_W (h : 0 ≤ n) : binOp .shl t (W x) (.int yk n) = pure (W (sl x n.toNat)) := by
  unfold W
  rw [binOp_shl, shift_shl_any _ _ _ _ h]
  congr 2
  unfold sl
  rw [UInt32.toNat_ofNat']
  show IntKind.u32.wrap ((x.toNat : Int) * 2 ^ min n.toNat 32) = _
  generalize n.toNat = k
  have e : IntKind.u32.wrap ((x.toNat : Int) * 2 ^ min k 32) = (((x.toNat * 2 ^ min k 32) % 2 ^ 32 : Nat) : Int) := by
    simp [IntKind.wrap, IntKind.signed, IntKind.bits]
  rw [e]
  congr 1
  rcases Nat.le_total k 32 with h | h
  · rw [Nat.min_eq_left h]
  · rw [Nat.min_eq_right h, Nat.mul_mod_left]
    obtain ⟨d, rfl⟩ := Nat.exists_eq_add_of_le h
    rw [Nat.pow_add, Nat.mul_comm (2 ^ 32), ← Nat.mul_assoc, Nat.mul_mod_left]
end
section
variable {P : Program} (w : World) (src dst : TypeId) (b : UInt8) (x : UInt32) (n : Int)
@[go_sem] theorem run_convert_B_W (hs : (P.underlying src).isSome = true) (hd : P.underlying dst = some (.int .u32)) : (convert src dst (B b)).run P w = .ok (W (up b)) w := by
  have h := run_convert_int (P := P) w src dst .u8 (b.toNat : Int) hs (by simp [Program.intKind, hd])
  have hk : P.intKind dst = .u32 := by simp [Program.intKind, hd]
  rw [hk] at h
  have hx := b.toNat_lt
  rw [show B b = .int .u8 (b.toNat : Int) from rfl, h]
  congr 1
@[go_sem] theorem run_convert_W_B (hs : (P.underlying src).isSome = true) (hd : P.underlying dst = some (.int .u8)) : (convert src dst (W x)).run P w = .ok (B (down x)) w := by
  have h := run_convert_int (P := P) w src dst .u32 (x.toNat : Int) hs (by simp [Program.intKind, hd])
  have hk : P.intKind dst = .u8 := by simp [Program.intKind, hd]
  rw [hk] at h
  rw [show W x = .int .u32 (x.toNat : Int) from rfl, h]
  congr 1
  unfold down B
  rw [b8_toNat]
  simp [IntKind.wrap, IntKind.signed, IntKind.bits]
@[go_sem high] theorem run_convert_u64_B (hs : (P.underlying src).isSome = true) (hd : P.underlying dst = some (.int .u8)) : (convert src dst (.int .u64 n)).run P w = .ok (B (b8 n)) w := by
  have h := run_convert_int (P := P) w src dst .u64 n hs (by simp [Program.intKind, hd])
  have hk : P.intKind dst = .u8 := by simp [Program.intKind, hd]
  rw [hk] at h
  rw [h]
  unfold B
  rw [b8_toNat]
  simp [IntKind.wrap, IntKind.signed, IntKind.bits]
end
end Go.Proofs.Ytjjkndbkjnfimaa
