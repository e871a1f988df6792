/-
  DIGITS, plainly; the operations that the code reckons them by.
-/
import Derived.Test.YtbnjgldilckhpaaOtsSpec
import Derived.Test.YtbnjgldilckhpaaRow
import Derived.Test.YtbnjgldilckhpaaPad
namespace Go.Proofs.Ytbnjgldilckhpaa
set_option linter.unusedSimpArgs false
set_option linter.unusedVariables false
open Go.RowKit

def shrB (p : UInt8) (n : Nat) : UInt8 := UInt8.ofNat (p.toNat / 2 ^ n)
def low2 (p : UInt8) : UInt8 := p &&& 3
theorem low2_toNat (p : UInt8) : (low2 p).toNat = p.toNat % 4 := by
  unfold low2
  rw [UInt8.toNat_and]
  exact Nat.and_two_pow_sub_one_eq_mod p.toNat 2
theorem shrB_toNat (p : UInt8) (n : Nat) : (shrB p n).toNat = p.toNat / 2 ^ n := by
  unfold shrB
  rw [UInt8.toNat_ofNat', Nat.mod_eq_of_lt]
  exact Nat.lt_of_le_of_lt (Nat.div_le_self _ _) p.toNat_lt
/-- Digit number i. -/
def dig (b : List UInt8) (i : Nat) : Nat := (gb b (i / 4)).toNat / 2 ^ (6 - 2 * (i % 4)) % 4
theorem dig_low2 (b : List UInt8) (i : Nat) : (low2 (shrB (gb b (i / 4)) (6 - 2 * (i % 4)))).toNat = dig b i := by rw [low2_toNat, shrB_toNat]; rfl
theorem dig_lt (b : List UInt8) (i : Nat) : dig b i < 4 := Nat.mod_lt _ (by omega)
/-- What the first n digits lack. -/
def sumTo (b : List UInt8) : Nat → Nat
  | 0 => 0
  | n + 1 => sumTo b n + (3 - dig b n)
theorem sumTo_le (b : List UInt8) : ∀ n, sumTo b n ≤ 3 * n
  | 0 => Nat.le_refl _
  | n + 1 => by rw [sumTo]; have := sumTo_le b n; omega
def partS (x : UInt8) : Nat → Nat
  | 0 => 0
  | s + 1 => partS x s + (3 - (low2 (shrB x (2 * s))).toNat)
theorem partS_le (x : UInt8) : ∀ n, partS x n ≤ 3 * n
  | 0 => Nat.le_refl _
  | n + 1 => by rw [partS]; have := partS_le x n; omega
theorem sumTo_four (b : List UInt8) (k : Nat) : sumTo b (4 * (k + 1)) = sumTo b (4 * k) + partS (gb b k) 4 := by
  have e : ∀ j, j < 4 → dig b (4 * k + j) = (low2 (shrB (gb b k) (6 - 2 * j))).toNat := fun j hj => by
    rw [← dig_low2]
    have h1 : (4 * k + j) / 4 = k := by omega
    have h2 : (4 * k + j) % 4 = j := by omega
    rw [h1, h2]
  have e0 := e 0 (by omega)
  have e1 := e 1 (by omega)
  have e2 := e 2 (by omega)
  have e3 := e 3 (by omega)
  simp only [Nat.add_zero] at e0
  show sumTo b (4 * k + 3 + 1) = _
  simp only [sumTo, partS, e0, e1, e2, e3]
  simp only [Nat.mul_zero, Nat.mul_one, Nat.sub_zero, Nat.reduceMul, Nat.reduceSub]
  omega
def chk (h : List UInt8) : Int := 64 * (sumTo h 128 : Nat)
/-- The hash of a text, and the sum behind it. -/
def withSum (h : List UInt8) : List UInt8 := h ++ two (chk h)
def msgOf (nm : List UInt8) (q : Int) (c msg : List UInt8) : List UInt8 := hash (headOf nm q ++ two 33153 ++ c ++ msg)
/-- The digits of a text. -/
def digOf (nm : List UInt8) (q : Int) (c msg : List UInt8) (i : Nat) : Nat := dig (withSum (msgOf nm q c msg)) i
theorem msgOf_length (nm : List UInt8) (q : Int) (c msg : List UInt8) : (msgOf nm q c msg).length = 32 := hash_length _
theorem withSum_length {h : List UInt8} (hl : h.length = 32) : (withSum h).length = 34 := by simp [withSum, hl, two]
theorem digOf_lt (nm : List UInt8) (q : Int) (c msg : List UInt8) (i : Nat) : digOf nm q c msg i < 4 := dig_lt _ _
theorem dig_front (h t : List UInt8) (i : Nat) (hi : i / 4 < h.length) : dig (h ++ t) i = dig h i := by
  have : gb (h ++ t) (i / 4) = gb h (i / 4) := by simp [gb, List.getD, List.getElem?_append_left hi]
  unfold dig
  rw [this]

/-- Whole numbers as cells. -/
def ii (f : Nat → Nat) (n : Nat) : List Value := (List.range n).map fun i => .int .i64 (f i : Int)
theorem ii_length (f : Nat → Nat) (n : Nat) : (ii f n).length = n := by simp [ii]
theorem ii_get (f : Nat → Nat) {n i : Nat} (h : i < n) : (ii f n)[i]? = some (.int .i64 (f i : Int)) := by
  simp [ii, h]
theorem ii_one (f : Nat → Nat) (n : Nat) : ∀ v ∈ ii f n, v.oneCell' = true := by
  intro v hv
  obtain ⟨x, _, rfl⟩ := List.mem_map.1 hv
  rfl
/-- The first i are laid, the others are nought. -/
def laidI (f : Nat → Nat) (i n : Nat) : List Value := ii f i ++ List.replicate (n - i) (.int .i64 0)
theorem laidI_length (f : Nat → Nat) {i n : Nat} (h : i ≤ n) : (laidI f i n).length = n := by simp [laidI, ii_length]; omega
theorem laidI_zero (f : Nat → Nat) (n : Nat) : laidI f 0 n = List.replicate n (.int .i64 0) := by simp [laidI, ii]
theorem laidI_all (f : Nat → Nat) (n : Nat) : laidI f n n = ii f n := by simp [laidI]
theorem laidI_get (f : Nat → Nat) {i n : Nat} (h : i < n) : (laidI f i n)[i]? = some (.int .i64 0) := by
  rw [laidI, List.getElem?_append_right (by rw [ii_length]; omega), ii_length, Nat.sub_self, List.getElem?_replicate, if_pos (by omega)]
theorem laidI_set (f : Nat → Nat) {i n : Nat} (h : i < n) : (laidI f i n).set i (.int .i64 (f i : Int)) = laidI f (i + 1) n := by
  rw [laidI, List.set_append_right _ _ (by rw [ii_length]; omega), ii_length, Nat.sub_self]
  obtain ⟨m, hm⟩ : ∃ m, n - i = m + 1 := ⟨n - i - 1, by omega⟩
  rw [hm, List.replicate_succ, List.set_cons_zero, laidI, show n - (i + 1) = m by omega]
  simp [ii, List.range_succ]

section
variable {P : Program} {ops : Array Oper} {rest : List Oper} {Q : Exit → Act → World → Prop} {a : Act} {w : World}
theorem wpl_shrB {dst : Option Tmp} {x y : Operand} {T ty T' : TypeId} {pos : String} {after : Array Edge} {p : UInt8} {n : Int} {k : IntKind} (hx : a.eval x = B p) (hy : a.eval y = .int k n) (h0 : 0 ≤ n) (h1 : n ≤ 8)
    (h : wpList P ops Q rest (a.put dst (B (shrB p n.toNat))) w) :
    wpList P ops Q (⟨dst, .binOp .shr T x y T', ty, pos, after, none⟩ :: rest) a w :=
  wpl_pure (fun w => by
    have e : binOp .shr T (B p) (.int k n) = pure (B (shrB p n.toNat)) := by
      unfold B
      rw [binOp_shr, shift_shr_any _ _ _ _ h0]
      congr 2
      rw [shrB_toNat]
      show (p.toNat : Int) / 2 ^ min n.toNat 8 = _
      rw [Nat.min_eq_left (by omega)]
      norm_cast
    simp only [execOp, hx, hy, Sem.run_bind, Sem.run_pure, Result.andThen_ok, e, show eqGuard .shr T x y (B p) (.int k n) = pure () from rfl]) h
theorem wpl_and3 {dst : Option Tmp} {x y : Operand} {T ty T' : TypeId} {pos : String} {after : Array Edge} {p : UInt8} (hx : a.eval x = B p) (hy : a.eval y = .int .u8 3)
    (h : wpList P ops Q rest (a.put dst (B (low2 p))) w) :
    wpList P ops Q (⟨dst, .binOp .and T x y T', ty, pos, after, none⟩ :: rest) a w :=
  wpl_pure (fun w => by
    have e : binOp .and T (B p) (.int .u8 3) = pure (B (low2 p)) := binOp_and_B T p 3
    simp only [execOp, hx, hy, Sem.run_bind, Sem.run_pure, Result.andThen_ok, e, show eqGuard .and T x y (B p) (.int .u8 3) = pure () from rfl]) h
end
end Go.Proofs.Ytbnjgldilckhpaa
