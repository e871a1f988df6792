/-
  PLAIN: bytes as one great number, the highest first. No Go in it.
-/
import Derived.Test.YtjjkndbkjnfimaaBase
namespace Go.Proofs.Ytjjkndbkjnfimaa
set_option linter.unusedSimpArgs false
set_option linter.unusedVariables false

/-- Is the one the lesser number? (Bytes, the highest first.) -/
def idlt : List UInt8 → List UInt8 → Bool
  | x :: xs, y :: ys => if x = y then idlt xs ys else decide (x < y)
  | _, _ => false
theorem idlt_same : ∀ (l : List UInt8), idlt l l = false
  | [] => rfl
  | x :: xs => by simp [idlt, idlt_same xs]
theorem idlt_at : ∀ (a b : List UInt8) (k : Nat), k < a.length → a.length = b.length → a.take k = b.take k → gb a k ≠ gb b k → idlt a b = decide (gb a k < gb b k)
  | [], _, k, h, _, _, _ => by simp at h
  | _ :: _, [], k, _, h, _, _ => by simp at h
  | x :: xs, y :: ys, 0, _, _, _, hne => by
    have : x ≠ y := hne
    simp [idlt, this, gb]
  | x :: xs, y :: ys, k + 1, hk, hl, ht, hne => by
    simp only [List.take_succ_cons, List.cons.injEq] at ht
    rw [idlt, if_pos ht.1, idlt_at xs ys k (by simpa using hk) (by simpa using hl) ht.2 hne]
    rfl
theorem take_snoc {a b : List UInt8} {k : Nat} (ha : k < a.length) (hb : k < b.length) (h : a.take k = b.take k) (hk : gb a k = gb b k) : a.take (k + 1) = b.take (k + 1) := by
  rw [List.take_succ_eq_append_getElem ha, List.take_succ_eq_append_getElem hb, h, ← gb_eq ha, ← gb_eq hb, hk]


/-- The number that bytes are, the highest first. -/
def num : List UInt8 → Nat
  | [] => 0
  | x :: xs => x.toNat * 256 ^ xs.length + num xs

theorem num_lt : ∀ (l : List UInt8), num l < 256 ^ l.length
  | [] => by simp [num]
  | x :: xs => by
    have h := num_lt xs
    have hx := x.toNat_lt
    simp only [num, List.length_cons, Nat.pow_succ]
    have : x.toNat * 256 ^ xs.length ≤ 255 * 256 ^ xs.length := Nat.mul_le_mul_right _ (by omega)
    omega

theorem num_inj : ∀ (a b : List UInt8), a.length = b.length → num a = num b → a = b
  | [], [], _, _ => rfl
  | [], _ :: _, h, _ => by simp at h
  | _ :: _, [], h, _ => by simp at h
  | x :: xs, y :: ys, hl, hn => by
    have hl' : xs.length = ys.length := by simpa using hl
    have h1 := num_lt xs
    have h2 := num_lt ys
    simp only [num] at hn
    rw [hl'] at hn h1
    have hp : 0 < 256 ^ ys.length := Nat.pow_pos (by omega)
    have hxy : x.toNat = y.toNat := by
      have e1 : (x.toNat * 256 ^ ys.length + num xs) / 256 ^ ys.length = x.toNat := by
        rw [Nat.mul_comm, Nat.mul_add_div hp, Nat.div_eq_of_lt h1, Nat.add_zero]
      have e2 : (y.toNat * 256 ^ ys.length + num ys) / 256 ^ ys.length = y.toNat := by
        rw [Nat.mul_comm, Nat.mul_add_div hp, Nat.div_eq_of_lt h2, Nat.add_zero]
      rw [← e1, ← e2, hn]
    rw [hxy] at hn
    rw [UInt8.toNat_inj.1 hxy, num_inj xs ys hl' (by omega)]

theorem num_set : ∀ (l : List UInt8) (i : Nat) (x : UInt8), i < l.length → num (l.set i x) + (gb l i).toNat * 256 ^ (l.length - 1 - i) = num l + x.toNat * 256 ^ (l.length - 1 - i)
  | [], _, _, h => by simp at h
  | y :: ys, 0, x, _ => by
    simp [num, gb]
    omega
  | y :: ys, i + 1, x, h => by
    have ih := num_set ys i x (by simpa using h)
    have e : (y :: ys).length - 1 - (i + 1) = ys.length - 1 - i := by simp; omega
    have eg : gb (y :: ys) (i + 1) = gb ys i := rfl
    rw [e, eg]
    simp only [List.set_cons_succ, num, List.length_set]
    omega

/-- A number's bytes, m of them. -/
def toBytes : Nat → Nat → List UInt8
  | 0, _ => []
  | m + 1, n => UInt8.ofNat (n / 256 ^ m) :: toBytes m n

theorem toBytes_length : ∀ (m n : Nat), (toBytes m n).length = m
  | 0, _ => rfl
  | m + 1, n => by simp [toBytes, toBytes_length m n]

theorem num_toBytes : ∀ (m n : Nat), num (toBytes m n) = n % 256 ^ m
  | 0, n => by simp [toBytes, num, Nat.mod_one]
  | m + 1, n => by
    simp only [toBytes, num, num_toBytes m n, toBytes_length]
    rw [UInt8.toNat_ofNat', show (2 : Nat) ^ 8 = 256 from rfl, Nat.pow_succ, Nat.mod_mul , Nat.mul_comm (256 ^ m), Nat.add_comm]

theorem toBytes_num (l : List UInt8) : toBytes l.length (num l) = l :=
  num_inj _ _ (toBytes_length _ _) (by rw [num_toBytes, Nat.mod_eq_of_lt (num_lt l)])

theorem idlt_num : ∀ (a b : List UInt8), a.length = b.length → idlt a b = decide (num a < num b)
  | [], [], _ => by simp [idlt, num]
  | [], _ :: _, h => by simp at h
  | _ :: _, [], h => by simp at h
  | x :: xs, y :: ys, hl => by
    have hl' : xs.length = ys.length := by simpa using hl
    have h1 := num_lt xs
    have h2 := num_lt ys
    have ih := idlt_num xs ys hl'
    have e1 : num (x :: xs) = x.toNat * 256 ^ ys.length + num xs := by rw [num, hl']
    have e2 : num (y :: ys) = y.toNat * 256 ^ ys.length + num ys := rfl
    simp only [idlt, e1, e2]
    rw [hl'] at h1
    by_cases hxy : x = y
    · rw [if_pos hxy, ih, hxy]
      simp
    · rw [if_neg hxy]
      have hne : x.toNat ≠ y.toNat := fun h => hxy (UInt8.toNat_inj.1 h)
      rw [decide_eq_decide, UInt8.lt_iff_toNat_lt]
      constructor
      · intro h
        have : (x.toNat + 1) * 256 ^ ys.length ≤ y.toNat * 256 ^ ys.length := Nat.mul_le_mul_right _ h
        rw [Nat.add_mul] at this
        omega
      · intro h
        apply Classical.byContradiction
        intro h'
        have : (y.toNat + 1) * 256 ^ ys.length ≤ x.toNat * 256 ^ ys.length := Nat.mul_le_mul_right _ (by omega)
        rw [Nat.add_mul] at this
        omega

/-- a and 2^k, round behind the last. -/
def addp (a : List UInt8) (k : Nat) : List UInt8 := toBytes 32 (num a + 2 ^ k)

theorem addp_length (a : List UInt8) (k : Nat) : (addp a k).length = 32 := toBytes_length _ _
theorem num_addp (a : List UInt8) (k : Nat) : num (addp a k) = (num a + 2 ^ k) % 256 ^ 32 := num_toBytes _ _
theorem addp_of {a x : List UInt8} {k : Nat} (hx : x.length = 32) (h : num x = (num a + 2 ^ k) % 256 ^ 32) : x = addp a k :=
  num_inj _ _ (by rw [hx, addp_length]) (by rw [h, num_addp])
end Go.Proofs.Ytjjkndbkjnfimaa
