/-
  THE SMALL FUNCTIONS OF THE HASH: rounds to the right, and what is made of them; the tables.
-/
import Derived.Test.YtjjkndbkjnfimaaProg
import Derived.Test.YtjjkndbkjnfimaaWord
namespace Go.Proofs.Ytjjkndbkjnfimaa
set_option linter.unusedSimpArgs false
set_option linter.unusedVariables false
open Go.RowKit
attribute [local irreducible] wpQuiet Calls

theorem or_comm32 (x y : UInt32) : x ||| y = y ||| x := UInt32.or_comm x y

theorem rotBits (n : Nat) (h1 : 1 ≤ n) (h2 : n ≤ 31) : bits .and .u64 (IntKind.u64.wrap (-(n : Int))) 31 = 32 - (n : Int) := by
  have : ∀ m : Fin 32, m.val = 0 ∨ bits .and .u64 (IntKind.u64.wrap (-(m.val : Int))) 31 = 32 - (m.val : Int) := by decide
  exact (this ⟨n, by omega⟩).resolve_left (by simp; omega)

theorem rotateLeft (x : UInt32) (k : Int) (h1 : -31 ≤ k) (h2 : k ≤ -1) (w : World) :
    Calls Try.prog 49 #[W x, .int .i64 k] w fun e w' => e = .returned (W (rr x (-k).toNat)) ∧ w' = w := by
  obtain ⟨n, rfl⟩ : ∃ n : Nat, k = -(n : Int) := ⟨(-k).toNat, by omega⟩
  have hb := rotBits n (by omega) (by omega)
  have h3 : (0 : Int) ≤ 32 - (n : Int) := by omega
  have h4 : 32 - (32 - (n : Int)) = (n : Int) := by omega
  have h5 : (0 : Int) ≤ (n : Int) := by omega
  have h6 : (n : Int) ≤ 32 := by omega
  have e1 : (- -(n : Int)).toNat = n := by omega
  have e2 : (32 - (n : Int)).toNat = 32 - n := by omega
  unfold rr
  rw [e1, or_comm32]
  go_enter Try.func49, Try.ntmps49
  go_wp2_with (first | fail)
  go_ret
  exact ⟨rfl, rfl⟩

theorem refRot (x : UInt32) (k : Int) (h1 : 0 ≤ k) (h2 : k ≤ 32) (w : World) :
    Calls Try.prog 36 #[W x, .int .u64 k] w fun e w' => e = .returned (W (rr x k.toNat)) ∧ w' = w := by
  obtain ⟨n, rfl⟩ : ∃ n : Nat, k = (n : Int) := ⟨k.toNat, by omega⟩
  have h3 : (0 : Int) ≤ (n : Int) := by omega
  have h4 : (0 : Int) ≤ 32 - (n : Int) := by omega
  have e2 : (32 - (n : Int)).toNat = 32 - n := by omega
  go_enter Try.func36, Try.ntmps36
  go_wp2_with (first | fail)
  go_ret
  exact ⟨rfl, rfl⟩

/-! ### What is made of words -/
def ssig0 (x : UInt32) : UInt32 := rr x 7 ^^^ rr x 18 ^^^ sr x 3
def ssig1 (x : UInt32) : UInt32 := rr x 17 ^^^ rr x 19 ^^^ sr x 10
def bsig0 (x : UInt32) : UInt32 := rr x 2 ^^^ rr x 13 ^^^ rr x 22
def bsig1 (x : UInt32) : UInt32 := rr x 6 ^^^ rr x 11 ^^^ rr x 25

theorem small0 (x : UInt32) (w : World) : Calls Try.prog 45 #[W x] w fun e w' => e = .returned (W (ssig0 x)) ∧ w' = w := by
  go_enter Try.func45, Try.ntmps45
  go_wp2_with (first | (go_at_call 49; refine (rotateLeft _ _ (by omega) (by omega) _).mono ?_; rintro _ _ ⟨rfl, hww⟩; subst hww))
  go_ret
  exact ⟨rfl, rfl⟩
theorem small1 (x : UInt32) (w : World) : Calls Try.prog 44 #[W x] w fun e w' => e = .returned (W (ssig1 x)) ∧ w' = w := by
  go_enter Try.func44, Try.ntmps44
  go_wp2_with (first | (go_at_call 49; refine (rotateLeft _ _ (by omega) (by omega) _).mono ?_; rintro _ _ ⟨rfl, hww⟩; subst hww))
  go_ret
  exact ⟨rfl, rfl⟩
theorem great0 (x : UInt32) (w : World) : Calls Try.prog 48 #[W x] w fun e w' => e = .returned (W (bsig0 x)) ∧ w' = w := by
  go_enter Try.func48, Try.ntmps48
  go_wp2_with (first | (go_at_call 49; refine (rotateLeft _ _ (by omega) (by omega) _).mono ?_; rintro _ _ ⟨rfl, hww⟩; subst hww))
  go_ret
  exact ⟨rfl, rfl⟩
theorem great1 (x : UInt32) (w : World) : Calls Try.prog 47 #[W x] w fun e w' => e = .returned (W (bsig1 x)) ∧ w' = w := by
  go_enter Try.func47, Try.ntmps47
  go_wp2_with (first | (go_at_call 49; refine (rotateLeft _ _ (by omega) (by omega) _).mono ?_; rintro _ _ ⟨rfl, hww⟩; subst hww))
  go_ret
  exact ⟨rfl, rfl⟩

/-! ### The tables -/
def kconsts : List UInt32 := [
  0x428a2f98, 0x71374491, 0xb5c0fbcf, 0xe9b5dba5, 0x3956c25b, 0x59f111f1, 0x923f82a4, 0xab1c5ed5,
  0xd807aa98, 0x12835b01, 0x243185be, 0x550c7dc3, 0x72be5d74, 0x80deb1fe, 0x9bdc06a7, 0xc19bf174,
  0xe49b69c1, 0xefbe4786, 0x0fc19dc6, 0x240ca1cc, 0x2de92c6f, 0x4a7484aa, 0x5cb0a9dc, 0x76f988da,
  0x983e5152, 0xa831c66d, 0xb00327c8, 0xbf597fc7, 0xc6e00bf3, 0xd5a79147, 0x06ca6351, 0x14292967,
  0x27b70a85, 0x2e1b2138, 0x4d2c6dfc, 0x53380d13, 0x650a7354, 0x766a0abb, 0x81c2c92e, 0x92722c85,
  0xa2bfe8a1, 0xa81a664b, 0xc24b8b70, 0xc76c51a3, 0xd192e819, 0xd6990624, 0xf40e3585, 0x106aa070,
  0x19a4c116, 0x1e376c08, 0x2748774c, 0x34b0bcb5, 0x391c0cb3, 0x4ed8aa4a, 0x5b9cca4f, 0x682e6ff3,
  0x748f82ee, 0x78a5636f, 0x84c87814, 0x8cc70208, 0x90befffa, 0xa4506ceb, 0xbef9a3f7, 0xc67178f2]
def hinit : List UInt32 := [0x6a09e667, 0xbb67ae85, 0x3c6ef372, 0xa54ff53a, 0x510e527f, 0x9b05688c, 0x1f83d9ab, 0x5be0cd19]
theorem kconsts_length : kconsts.length = 64 := rfl
theorem hinit_length : hinit.length = 8 := rfl

end Go.Proofs.Ytjjkndbkjnfimaa
