/-
  WHAT THE SIGNATURES FOR ONCE COME TO, plainly, on lists of bytes. No program in sight.
-/
import Derived.Test.YtbnjgldilckhpaaShaSpec
namespace Go.Proofs.Ytbnjgldilckhpaa
set_option linter.unusedSimpArgs false
set_option linter.unusedVariables false

def four (n : Int) : List UInt8 := [b8 (n / 16777216), b8 (n / 65536), b8 (n / 256), b8 n]
def two (n : Int) : List UInt8 := [b8 (n / 256), b8 n]
/-- Name and number. -/
def headOf (nm : List UInt8) (q : Int) : List UInt8 := nm ++ four q
/-- The hash of a mark, of a byte and a hash behind it. -/
def hashOf (nm : List UInt8) (q mark by_ : Int) (t : List UInt8) : List UInt8 := hash (headOf nm q ++ two mark ++ [b8 by_] ++ t)
/-- n steps along a chain, from step j on. -/
def chain (nm : List UInt8) (q i j : Int) (t : List UInt8) : Nat → List UInt8
  | 0 => t
  | n + 1 => hashOf nm q i (j + n) (chain nm q i j t n)
theorem four_length (n : Int) : (four n).length = 4 := rfl
theorem two_length (n : Int) : (two n).length = 2 := rfl
theorem headOf_length {nm : List UInt8} (h : nm.length = 16) (q : Int) : (headOf nm q).length = 20 := by simp [headOf, four, h]
theorem hashOf_length (nm : List UInt8) (q mark by_ : Int) (t : List UInt8) : (hashOf nm q mark by_ t).length = 32 := hash_length _
theorem chain_length {nm : List UInt8} {q i j : Int} {t : List UInt8} (h : t.length = 32) : ∀ n, (chain nm q i j t n).length = 32
  | 0 => h
  | n + 1 => hashOf_length _ _ _ _ _
end Go.Proofs.Ytbnjgldilckhpaa
