/-
  WHAT TREES OF SIGNATURES COME TO, plainly, on lists of bytes. No program in sight.
-/
import Derived.Test.YtbnjgldilckhpaaOtsLaw
import Derived.Test.YtbnjgldilckhpaaLms0
namespace Go.Proofs.Ytbnjgldilckhpaa
set_option linter.unusedSimpArgs false
set_option linter.unusedVariables false

def numOf (l : List UInt8) : Int := ((gb l 0).toNat * 16777216 + (gb l 1).toNat * 65536 + (gb l 2).toNat * 256 + (gb l 3).toNat : Nat)
theorem numOf_lo (l : List UInt8) : 0 ≤ numOf l := by unfold numOf; omega
theorem numOf_hi (l : List UInt8) : numOf l < 4294967296 := by
  unfold numOf
  have h0 := (gb l 0).toNat_lt
  have h1 := (gb l 1).toNat_lt
  have h2 := (gb l 2).toNat_lt
  have h3 := (gb l 3).toNat_lt
  omega
theorem numOf_four {n : Int} (h0 : 0 ≤ n) (h1 : n < 4294967296) (t : List UInt8) : numOf (four n ++ t) = n := by
  unfold numOf
  rw [show gb (four n ++ t) 0 = b8 (n / 16777216) from rfl, show gb (four n ++ t) 1 = b8 (n / 65536) from rfl, show gb (four n ++ t) 2 = b8 (n / 256) from rfl, show gb (four n ++ t) 3 = b8 n from rfl]
  have e0 := b8_toNat (n / 16777216)
  have e1 := b8_toNat (n / 65536)
  have e2 := b8_toNat (n / 256)
  have e3 := b8_toNat n
  omega

/-- The hash of a node. -/
def nodeOf (nm : List UInt8) (r : Int) (mark : UInt8) (body : List UInt8) : List UInt8 := hash (headOf nm r ++ [mark, mark] ++ body)
theorem nodeOf_length (nm : List UInt8) (r : Int) (mark : UInt8) (body : List UInt8) : (nodeOf nm r mark body).length = 32 := hash_length _
/-- Node r of the tree of n leaves. -/
def tn (nm seed : List UInt8) (n r : Nat) : List UInt8 := if h : n ≤ r ∨ r = 0 then nodeOf nm (r : Int) 130 (pubOf nm ((r : Int) - (n : Int)) seed) else nodeOf nm (r : Int) 131 (tn nm seed n (2 * r) ++ tn nm seed n (2 * r + 1))
termination_by n - r
decreasing_by all_goals omega
theorem tn_leaf {nm seed : List UInt8} {n r : Nat} (h : n ≤ r) : tn nm seed n r = nodeOf nm (r : Int) 130 (pubOf nm ((r : Int) - (n : Int)) seed) := by
  rw [tn, dif_pos (Or.inl h)]
theorem tn_inner {nm seed : List UInt8} {n r : Nat} (h : r < n) (h0 : 0 < r) : tn nm seed n r = nodeOf nm (r : Int) 131 (tn nm seed n (2 * r) ++ tn nm seed n (2 * r + 1)) := by
  rw [tn, dif_neg (by omega)]
theorem tn_length (nm seed : List UInt8) (n r : Nat) : (tn nm seed n r).length = 32 := by
  rw [tn]
  split <;> exact nodeOf_length _ _ _ _

/-- The public key. -/
def lpub (nm seed : List UInt8) (h : Nat) : List UInt8 := four (h : Int) ++ four 2 ++ nm ++ tn nm seed (2 ^ h) 1
theorem lpub_length {nm seed : List UInt8} (hnm : nm.length = 16) (h : Nat) : (lpub nm seed h).length = 56 := by simp [lpub, four_length, hnm, tn_length]
/-- The way up from node r, the sides. -/
def path (nm seed : List UInt8) (n r : Nat) : List UInt8 := if h : r ≤ 1 then [] else tn nm seed n (r ^^^ 1) ++ path nm seed n (r / 2)
termination_by r
decreasing_by omega
theorem path_end {nm seed : List UInt8} {n r : Nat} (h : r ≤ 1) : path nm seed n r = [] := by rw [path, dif_pos h]
theorem path_step {nm seed : List UInt8} {n r : Nat} (h : 1 < r) : path nm seed n r = tn nm seed n (r ^^^ 1) ++ path nm seed n (r / 2) := by rw [path, dif_neg (by omega)]
theorem path_length (nm seed : List UInt8) (n : Nat) : ∀ (h r : Nat), 2 ^ h ≤ r → r < 2 ^ (h + 1) → (path nm seed n r).length = 32 * h
  | 0, r, h0, h1 => by rw [path_end (by omega)]; rfl
  | h + 1, r, h0, h1 => by
    have hp : 0 < 2 ^ h := Nat.pow_pos (by decide)
    rw [path_step (by rw [Nat.pow_succ] at h0; omega), List.length_append, tn_length, path_length nm seed n h (r / 2) (by rw [Nat.pow_succ] at h0; omega) (by rw [Nat.pow_succ] at h1; omega)]
    omega
/-- A signature. -/
def lsig (nm seed : List UInt8) (h q : Nat) (msg : List UInt8) : List UInt8 := four (q : Int) ++ sigOf nm (q : Int) seed msg ++ four (h : Int) ++ path nm seed (2 ^ h) (2 ^ h + q)
theorem lsig_length {nm seed msg : List UInt8} {h q : Nat} (hq : q < 2 ^ h) : (lsig nm seed h q msg).length = 4300 + 32 * h := by
  simp only [lsig, List.length_append, four_length, sigOf_length, path_length nm seed (2 ^ h) h (2 ^ h + q) (by omega) (by rw [Nat.pow_succ]; omega)]

/-- Up from node r. -/
def climb (nm : List UInt8) (r : Nat) (t p : List UInt8) : List UInt8 :=
  if h : r ≤ 1 then t else climb nm (r / 2) (nodeOf nm ((r / 2 : Nat) : Int) 131 (if r % 2 = 1 then p.take 32 ++ t else t ++ p.take 32)) (p.drop 32)
termination_by r
decreasing_by omega
theorem climb_end {nm t p : List UInt8} {r : Nat} (h : r ≤ 1) : climb nm r t p = t := by rw [climb, dif_pos h]
theorem climb_step {nm t p : List UInt8} {r : Nat} (h : 1 < r) : climb nm r t p = climb nm (r / 2) (nodeOf nm ((r / 2 : Nat) : Int) 131 (if r % 2 = 1 then p.take 32 ++ t else t ++ p.take 32)) (p.drop 32) := by rw [climb, dif_neg (by omega)]
theorem climb_length {nm : List UInt8} : ∀ (f r : Nat), r ≤ f → ∀ {t p : List UInt8}, t.length = 32 → (climb nm r t p).length = 32
  | 0, r, hf, t, p, h => by rw [climb_end (by omega), h]
  | f + 1, r, hf, t, p, h => by
    by_cases hr : r ≤ 1
    · rw [climb_end hr, h]
    · rw [climb_step (by omega)]
      exact climb_length f (r / 2) (by omega) (nodeOf_length _ _ _ _)

/-- What is wrong with a signature. -/
def badPub (pub : List UInt8) : Prop := pub.length ≠ 56 ∨ numOf pub < 1 ∨ 5 < numOf pub ∨ numOf (pub.drop 4) ≠ 2
def badSig (h : Nat) (sig : List UInt8) : Prop := sig.length ≠ 4300 + 32 * h ∨ numOf (sig.drop 4296) ≠ (h : Int) ∨ ((2 ^ h : Nat) : Int) ≤ numOf sig
instance (pub : List UInt8) : Decidable (badPub pub) := by unfold badPub; infer_instance
instance (h : Nat) (sig : List UInt8) : Decidable (badSig h sig) := by unfold badSig; infer_instance
def nmOf (pub : List UInt8) : List UInt8 := (pub.drop 8).take 16
def otsOf (sig : List UInt8) : List UInt8 := (sig.drop 4).take 4292
def rootOf (nm : List UInt8) (h : Nat) (msg sig : List UInt8) : List UInt8 :=
  climb nm (2 ^ h + (numOf sig).toNat) (nodeOf nm ((2 ^ h + (numOf sig).toNat : Nat) : Int) 130 (backId nm (numOf sig) msg (otsOf sig))) (sig.drop 4300)
def lcheck (pub msg sig : List UInt8) : Int :=
  if badPub pub then 11
  else if badSig (numOf pub).toNat sig then 12
  else if backErr (otsOf sig) ≠ 0 then backErr (otsOf sig)
  else if rootOf (nmOf pub) (numOf pub).toNat msg sig ≠ pub.drop 24 then 12 else 0
end Go.Proofs.Ytbnjgldilckhpaa
