/-
  THE PLAIN LAW: a signature leads up to the tree's top, and is right by its public key. No program in sight.
-/
import Derived.Test.YtbnjgldilckhpaaLmsSpec
namespace Go.Proofs.Ytbnjgldilckhpaa
set_option linter.unusedSimpArgs false
set_option linter.unusedVariables false

theorem xor_even {r : Nat} (h : r % 2 = 0) : r ^^^ 1 = r + 1 := by
  have h1 : (r ^^^ 1) % 2 = 1 := by
    have e := Nat.xor_mod_two_pow (a := r) (b := 1) (n := 1)
    rw [Nat.pow_one, h] at e
    rw [e]
    rfl
  have h2 : (r ^^^ 1) / 2 = r / 2 := by rw [Nat.xor_div_two]; simp
  omega
theorem xor_odd {r : Nat} (h : r % 2 = 1) : r ^^^ 1 = r - 1 := by
  have h1 : (r ^^^ 1) % 2 = 0 := by
    have e := Nat.xor_mod_two_pow (a := r) (b := 1) (n := 1)
    rw [Nat.pow_one, h] at e
    rw [e]
    rfl
  have h2 : (r ^^^ 1) / 2 = r / 2 := by rw [Nat.xor_div_two]; simp
  omega
theorem climb_path (nm seed : List UInt8) (n : Nat) : ∀ (f r : Nat), r ≤ f → 0 < r → r < 2 * n → climb nm r (tn nm seed n r) (path nm seed n r) = tn nm seed n 1
  | 0, r, hf, h0, _ => by omega
  | f + 1, r, hf, h0, hn => by
    by_cases h1 : r ≤ 1
    · obtain rfl : r = 1 := by omega
      rw [climb_end (by omega)]
    · have hs := tn_length nm seed n (r ^^^ 1)
      rw [climb_step (by omega), path_step (by omega), List.take_left' hs, List.drop_left' hs]
      have e : nodeOf nm ((r / 2 : Nat) : Int) 131 (if r % 2 = 1 then tn nm seed n (r ^^^ 1) ++ tn nm seed n r else tn nm seed n r ++ tn nm seed n (r ^^^ 1)) = tn nm seed n (r / 2) := by
        rw [tn_inner (r := r / 2) (by omega) (by omega)]
        by_cases hp : r % 2 = 1
        · rw [if_pos hp, xor_odd hp, show 2 * (r / 2) = r - 1 by omega, show r - 1 + 1 = r by omega]
        · rw [if_neg hp, xor_even (by omega), show 2 * (r / 2) = r by omega]
      rw [e]
      exact climb_path nm seed n f (r / 2) (by omega) (by omega) (by omega)

theorem numOf_lpub {nm seed : List UInt8} {h : Nat} (h5 : h ≤ 5) : numOf (lpub nm seed h) = (h : Int) := by
  rw [lpub, List.append_assoc, List.append_assoc]
  exact numOf_four (by omega) (by omega) _
theorem numOf_lpub4 {nm seed : List UInt8} {h : Nat} : numOf ((lpub nm seed h).drop 4) = 2 := by
  rw [lpub, List.append_assoc, List.append_assoc, List.drop_left' (four_length _)]
  exact numOf_four (by omega) (by omega) _
theorem good_lpub {nm seed : List UInt8} (hnm : nm.length = 16) {h : Nat} (h1 : 1 ≤ h) (h5 : h ≤ 5) : ¬ badPub (lpub nm seed h) := by
  unfold badPub
  rw [numOf_lpub h5, numOf_lpub4, lpub_length hnm]
  omega
theorem numOf_lsig {nm seed msg : List UInt8} {h q : Nat} (hq : q < 4294967296) : numOf (lsig nm seed h q msg) = (q : Int) := by
  rw [lsig, List.append_assoc, List.append_assoc]
  exact numOf_four (by omega) (by omega) _
theorem numOf_lsig4 {nm seed msg : List UInt8} {h q : Nat} (h5 : h ≤ 5) : numOf ((lsig nm seed h q msg).drop 4296) = (h : Int) := by
  rw [lsig, List.append_assoc, List.drop_left' (by rw [List.length_append, four_length, sigOf_length])]
  exact numOf_four (by omega) (by omega) _
theorem good_lsig {nm seed msg : List UInt8} {h q : Nat} (h5 : h ≤ 5) (hq : q < 2 ^ h) : ¬ badSig h (lsig nm seed h q msg) := by
  have h32 : 2 ^ h ≤ 2 ^ 5 := Nat.pow_le_pow_right (by decide) h5
  unfold badSig
  rw [numOf_lsig (by omega), numOf_lsig4 h5, lsig_length hq]
  omega
theorem ots_lsig {nm seed msg : List UInt8} {h q : Nat} : otsOf (lsig nm seed h q msg) = sigOf nm (q : Int) seed msg := by
  rw [otsOf, lsig, List.append_assoc, List.append_assoc, List.drop_left' (four_length _), List.take_left' (sigOf_length _ _ _ _)]
theorem rest_lsig {nm seed msg : List UInt8} {h q : Nat} : (lsig nm seed h q msg).drop 4300 = path nm seed (2 ^ h) (2 ^ h + q) := by
  rw [lsig, List.drop_left' (by simp only [List.length_append, four_length, sigOf_length])]
theorem nm_lpub {nm seed : List UInt8} (hnm : nm.length = 16) {h : Nat} : nmOf (lpub nm seed h) = nm := by
  rw [nmOf, lpub, List.append_assoc, List.drop_left' (by simp only [List.length_append, four_length]), List.take_left' hnm]
theorem top_lpub {nm seed : List UInt8} (hnm : nm.length = 16) {h : Nat} : (lpub nm seed h).drop 24 = tn nm seed (2 ^ h) 1 := by
  rw [lpub, List.drop_left' (by simp only [List.length_append, four_length, hnm])]
theorem root_lsig {nm seed msg : List UInt8} {h q : Nat} (h5 : h ≤ 5) (hq : q < 2 ^ h) : rootOf nm h msg (lsig nm seed h q msg) = tn nm seed (2 ^ h) 1 := by
  have h32 : 2 ^ h ≤ 2 ^ 5 := Nat.pow_le_pow_right (by decide) h5
  have hp : 0 < 2 ^ h := Nat.pow_pos (by decide)
  rw [rootOf, numOf_lsig (by omega), ots_lsig, rest_lsig, (back_sign nm (q : Int) seed msg).1, Int.toNat_natCast]
  have e : nodeOf nm ((2 ^ h + q : Nat) : Int) 130 (pubOf nm (q : Int) seed) = tn nm seed (2 ^ h) (2 ^ h + q) := by
    rw [tn_leaf (by omega), show ((2 ^ h + q : Nat) : Int) - ((2 ^ h : Nat) : Int) = (q : Int) by omega]
  rw [e]
  exact climb_path nm seed (2 ^ h) (2 ^ h + q) (2 ^ h + q) (Nat.le_refl _) (by omega) (by omega)
/-- A signature is right by its key. -/
theorem lcheck_sign {nm seed msg : List UInt8} (hnm : nm.length = 16) {h q : Nat} (h1 : 1 ≤ h) (h5 : h ≤ 5) (hq : q < 2 ^ h) : lcheck (lpub nm seed h) msg (lsig nm seed h q msg) = 0 := by
  have e : (numOf (lpub nm seed h)).toNat = h := by rw [numOf_lpub h5]; exact Int.toNat_natCast h
  rw [lcheck, if_neg (good_lpub hnm h1 h5), e, if_neg (good_lsig h5 hq), ots_lsig, (back_sign nm (q : Int) seed msg).2, if_neg (by simp), nm_lpub hnm, root_lsig h5 hq, top_lpub hnm, if_neg (by simp)]
end Go.Proofs.Ytbnjgldilckhpaa
