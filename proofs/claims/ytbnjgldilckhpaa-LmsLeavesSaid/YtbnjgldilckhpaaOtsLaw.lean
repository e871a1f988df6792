/-
  THE PLAIN LAW: a signature leads back to the public key. No program in sight.
-/
import Derived.Test.YtbnjgldilckhpaaBack
namespace Go.Proofs.Ytbnjgldilckhpaa
set_option linter.unusedSimpArgs false
set_option linter.unusedVariables false

theorem chain_add (nm : List UInt8) (q i j : Int) (t : List UInt8) (m : Nat) : ∀ n, chain nm q i (j + m) (chain nm q i j t m) n = chain nm q i j t (m + n)
  | 0 => rfl
  | n + 1 => by
    show hashOf nm q i (j + m + n) (chain nm q i (j + m) (chain nm q i j t m) n) = hashOf nm q i (j + ((m + n : Nat) : Int)) (chain nm q i j t (m + n))
    rw [chain_add nm q i j t m n]
    congr 1
    omega
theorem joinY_congr {Y Z : Nat → List UInt8} : ∀ n, (∀ i, i < n → Y i = Z i) → joinY Y n = joinY Z n
  | 0, _ => rfl
  | n + 1, h => by rw [joinY, joinY, joinY_congr n (fun i hi => h i (by omega)), h n (by omega)]
theorem joinY_part {Y : Nat → List UInt8} (hY : ∀ i, (Y i).length = 32) : ∀ n i, i < n → ((joinY Y n).drop (32 * i)).take 32 = Y i
  | 0, i, h => by omega
  | n + 1, i, h => by
    rw [joinY]
    rcases Nat.lt_or_ge i n with h1 | h1
    · have hl := joinY_length hY n
      rw [List.drop_append_of_le_length (by omega), List.take_append_of_le_length (by rw [List.length_drop]; omega)]
      exact joinY_part hY n i h1
    · obtain rfl : i = n := by omega
      have hl := joinY_length hY i
      rw [← hl, List.drop_left, List.take_of_length_le (by rw [hY]; exact Nat.le_refl _)]
theorem okSig_sign (nm : List UInt8) (q : Int) (seed msg : List UInt8) : okSig (sigOf nm q seed msg) := ⟨sigOf_length nm q seed msg, by simp [sigOf]⟩
theorem salt_sign (nm : List UInt8) (q : Int) (seed msg : List UInt8) : saltOf (sigOf nm q seed msg) = cOf nm q seed := by
  have hc : (cOf nm q seed).length = 32 := hashOf_length _ _ _ _ _
  unfold saltOf sigOf
  rw [List.append_assoc, List.drop_left' (by rfl), List.take_left' hc]
theorem part_sign (nm : List UInt8) (q : Int) (seed msg : List UInt8) (i : Nat) (hi : i < 133) : partOf (sigOf nm q seed msg) i = zOf nm q seed msg i := by
  have hc : (cOf nm q seed).length = 32 := hashOf_length _ _ _ _ _
  have h36 : (([0, 0, 0, 2] : List UInt8) ++ cOf nm q seed).length = 36 := by simp [hc]
  rw [partOf, if_pos hi, sigOf, ← joinY_part (zOf_length nm q seed msg) 133 i hi, ← h36, ← List.drop_drop, List.drop_left]
theorem back_sign (nm : List UInt8) (q : Int) (seed msg : List UInt8) : backId nm q msg (sigOf nm q seed msg) = pubOf nm q seed ∧ backErr (sigOf nm q seed msg) = 0 := by
  have hok := okSig_sign nm q seed msg
  refine ⟨?_, by rw [backErr, if_pos hok]⟩
  have key : joinY (backY nm q msg (sigOf nm q seed msg)) 133 = joinY (fun i => chain nm q i 0 (secOf nm q seed i) 3) 133 := joinY_congr 133 ?_
  · rw [backId, if_pos hok, pubOf, endsOf, endsOf, key]
  intro i hi
  have h4 := digOf_lt nm q (cOf nm q seed) msg i
  show chain nm q i (digOf nm q (saltOf (sigOf nm q seed msg)) msg i) (partOf (sigOf nm q seed msg) i) (3 - digOf nm q (saltOf (sigOf nm q seed msg)) msg i) = _
  rw [salt_sign, part_sign nm q seed msg i hi, zOf]
  have := chain_add nm q i 0 (secOf nm q seed i) (digOf nm q (cOf nm q seed) msg i) (3 - digOf nm q (cOf nm q seed) msg i)
  rw [Int.zero_add] at this
  rw [this]
  congr 1
  omega
end Go.Proofs.Ytbnjgldilckhpaa
