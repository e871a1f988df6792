/-
  PLAIN: the padded text, as Pair lays it; the bytes of a state. No Go in it.
-/
import Derived.Test.YtjjkndbkjnfimaaShaSpec
import Derived.Test.YtjjkndbkjnfimaaOwn
namespace Go.Proofs.Ytjjkndbkjnfimaa
set_option linter.unusedSimpArgs false
set_option linter.unusedVariables false

theorem gb_set (l : List UInt8) (i : Nat) (x : UInt8) (j : Nat) (hi : i < l.length) : gb (l.set i x) j = if i = j then x else gb l j := by
  simp only [gb, List.getD, List.getElem?_set]
  by_cases h : i = j
  · subst h; simp [hi]
  · simp [h]
theorem gb_append (l r : List UInt8) (j : Nat) : gb (l ++ r) j = if j < l.length then gb l j else gb r (j - l.length) := by
  simp only [gb, List.getD]
  by_cases h : j < l.length
  · rw [if_pos h, List.getElem?_append_left h]
  · rw [if_neg h, List.getElem?_append_right (by omega)]
theorem gb_replicate (n : Nat) (x : UInt8) (j : Nat) (h : j < n) : gb (List.replicate n x) j = x := by
  simp [gb, List.getD, h]
theorem gb_out (l : List UInt8) (j : Nat) (h : l.length ≤ j) : gb l j = 0 := by
  simp [gb, List.getD, h]

/-- i bytes of the length, from behind. -/
def lenset (X : List UInt8) (S n : Nat) : Nat → List UInt8
  | 0 => X
  | i + 1 => (lenset X S n i).set (S - 1 - i) (b8 ((n : Int) * 8 / 2 ^ (8 * i)))
theorem lenset_length (X : List UInt8) (S n : Nat) : ∀ i, (lenset X S n i).length = X.length
  | 0 => rfl
  | i + 1 => by rw [lenset, List.length_set, lenset_length X S n i]
theorem gb_lenset (X : List UInt8) (S n : Nat) (hX : S ≤ X.length) : ∀ (i j : Nat), i ≤ S → j < S → gb (lenset X S n i) j = if S - i ≤ j then b8 ((n : Int) * 8 / 2 ^ (8 * (S - 1 - j))) else gb X j
  | 0, j, _, hj => by rw [if_neg (by omega)]; rfl
  | i + 1, j, hi, hj => by
    rw [lenset, gb_set _ _ _ _ (by rw [lenset_length]; omega), gb_lenset X S n hX i j (by omega) hj]
    by_cases h1 : S - 1 - i = j
    · rw [if_pos h1, if_pos (by omega), ← h1]
      congr 4
      omega
    · rw [if_neg h1]
      by_cases h2 : S - i ≤ j
      · rw [if_pos h2, if_pos (by omega)]
      · rw [if_neg h2, if_neg (by omega)]

/-- What Pair lays out ahead of the length. -/
def laid (N : Nat) (A B : List UInt8) : List UInt8 := (A ++ B ++ List.replicate (N - (A.length + B.length)) 0).set (A.length + B.length) 128
theorem laid_length (N : Nat) (A B : List UInt8) (h : A.length + B.length ≤ N) : (laid N A B).length = N := by simp [laid]; omega
theorem splice_two (N : Nat) (A B : List UInt8) (h : A.length + B.length ≤ N) : splice (splice (List.replicate N 0) 0 A) A.length B = A ++ B ++ List.replicate (N - (A.length + B.length)) 0 := by
  unfold splice
  simp only [List.take_zero, List.nil_append, Nat.zero_add, List.drop_replicate]
  rw [List.take_left', List.drop_append, List.drop_eq_nil_of_le (by omega), List.nil_append, Nat.add_sub_cancel_left, List.drop_replicate, List.append_assoc]
  · congr 3
    omega
  · rfl
theorem bs_splice (L : List UInt8) (o : Nat) (cs : List UInt8) : splice (bs L) o (bs cs) = bs (splice L o cs) := by
  simp [splice, bs, List.map_take, List.map_drop]

theorem splice_len {α : Type} (L : List α) (o : Nat) (cs : List α) : (splice L o cs).length = min o L.length + (cs.length + (L.length - (o + cs.length))) := by simp [splice]

theorem gb_len8 (n k : Nat) (h : k < 8) : gb (len8 n) k = b8 ((n / 2 ^ (8 * (7 - k)) : Nat) : Int) := by
  simp [gb, len8, List.getD, h]

def room (n : Nat) : Nat := (n + 8) / 64 * 64 + 64
theorem pad_row (N : Nat) (A B : List UInt8) (hN : room (A.length + B.length) ≤ N) (hb : A.length + B.length ≤ 1099511627776) (j : Nat) (hj : j < room (A.length + B.length)) :
    gb (lenset (laid N A B) (room (A.length + B.length)) (A.length + B.length) 8) j = gb (pad (A ++ B)) j := by
  have hr : A.length + B.length + 9 ≤ room (A.length + B.length) ∧ room (A.length + B.length) = A.length + B.length + 1 + padn (A.length + B.length) + 8 := by unfold room padn; omega
  have hl : (A ++ B).length = A.length + B.length := List.length_append
  generalize hn : A.length + B.length = n at *
  rw [gb_lenset _ _ _ (by rw [laid_length _ _ _ (by omega)]; omega) 8 j (by omega) hj]
  unfold pad
  rw [gb_append, hl]
  have hl1 : (A ++ B ++ [128] ++ List.replicate (padn n) 0).length = n + 1 + padn n := by simp; omega
  rw [hl1]
  by_cases h1 : room n - 8 ≤ j
  · rw [if_pos h1, if_neg (by omega), gb_len8 _ _ (by omega), Nat.mod_eq_of_lt (by omega)]
    congr 1
    rw [show room n - 1 - j = 7 - (j - (n + 1 + padn n)) by omega]
    generalize 8 * (7 - (j - (n + 1 + padn n))) = k
    rw [Nat.mul_comm 8 n]
    simp
  · rw [if_neg h1, if_pos (by omega)]
    unfold laid
    have hl2 : (A ++ B ++ [128]).length = n + 1 := by simp; omega
    rw [hn, gb_set _ _ _ _ (by simp; omega), gb_append (A ++ B) (List.replicate (N - n) 0), hl, gb_append (A ++ B ++ [128]), hl2, gb_append (A ++ B) [128], hl]
    by_cases h2 : j < n
    · rw [if_neg (by omega), if_pos h2, if_pos (by omega), if_pos h2]
    · by_cases h3 : n = j
      · subst h3
        rw [if_pos rfl, if_pos (by omega), if_neg (by omega), Nat.sub_self]
        rfl
      · rw [if_neg h3, if_neg h2, if_neg (by omega), gb_replicate _ _ _ (by omega), gb_replicate _ _ _ (by omega)]

/-- A state's bytes, i of them, in a row of 32. -/
def outs (s : List UInt32) (i : Nat) : List UInt8 := (List.range i).map (outb s) ++ (List.replicate 32 0).drop i
theorem outs_length (s : List UInt32) (i : Nat) (h : i ≤ 32) : (outs s i).length = 32 := by simp [outs]; omega
theorem outs_succ (s : List UInt32) (i : Nat) (h : i < 32) : (outs s i).set i (outb s i) = outs s (i + 1) := by
  unfold outs
  rw [fill_set (by simp) (by simpa using h), List.range_succ, List.map_append]
  rfl
theorem outs_all (s : List UInt32) : outs s 32 = outf s := by simp [outs, outf]
theorem outb_at (s : List UInt32) (i k : Nat) (h : k < 4) : outb s (4 * i + k) = down (sr (gw s i) (24 - 8 * k)) := by
  unfold outb
  rw [show (4 * i + k) / 4 = i by omega, show (4 * i + k) % 4 = k by omega]
end Go.Proofs.Ytjjkndbkjnfimaa
