/-
  WHAT THE HASH IS, in plain Lean: words of a piece, the schedule, the rounds, the bytes.
-/
import Derived.Test.YtjjkndbkjnfimaaSha2
namespace Go.Proofs.Ytjjkndbkjnfimaa
set_option linter.unusedSimpArgs false
set_option linter.unusedVariables false

/-- Four bytes as a word. -/
def be (d : List UInt8) (i : Nat) : UInt32 := sl (up (gb d i)) 24 ||| sl (up (gb d (i + 1))) 16 ||| sl (up (gb d (i + 2))) 8 ||| up (gb d (i + 3))
/-- The first words of the piece at p. -/
def firsts (d : List UInt8) (p n : Nat) : List UInt32 := (List.range n).map fun i => be d (p + 4 * i)
/-- n more words. -/
def more (v : List UInt32) : Nat → List UInt32
  | 0 => v
  | n + 1 => more v n ++ [ssig1 (gw (more v n) (14 + n)) + gw (more v n) (9 + n) + ssig0 (gw (more v n) (1 + n)) + gw (more v n) n]
def sched (d : List UInt8) (p : Nat) : List UInt32 := more (firsts d p 16) 48

theorem firsts_length (d : List UInt8) (p n : Nat) : (firsts d p n).length = n := by simp [firsts]
theorem more_length (v : List UInt32) : ∀ n, (more v n).length = v.length + n
  | 0 => rfl
  | n + 1 => by rw [more, List.length_append, more_length v n]; rfl
theorem sched_length (d : List UInt8) (p : Nat) : (sched d p).length = 64 := by rw [sched, more_length, firsts_length]

/-- A row that is filled from its front. -/
theorem fill_set {α : Type} {pre z : List α} {n : Nat} {x : α} (h : pre.length = n) (hn : n < z.length) : (pre ++ z.drop n).set n x = (pre ++ [x]) ++ z.drop (n + 1) := by
  subst h
  rw [List.drop_eq_getElem_cons hn, List.set_append_right _ _ (Nat.le_refl _), Nat.sub_self, List.set_cons_zero, List.append_assoc]
  rfl
theorem gw_front {pre z : List UInt32} {i : Nat} (h : i < pre.length) : gw (pre ++ z) i = gw pre i := by
  simp [gw, List.getD, List.getElem?_append_left h]
theorem firsts_succ (d : List UInt8) (p n : Nat) : firsts d p (n + 1) = firsts d p n ++ [be d (p + 4 * n)] := by
  simp [firsts, List.range_succ]

/-- One round. -/
def step (s : List UInt32) (k x : UInt32) : List UInt32 :=
  let p := gw s 7 + bsig1 (gw s 4) + (gw s 4 &&& gw s 5 ^^^ ~~~gw s 4 &&& gw s 6) + k + x
  let q := bsig0 (gw s 0) + (gw s 0 &&& gw s 1 ^^^ gw s 0 &&& gw s 2 ^^^ gw s 1 &&& gw s 2)
  [p + q, gw s 0, gw s 1, gw s 2, gw s 3 + p, gw s 4, gw s 5, gw s 6]
def rounds (w s : List UInt32) : Nat → List UInt32
  | 0 => s
  | n + 1 => step (rounds w s n) (gw kconsts n) (gw w n)
def addw (s v : List UInt32) : List UInt32 := (List.range 8).map fun j => gw s j + gw v j
/-- The piece at p is taken into the state. -/
def mixf (s : List UInt32) (d : List UInt8) (p : Nat) : List UInt32 := addw s (rounds (sched d p) s 64)
def blocks (d : List UInt8) : Nat → List UInt32
  | 0 => hinit
  | n + 1 => mixf (blocks d n) d (64 * n)
def outb (s : List UInt32) (j : Nat) : UInt8 := down (sr (gw s (j / 4)) (24 - 8 * (j % 4)))
def outf (s : List UInt32) : List UInt8 := (List.range 32).map (outb s)
/-- The eight bytes of a length. -/
def len8 (n : Nat) : List UInt8 := (List.range 8).map fun i => b8 ((n / 2 ^ (8 * (7 - i)) : Nat) : Int)
def padn (n : Nat) : Nat := (119 - n % 64) % 64
def pad (m : List UInt8) : List UInt8 := m ++ [128] ++ List.replicate (padn m.length) 0 ++ len8 (8 * m.length % 2 ^ 64)
def hash (m : List UInt8) : List UInt8 := outf (blocks (pad m) ((m.length + 8) / 64 + 1))

theorem step_length (s : List UInt32) (k x : UInt32) : (step s k x).length = 8 := rfl
theorem rounds_length (w : List UInt32) {s : List UInt32} (h : s.length = 8) : ∀ n, (rounds w s n).length = 8
  | 0 => h
  | n + 1 => rfl
theorem addw_length (s v : List UInt32) : (addw s v).length = 8 := by simp [addw]
theorem mixf_length (s : List UInt32) (d : List UInt8) (p : Nat) : (mixf s d p).length = 8 := addw_length _ _
theorem blocks_length (d : List UInt8) : ∀ n, (blocks d n).length = 8
  | 0 => rfl
  | n + 1 => mixf_length _ _ _
theorem outf_length (s : List UInt32) : (outf s).length = 32 := by simp [outf]
theorem hash_length (m : List UInt8) : (hash m).length = 32 := outf_length _
theorem pad_length (m : List UInt8) : (pad m).length = 64 * ((m.length + 8) / 64 + 1) := by
  simp only [pad, padn, len8, List.length_append, List.length_singleton, List.length_replicate, List.length_map, List.length_range]
  omega

theorem be_congr {d d' : List UInt8} {i j : Nat} (h : ∀ k, k < 4 → gb d (i + k) = gb d' (j + k)) : be d i = be d' j := by
  have h0 := h 0 (by omega)
  have h1 := h 1 (by omega)
  have h2 := h 2 (by omega)
  have h3 := h 3 (by omega)
  simp only [Nat.add_zero] at h0
  simp only [be, h0, h1, h2, h3]
theorem firsts_congr {d d' : List UInt8} {p q n : Nat} (h : ∀ k, k < 4 * n → gb d (p + k) = gb d' (q + k)) : firsts d p n = firsts d' q n := by
  unfold firsts
  refine List.map_congr_left fun i hi => ?_
  have := List.mem_range.1 hi
  refine be_congr fun k hk => ?_
  rw [Nat.add_assoc, Nat.add_assoc]
  exact h _ (by omega)
theorem mixf_congr {s : List UInt32} {d d' : List UInt8} {p q : Nat} (h : ∀ k, k < 64 → gb d (p + k) = gb d' (q + k)) : mixf s d p = mixf s d' q := by
  unfold mixf sched
  rw [firsts_congr (n := 16) h]
end Go.Proofs.Ytjjkndbkjnfimaa
