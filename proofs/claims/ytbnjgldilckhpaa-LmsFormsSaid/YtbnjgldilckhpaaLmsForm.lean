/-
  THE PLAIN LAW of LmsForms: what Check tells of a key or a signature of another form. No program in sight.
-/
import Derived.Test.YtbnjgldilckhpaaLmsLaw
namespace Go.Proofs.Ytbnjgldilckhpaa
set_option linter.unusedSimpArgs false
set_option linter.unusedVariables false

theorem gb_set_same {l : List UInt8} {k : Nat} {v : UInt8} (h : k < l.length) : gb (l.set k v) k = v := by
  simp [gb, List.getD, h]
theorem gb_set_other {l : List UInt8} {k i : Nat} {v : UInt8} (h : k ≠ i) : gb (l.set k v) i = gb l i := by
  simp [gb, List.getD, List.getElem?_set_ne h]
theorem numOf_set3 {l : List UInt8} {v : UInt8} (h : 4 ≤ l.length) : numOf (l.set 3 v) = numOf l - ((gb l 3).toNat : Int) + (v.toNat : Int) := by
  unfold numOf
  rw [gb_set_same (by omega), gb_set_other (by decide), gb_set_other (by decide), gb_set_other (by decide)]
  omega
theorem numOf_set0 {l : List UInt8} {v : UInt8} (h : 4 ≤ l.length) : numOf (l.set 0 v) = numOf l - ((gb l 0).toNat : Int) * 16777216 + (v.toNat : Int) * 16777216 := by
  unfold numOf
  rw [gb_set_same (by omega), gb_set_other (by decide), gb_set_other (by decide), gb_set_other (by decide)]
  omega
theorem one_bytes {l : List UInt8} {n : Nat} (hn : n < 256) (h : numOf l = (n : Int)) : (gb l 0).toNat = 0 ∧ (gb l 1).toNat = 0 ∧ (gb l 2).toNat = 0 ∧ (gb l 3).toNat = n := by
  unfold numOf at h
  omega
theorem xor_self_ne {a b : UInt8} (h : b ≠ 0) : a ^^^ b ≠ a := by
  intro e
  apply h
  have : a ^^^ (a ^^^ b) = a ^^^ a := by rw [e]
  rwa [← UInt8.xor_assoc, UInt8.xor_self, UInt8.zero_xor] at this
theorem numOf_turn {l : List UInt8} {v : UInt8} (h : 4 ≤ l.length) (hv : v ≠ gb l 3) : numOf (l.set 3 v) ≠ numOf l := by
  rw [numOf_set3 h]
  intro e
  apply hv
  apply UInt8.toNat_inj.1
  omega
theorem set_same {l : List UInt8} {k : Nat} {v : UInt8} (hk : k < l.length) (h : gb l k = v) : l.set k v = l := by
  rw [gb_eq hk] at h
  rw [← h]
  exact List.set_getElem_self hk

section
variable {nm seed msg sig : List UInt8}
/-- The height's last byte is another one. -/
theorem form_height (hnm : nm.length = 16) {v : UInt8} (h1 : 1 ≤ v.toNat) : lcheck ((lpub nm seed 1).set 3 v) msg (lsig nm seed 1 0 msg) = if v.toNat = 1 then 0 else if v.toNat ≤ 5 then 12 else 11 := by
  have hl := lpub_length (seed := seed) hnm 1
  have hk := numOf_lpub (nm := nm) (seed := seed) (h := 1) (by decide)
  have hk4 := numOf_lpub4 (nm := nm) (seed := seed) (h := 1)
  obtain ⟨g0, g1, g2, g3⟩ := one_bytes (by decide) hk
  by_cases e1 : v.toNat = 1
  · rw [if_pos e1, set_same (by omega) (UInt8.toNat_inj.1 (by omega))]
    exact lcheck_sign hnm (by decide) (by decide) (by decide)
  · rw [if_neg e1]
    have hl2 : ((lpub nm seed 1).set 3 v).length = 56 := by rw [List.length_set, hl]
    have hn : numOf ((lpub nm seed 1).set 3 v) = (v.toNat : Int) := by rw [numOf_set3 (by omega)]; omega
    have hd : ((lpub nm seed 1).set 3 v).drop 4 = (lpub nm seed 1).drop 4 := by rw [List.drop_set, if_pos (by decide)]
    by_cases e5 : v.toNat ≤ 5
    · rw [if_pos e5]
      have hb : ¬ badPub ((lpub nm seed 1).set 3 v) := by
        unfold badPub
        rw [hl2, hn, hd, hk4]
        omega
      have hs : badSig v.toNat (lsig nm seed 1 0 msg) := by
        unfold badSig
        rw [lsig_length (by decide)]
        omega
      rw [lcheck, if_neg hb, hn, Int.toNat_natCast, if_pos hs]
    · rw [if_neg e5]
      have hb : badPub ((lpub nm seed 1).set 3 v) := by
        unfold badPub
        rw [hn]
        omega
      rw [lcheck, if_pos hb]
/-- Another type. -/
theorem form_type (hnm : nm.length = 16) {b : UInt8} (hb : b ≠ 0) : lcheck ((lpub nm seed 1).set 7 (2 ^^^ b)) msg sig = 11 := by
  have hl := lpub_length (seed := seed) hnm 1
  have hk4 := numOf_lpub4 (nm := nm) (seed := seed) (h := 1)
  obtain ⟨g0, g1, g2, g3⟩ := one_bytes (n := 2) (by decide) hk4
  have hd : ((lpub nm seed 1).set 7 (2 ^^^ b)).drop 4 = ((lpub nm seed 1).drop 4).set 3 (2 ^^^ b) := by rw [List.drop_set, if_neg (by decide)]
  have hg : gb ((lpub nm seed 1).drop 4) 3 = 2 := UInt8.toNat_inj.1 g3
  have hp : badPub ((lpub nm seed 1).set 7 (2 ^^^ b)) := by
    unfold badPub
    right; right; right
    rw [hd, ← hk4]
    exact numOf_turn (by rw [List.length_drop]; omega) (by rw [hg]; exact xor_self_ne hb)
  rw [lcheck, if_pos hp]
/-- A byte less. -/
theorem form_short (hnm : nm.length = 16) : lcheck ((lpub nm seed 1).take 55) msg sig = 11 := by
  have hp : badPub ((lpub nm seed 1).take 55) := by
    unfold badPub
    left
    rw [List.length_take, lpub_length hnm]
    decide
  rw [lcheck, if_pos hp]
/-- The height's first byte is another one. -/
theorem form_first (hnm : nm.length = 16) {b : UInt8} (hb : b ≠ 0) : lcheck ((lpub nm seed 1).set 0 b) msg sig = 11 := by
  have hl := lpub_length (seed := seed) hnm 1
  have hk := numOf_lpub (nm := nm) (seed := seed) (h := 1) (by decide)
  have hb0 : b.toNat ≠ 0 := fun e => hb (UInt8.toNat_inj.1 e)
  obtain ⟨g0, g1, g2, g3⟩ := one_bytes (by decide) hk
  have hp : badPub ((lpub nm seed 1).set 0 b) := by
    unfold badPub
    rw [numOf_set0 (by omega)]
    omega
  rw [lcheck, if_pos hp]
theorem bad_sig (hnm : nm.length = 16) (h : badSig 1 sig) : lcheck (lpub nm seed 1) msg sig = 12 := by
  have e : (numOf (lpub nm seed 1)).toNat = 1 := by rw [numOf_lpub (by decide)]; rfl
  rw [lcheck, if_neg (good_lpub hnm (by decide) (by decide)), e, if_pos h]
/-- The signature's height is another one. -/
theorem form_sigh (hnm : nm.length = 16) {b : UInt8} (hb : b ≠ 0) : lcheck (lpub nm seed 1) msg ((lsig nm seed 1 0 msg).set 4299 (gb (lsig nm seed 1 0 msg) 4299 ^^^ b)) = 12 := by
  have hk := numOf_lsig4 (nm := nm) (seed := seed) (msg := msg) (h := 1) (q := 0) (by decide)
  have hl : (lsig nm seed 1 0 msg).length = 4332 := lsig_length (by decide)
  apply bad_sig hnm
  generalize lsig nm seed 1 0 msg = sg at *
  have hg : gb sg 4299 = gb (sg.drop 4296) 3 := by
    unfold gb
    simp only [List.getD, List.getElem?_drop]
  unfold badSig
  right; left
  rw [List.drop_set, if_neg (by decide), ← hk, hg]
  exact numOf_turn (by rw [List.length_drop]; omega) (xor_self_ne hb)
/-- A byte more. -/
theorem form_long (hnm : nm.length = 16) {b : UInt8} : lcheck (lpub nm seed 1) msg (lsig nm seed 1 0 msg ++ [b]) = 12 := by
  apply bad_sig hnm
  unfold badSig
  left
  rw [List.length_append, lsig_length (by decide)]
  simp
end
end Go.Proofs.Ytbnjgldilckhpaa
