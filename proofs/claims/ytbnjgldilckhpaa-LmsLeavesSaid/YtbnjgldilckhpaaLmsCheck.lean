/-
  lms.Check and latticeref6.Check tell what lcheck tells, of any bytes.
-/
import Derived.Test.YtbnjgldilckhpaaCheckRb
import Derived.Test.YtbnjgldilckhpaaLmsLaw
import Derived.Test.YtbnjgldilckhpaaLmsLawB
namespace Go.Proofs.Ytbnjgldilckhpaa
set_option linter.unusedSimpArgs false
set_option linter.unusedVariables false
open Go.RowKit
attribute [local irreducible] wpQuiet Calls wpLine wpSeq

theorem check_cases (pub sig : List UInt8) : badPub pub ∨ ∃ h : Nat, 1 ≤ h ∧ h ≤ 5 ∧ pub.length = 56 ∧ numOf pub = (h : Int) ∧ numOf (pub.drop 4) = 2 ∧ ¬ badPub pub ∧ (badSig h sig ∨ ∃ q : Nat, ¬ badSig h sig ∧ sig.length = 4300 + 32 * h ∧ numOf (sig.drop 4296) = (h : Int) ∧ q < 2 ^ h ∧ numOf sig = (q : Int)) := by
  by_cases hb : badPub pub
  · exact .inl hb
  · right
    have hb' := hb
    unfold badPub at hb'
    refine ⟨(numOf pub).toNat, by omega, by omega, by omega, by omega, by omega, hb, ?_⟩
    by_cases hs : badSig (numOf pub).toNat sig
    · exact .inl hs
    · right
      have hs' := hs
      have hlo := numOf_lo sig
      unfold badSig at hs'
      exact ⟨(numOf sig).toNat, hs, by omega, by omega, by omega, by omega⟩

theorem checkL (pub : List UInt8) (p0 : Option Addr) (l0 c0 : Nat) (hl0 : pub.length = l0) (hc0 : l0 ≤ c0) (msg : List UInt8) (p1 : Option Addr) (l1 c1 : Nat) (hl1 : msg.length = l1) (hlim : l1 ≤ 1000000) (sig : List UInt8) (p2 : Option Addr) (l2 c2 : Nat) (hl2 : sig.length = l2) (hc2 : l2 ≤ c2) {w : World} (s0 : Sl w p0 (bs pub)) (s1 : Sl w p1 (bs msg)) (s2 : Sl w p2 (bs sig)) :
    Calls Try.prog 26 #[.slice p0 l0 c0, .slice p1 l1 c1, .slice p2 l2 c2] w fun e w' => e = .returned (.int .i64 (lcheck pub msg sig)) ∧ Below w.heap.size w w' := by
  rcases check_cases pub sig with hb | ⟨h, h1, h5, hl, hk, hk2, hb, hs | ⟨q, hs, hls, hk3, hq, hk4⟩⟩
  · rw [show lcheck pub msg sig = 11 by rw [lcheck, if_pos hb]]
    exact checkBadL1 pub p0 l0 c0 hl0 hc0 p1 l1 c1 p2 l2 c2 s0 hb
  · obtain rfl : l0 = 56 := by rw [← hl0, hl]
    rw [show lcheck pub msg sig = 12 by rw [lcheck, if_neg hb, hk, Int.toNat_natCast, if_pos hs]]
    exact checkBadL2 pub p0 c0 hl hc0 p1 l1 c1 sig p2 l2 c2 hl2 hc2 s0 s2 h h1 h5 hk hk2 hs
  · obtain rfl : l0 = 56 := by rw [← hl0, hl]
    refine checkL3 pub p0 c0 hl hc0 msg p1 l1 c1 hl1 hlim sig p2 l2 c2 hl2 hc2 s0 s1 s2 h (2 ^ h) rfl h1 h5 hk hk2 (by rw [← hl2, hls]) hk3 q hq hk4 _ ?_
    rw [lcheck, if_neg hb, hk, Int.toNat_natCast, if_neg hs]
theorem checkR (pub : List UInt8) (p0 : Option Addr) (l0 c0 : Nat) (hl0 : pub.length = l0) (hc0 : l0 ≤ c0) (msg : List UInt8) (p1 : Option Addr) (l1 c1 : Nat) (hl1 : msg.length = l1) (hlim : l1 ≤ 1000000) (sig : List UInt8) (p2 : Option Addr) (l2 c2 : Nat) (hl2 : sig.length = l2) (hc2 : l2 ≤ c2) {w : World} (s0 : Sl w p0 (bs pub)) (s1 : Sl w p1 (bs msg)) (s2 : Sl w p2 (bs sig)) :
    Calls Try.prog 27 #[.slice p0 l0 c0, .slice p1 l1 c1, .slice p2 l2 c2] w fun e w' => e = .returned (.int .i64 (lcheck pub msg sig)) ∧ Below w.heap.size w w' := by
  rcases check_cases pub sig with hb | ⟨h, h1, h5, hl, hk, hk2, hb, hs | ⟨q, hs, hls, hk3, hq, hk4⟩⟩
  · rw [show lcheck pub msg sig = 11 by rw [lcheck, if_pos hb]]
    exact checkBadR1 pub p0 l0 c0 hl0 hc0 p1 l1 c1 p2 l2 c2 s0 hb
  · obtain rfl : l0 = 56 := by rw [← hl0, hl]
    rw [show lcheck pub msg sig = 12 by rw [lcheck, if_neg hb, hk, Int.toNat_natCast, if_pos hs]]
    exact checkBadR2 pub p0 c0 hl hc0 p1 l1 c1 sig p2 l2 c2 hl2 hc2 s0 s2 h h1 h5 hk hk2 hs
  · obtain rfl : l0 = 56 := by rw [← hl0, hl]
    refine checkR3 pub p0 c0 hl hc0 msg p1 l1 c1 hl1 hlim sig p2 l2 c2 hl2 hc2 s0 s1 s2 h (2 ^ h) rfl h1 h5 hk hk2 (by rw [← hl2, hls]) hk3 q hq hk4 _ ?_
    rw [lcheck, if_neg hb, hk, Int.toNat_natCast, if_neg hs]
end Go.Proofs.Ytbnjgldilckhpaa
