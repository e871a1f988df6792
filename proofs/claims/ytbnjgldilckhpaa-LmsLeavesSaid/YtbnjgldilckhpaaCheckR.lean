/-
  THE WALK of latticeref6.Check: what is refused ahead.
-/
import Derived.Test.YtbnjgldilckhpaaCheckLb
namespace Go.Proofs.Ytbnjgldilckhpaa
set_option linter.unusedSimpArgs false
set_option linter.unusedVariables false
open Go.RowKit
attribute [local irreducible] wpQuiet Calls wpLine wpSeq
set_option maxRecDepth 4000

set_option maxHeartbeats 4000000 in
theorem checkBadR1 (pub : List UInt8) (p0 : Option Addr) (l0 c0 : Nat) (hl0 : pub.length = l0) (hc0 : l0 ≤ c0) (p1 : Option Addr) (l1 c1 : Nat) (p2 : Option Addr) (l2 c2 : Nat) {w : World} (s0 : Sl w p0 (bs pub)) (hb : badPub pub) :
    Calls Try.prog 27 #[.slice p0 l0 c0, .slice p1 l1 c1, .slice p2 l2 c2] w fun e w' => e = .returned (.int .i64 11) ∧ Below w.heap.size w w' := by
  have hF := Fr.start w
  have S0 := Lib.hid s0
  have Hl0 := Lib.hid hl0
  clear s0
  by_cases e0 : l0 = 56
  · subst e0
    obtain ⟨x, rfl⟩ := S0.out.addr (by rw [bs_length, hl0]; decide)
    obtain ⟨k, hk⟩ : ∃ k, numOf pub = k := ⟨_, rfl⟩
    obtain ⟨k2, hk2⟩ : ∃ k, numOf (pub.drop 4) = k := ⟨_, rfl⟩
    have k0 : 0 ≤ k := by rw [← hk]; exact numOf_lo _
    have k1 : k < 4294967296 := by rw [← hk]; exact numOf_hi _
    have k20 : 0 ≤ k2 := by rw [← hk2]; exact numOf_lo _
    have k21 : k2 < 4294967296 := by rw [← hk2]; exact numOf_hi _
    have hb2 : k < 1 ∨ 5 < k ∨ k2 ≠ 2 := by
      rw [← hk, ← hk2]
      exact hb.resolve_left (fun h => h hl0)
    have Hk := Lib.hid hk
    have Hk2 := Lib.hid hk2
    clear hk hk2 hb hl0
    by_cases d1 : k < 1
    · go_enter Try.func27, Try.ntmps27
      go_wp2_with (first | go_skip | ((with_reducible refine wpl_unguard ?_ ?_); (focus (go_simp; done))) | (go_at_call 48; first | (refine (getK pub (by rw [Hl0.out]; decide) _ _ _ (by omega) (S0.out.fr hF)).mono ?_; rintro _ _ ⟨rfl, hb⟩; replace hF := hF.call hb; clear hb; rw [Hk.out]) | (refine (getK (pub.drop 4) (by rw [List.length_drop, Hl0.out]; decide) _ _ _ (by omega) (by rw [← bs_drop]; exact (S0.out.fr hF).drop 4)).mono ?_; rintro _ _ ⟨rfl, hb⟩; replace hF := hF.call hb; clear hb; rw [Hk2.out]) | (refine (getK (sig.drop 4296) (by rw [List.length_drop, Hl2.out]; omega) _ _ _ (by omega) (by rw [← bs_drop]; exact (S2.out.fr hF).drop 4296)).mono ?_; rintro _ _ ⟨rfl, hb⟩; replace hF := hF.call hb; clear hb; rw [Hk3.out]) | (refine (getK sig (by rw [Hl2.out]; omega) _ _ _ (by omega) (S2.out.fr hF)).mono ?_; rintro _ _ ⟨rfl, hb⟩; replace hF := hF.call hb; clear hb; rw [Hk4.out])) | ((with_reducible apply wpl_cut_lo (hu := Try.underlying28) (he := info_u8_)); exact rfl; exact rfl; (focus omega); (focus omega); (focus omega)) | ((with_reducible apply wpl_shlI); exact rfl; exact rfl; (focus omega); (focus omega); (focus (rw [Hp.out]; omega)); (focus (rw [Hp.out]; omega)); rw [Hp.out]))
      go_ret
      exact ⟨rfl, hF.below⟩
    · by_cases d2 : 5 < k
      · go_enter Try.func27, Try.ntmps27
        go_wp2_with (first | go_skip | ((with_reducible refine wpl_unguard ?_ ?_); (focus (go_simp; done))) | (go_at_call 48; first | (refine (getK pub (by rw [Hl0.out]; decide) _ _ _ (by omega) (S0.out.fr hF)).mono ?_; rintro _ _ ⟨rfl, hb⟩; replace hF := hF.call hb; clear hb; rw [Hk.out]) | (refine (getK (pub.drop 4) (by rw [List.length_drop, Hl0.out]; decide) _ _ _ (by omega) (by rw [← bs_drop]; exact (S0.out.fr hF).drop 4)).mono ?_; rintro _ _ ⟨rfl, hb⟩; replace hF := hF.call hb; clear hb; rw [Hk2.out]) | (refine (getK (sig.drop 4296) (by rw [List.length_drop, Hl2.out]; omega) _ _ _ (by omega) (by rw [← bs_drop]; exact (S2.out.fr hF).drop 4296)).mono ?_; rintro _ _ ⟨rfl, hb⟩; replace hF := hF.call hb; clear hb; rw [Hk3.out]) | (refine (getK sig (by rw [Hl2.out]; omega) _ _ _ (by omega) (S2.out.fr hF)).mono ?_; rintro _ _ ⟨rfl, hb⟩; replace hF := hF.call hb; clear hb; rw [Hk4.out])) | ((with_reducible apply wpl_cut_lo (hu := Try.underlying28) (he := info_u8_)); exact rfl; exact rfl; (focus omega); (focus omega); (focus omega)) | ((with_reducible apply wpl_shlI); exact rfl; exact rfl; (focus omega); (focus omega); (focus (rw [Hp.out]; omega)); (focus (rw [Hp.out]; omega)); rw [Hp.out]))
        go_ret
        exact ⟨rfl, hF.below⟩
      · have d3 : (k2 != 2) = true := bne_iff_ne.2 (by omega)
        go_enter Try.func27, Try.ntmps27
        go_wp2_with (first | go_skip | ((with_reducible refine wpl_unguard ?_ ?_); (focus (go_simp; done))) | (go_at_call 48; first | (refine (getK pub (by rw [Hl0.out]; decide) _ _ _ (by omega) (S0.out.fr hF)).mono ?_; rintro _ _ ⟨rfl, hb⟩; replace hF := hF.call hb; clear hb; rw [Hk.out]) | (refine (getK (pub.drop 4) (by rw [List.length_drop, Hl0.out]; decide) _ _ _ (by omega) (by rw [← bs_drop]; exact (S0.out.fr hF).drop 4)).mono ?_; rintro _ _ ⟨rfl, hb⟩; replace hF := hF.call hb; clear hb; rw [Hk2.out]) | (refine (getK (sig.drop 4296) (by rw [List.length_drop, Hl2.out]; omega) _ _ _ (by omega) (by rw [← bs_drop]; exact (S2.out.fr hF).drop 4296)).mono ?_; rintro _ _ ⟨rfl, hb⟩; replace hF := hF.call hb; clear hb; rw [Hk3.out]) | (refine (getK sig (by rw [Hl2.out]; omega) _ _ _ (by omega) (S2.out.fr hF)).mono ?_; rintro _ _ ⟨rfl, hb⟩; replace hF := hF.call hb; clear hb; rw [Hk4.out])) | ((with_reducible apply wpl_cut_lo (hu := Try.underlying28) (he := info_u8_)); exact rfl; exact rfl; (focus omega); (focus omega); (focus omega)) | ((with_reducible apply wpl_shlI); exact rfl; exact rfl; (focus omega); (focus omega); (focus (rw [Hp.out]; omega)); (focus (rw [Hp.out]; omega)); rw [Hp.out]))
        go_ret
        exact ⟨rfl, hF.below⟩
  · have e1 : (l0 : Int) ≠ 56 := by omega
    clear hb hl0
    go_enter Try.func27, Try.ntmps27
    go_wp2_with (first | go_skip | ((with_reducible refine wpl_unguard ?_ ?_); (focus (go_simp; done))) | (go_at_call 48; first | (refine (getK pub (by rw [Hl0.out]; decide) _ _ _ (by omega) (S0.out.fr hF)).mono ?_; rintro _ _ ⟨rfl, hb⟩; replace hF := hF.call hb; clear hb; rw [Hk.out]) | (refine (getK (pub.drop 4) (by rw [List.length_drop, Hl0.out]; decide) _ _ _ (by omega) (by rw [← bs_drop]; exact (S0.out.fr hF).drop 4)).mono ?_; rintro _ _ ⟨rfl, hb⟩; replace hF := hF.call hb; clear hb; rw [Hk2.out]) | (refine (getK (sig.drop 4296) (by rw [List.length_drop, Hl2.out]; omega) _ _ _ (by omega) (by rw [← bs_drop]; exact (S2.out.fr hF).drop 4296)).mono ?_; rintro _ _ ⟨rfl, hb⟩; replace hF := hF.call hb; clear hb; rw [Hk3.out]) | (refine (getK sig (by rw [Hl2.out]; omega) _ _ _ (by omega) (S2.out.fr hF)).mono ?_; rintro _ _ ⟨rfl, hb⟩; replace hF := hF.call hb; clear hb; rw [Hk4.out])) | ((with_reducible apply wpl_cut_lo (hu := Try.underlying28) (he := info_u8_)); exact rfl; exact rfl; (focus omega); (focus omega); (focus omega)) | ((with_reducible apply wpl_shlI); exact rfl; exact rfl; (focus omega); (focus omega); (focus (rw [Hp.out]; omega)); (focus (rw [Hp.out]; omega)); rw [Hp.out]))
    go_ret
    exact ⟨rfl, hF.below⟩

set_option maxHeartbeats 4000000 in
theorem checkBadR2 (pub : List UInt8) (p0 : Option Addr) (c0 : Nat) (hl0 : pub.length = 56) (hc0 : 56 ≤ c0) (p1 : Option Addr) (l1 c1 : Nat) (sig : List UInt8) (p2 : Option Addr) (l2 c2 : Nat) (hl2 : sig.length = l2) (hc2 : l2 ≤ c2) {w : World} (s0 : Sl w p0 (bs pub)) (s2 : Sl w p2 (bs sig)) (h : Nat) (h1 : 1 ≤ h) (h5 : h ≤ 5) (hk : numOf pub = (h : Int)) (hk2 : numOf (pub.drop 4) = 2) (hb : badSig h sig) :
    Calls Try.prog 27 #[.slice p0 56 c0, .slice p1 l1 c1, .slice p2 l2 c2] w fun e w' => e = .returned (.int .i64 12) ∧ Below w.heap.size w w' := by
  have hF := Fr.start w
  have S0 := Lib.hid s0
  have S2 := Lib.hid s2
  have Hl0 := Lib.hid hl0
  have Hl2 := Lib.hid hl2
  have Hk := Lib.hid hk
  have Hk2 := Lib.hid hk2
  obtain ⟨x, rfl⟩ := S0.out.addr (by rw [bs_length, hl0]; decide)
  obtain ⟨n, hn⟩ : ∃ n, n = 2 ^ h := ⟨_, rfl⟩
  have hn32 : n ≤ 32 := by rw [hn]; exact (Nat.pow_le_pow_right (n := 2) (by decide) h5 : 2 ^ h ≤ 2 ^ 5)
  have Hp := Lib.hid (show (1 : Int) * 2 ^ ((h : Int)).toNat = (n : Int) by rw [pow_int, hn])
  rw [badSig, ← hn, hl2] at hb
  clear s0 s2 hk hk2 hn
  by_cases e1 : l2 = 4300 + 32 * h
  · have f1 := Lib.hid (show ((l2 : Int) != 4300 + 32 * (h : Int)) = false by simp; omega)
    obtain ⟨y, rfl⟩ := S2.out.addr (by rw [bs_length, hl2]; omega)
    obtain ⟨k3, hk3⟩ : ∃ k, numOf (sig.drop 4296) = k := ⟨_, rfl⟩
    obtain ⟨k4, hk4⟩ : ∃ k, numOf sig = k := ⟨_, rfl⟩
    rw [hk3, hk4] at hb
    have Hk3 := Lib.hid hk3
    have Hk4 := Lib.hid hk4
    have b1 : 4332 ≤ l2 := by omega
    have b2 : l2 ≤ 4460 := by omega
    have hb2 : k3 ≠ (h : Int) ∨ (n : Int) ≤ k4 := hb.resolve_left (fun h => h e1)
    clear hk3 hk4 hl0 hl2 hb e1
    by_cases e2 : k3 = (h : Int)
    · subst e2
      have f2 := Lib.hid (show decide (k4 ≥ (n : Int)) = true from decide_eq_true (hb2.resolve_left (fun h => h rfl)))
      clear hb2
      go_enter Try.func27, Try.ntmps27
      go_wp2_with (first | go_skip | ((with_reducible refine wpl_unguard ?_ ?_); (focus (go_simp; done))) | (go_at_call 48; first | (refine (getK pub (by rw [Hl0.out]; decide) _ _ _ (by omega) (S0.out.fr hF)).mono ?_; rintro _ _ ⟨rfl, hb⟩; replace hF := hF.call hb; clear hb; rw [Hk.out]) | (refine (getK (pub.drop 4) (by rw [List.length_drop, Hl0.out]; decide) _ _ _ (by omega) (by rw [← bs_drop]; exact (S0.out.fr hF).drop 4)).mono ?_; rintro _ _ ⟨rfl, hb⟩; replace hF := hF.call hb; clear hb; rw [Hk2.out]) | (refine (getK (sig.drop 4296) (by rw [List.length_drop, Hl2.out]; omega) _ _ _ (by omega) (by rw [← bs_drop]; exact (S2.out.fr hF).drop 4296)).mono ?_; rintro _ _ ⟨rfl, hb⟩; replace hF := hF.call hb; clear hb; rw [Hk3.out]) | (refine (getK sig (by rw [Hl2.out]; omega) _ _ _ (by omega) (S2.out.fr hF)).mono ?_; rintro _ _ ⟨rfl, hb⟩; replace hF := hF.call hb; clear hb; rw [Hk4.out])) | ((with_reducible apply wpl_cut_lo (hu := Try.underlying28) (he := info_u8_)); exact rfl; exact rfl; (focus omega); (focus omega); (focus omega)) | ((with_reducible apply wpl_shlI); exact rfl; exact rfl; (focus omega); (focus omega); (focus (rw [Hp.out]; omega)); (focus (rw [Hp.out]; omega)); rw [Hp.out]))
      all_goals (first | (exfalso; have a1 := f2.out; have a2 := f1.out; simp at a1 a2; omega) | (go_ret; exact ⟨rfl, hF.below⟩))
    · have f2 := Lib.hid (show (k3 != (h : Int)) = true from bne_iff_ne.2 e2)
      clear hb2 e2
      go_enter Try.func27, Try.ntmps27
      go_wp2_with (first | go_skip | ((with_reducible refine wpl_unguard ?_ ?_); (focus (go_simp; done))) | (go_at_call 48; first | (refine (getK pub (by rw [Hl0.out]; decide) _ _ _ (by omega) (S0.out.fr hF)).mono ?_; rintro _ _ ⟨rfl, hb⟩; replace hF := hF.call hb; clear hb; rw [Hk.out]) | (refine (getK (pub.drop 4) (by rw [List.length_drop, Hl0.out]; decide) _ _ _ (by omega) (by rw [← bs_drop]; exact (S0.out.fr hF).drop 4)).mono ?_; rintro _ _ ⟨rfl, hb⟩; replace hF := hF.call hb; clear hb; rw [Hk2.out]) | (refine (getK (sig.drop 4296) (by rw [List.length_drop, Hl2.out]; omega) _ _ _ (by omega) (by rw [← bs_drop]; exact (S2.out.fr hF).drop 4296)).mono ?_; rintro _ _ ⟨rfl, hb⟩; replace hF := hF.call hb; clear hb; rw [Hk3.out]) | (refine (getK sig (by rw [Hl2.out]; omega) _ _ _ (by omega) (S2.out.fr hF)).mono ?_; rintro _ _ ⟨rfl, hb⟩; replace hF := hF.call hb; clear hb; rw [Hk4.out])) | ((with_reducible apply wpl_cut_lo (hu := Try.underlying28) (he := info_u8_)); exact rfl; exact rfl; (focus omega); (focus omega); (focus omega)) | ((with_reducible apply wpl_shlI); exact rfl; exact rfl; (focus omega); (focus omega); (focus (rw [Hp.out]; omega)); (focus (rw [Hp.out]; omega)); rw [Hp.out]))
      all_goals (first | (exfalso; have a1 := f2.out; have a2 := f1.out; simp at a1 a2; omega) | (go_ret; exact ⟨rfl, hF.below⟩))
  · have f1 := Lib.hid (show ((l2 : Int) != 4300 + 32 * (h : Int)) = true by simp; omega)
    have e2 : ¬ (l2 : Int) = 4300 + 32 * (h : Int) := by omega
    clear hb hl0 hl2 e1
    go_enter Try.func27, Try.ntmps27
    go_wp2_with (first | go_skip | ((with_reducible refine wpl_unguard ?_ ?_); (focus (go_simp; done))) | (go_at_call 48; first | (refine (getK pub (by rw [Hl0.out]; decide) _ _ _ (by omega) (S0.out.fr hF)).mono ?_; rintro _ _ ⟨rfl, hb⟩; replace hF := hF.call hb; clear hb; rw [Hk.out]) | (refine (getK (pub.drop 4) (by rw [List.length_drop, Hl0.out]; decide) _ _ _ (by omega) (by rw [← bs_drop]; exact (S0.out.fr hF).drop 4)).mono ?_; rintro _ _ ⟨rfl, hb⟩; replace hF := hF.call hb; clear hb; rw [Hk2.out]) | (refine (getK (sig.drop 4296) (by rw [List.length_drop, Hl2.out]; omega) _ _ _ (by omega) (by rw [← bs_drop]; exact (S2.out.fr hF).drop 4296)).mono ?_; rintro _ _ ⟨rfl, hb⟩; replace hF := hF.call hb; clear hb; rw [Hk3.out]) | (refine (getK sig (by rw [Hl2.out]; omega) _ _ _ (by omega) (S2.out.fr hF)).mono ?_; rintro _ _ ⟨rfl, hb⟩; replace hF := hF.call hb; clear hb; rw [Hk4.out])) | ((with_reducible apply wpl_cut_lo (hu := Try.underlying28) (he := info_u8_)); exact rfl; exact rfl; (focus omega); (focus omega); (focus omega)) | ((with_reducible apply wpl_shlI); exact rfl; exact rfl; (focus omega); (focus omega); (focus (rw [Hp.out]; omega)); (focus (rw [Hp.out]; omega)); rw [Hp.out]))
    all_goals (first | (exfalso; have a2 := f1.out; simp at a2; omega) | (go_ret; exact ⟨rfl, hF.below⟩))
end Go.Proofs.Ytbnjgldilckhpaa
