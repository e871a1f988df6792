/-
  THE WALKS of ident.Add and latticeref2.Add: a and 2^k, modulo 2^256.
-/
import Derived.Test.YtnocldlfmkmiaaaIdent
namespace Go.Proofs.Ytnocldlfmkmiaaa
set_option linter.unusedSimpArgs false
set_option linter.unusedVariables false
open Go.RowKit


set_option maxHeartbeats 400000 in
theorem identAdd_no (a : List UInt8) (ha : a.length = 32) (k : Int) (hk : k < 0 ∨ 255 < k) (w : World) :
    Calls Try.prog 27 #[agg a, .int .i64 k] w fun e w' => e = .returned (.tuple #[agg zeros, .int .i64 1]) ∧ Below w.heap.size w w' := by
  have hF := Fr.start w
  rcases hk with hk | hk
  · have hk' : ¬ (255 < k) := by omega
    go_enter Try.func27, Try.ntmps27
    go_wp2_with (first | ((with_reducible apply wpl_box (x := Operand.tmp 0) hF); exact rfl; clear hF; intro ba _ hF) | ((with_reducible refine wpl_alloc (dst := some 4) hF (bs zeros) (T := 29) (hz := Try.zeroValue29) ?_ ?_); exact rfl; clear hF; intro br _ hF) | go_skip | ((with_reducible refine wpl_unguard ?_ ?_); (focus (go_simp; done))) | ((with_reducible refine wpl_build0 (bs zeros) Try.underlying29 ?_ ?_ ?_); exact info_u8_some; exact Try.zeroValue29) | ((with_reducible apply wpl_store hF 1 (T := 29)); exact rfl; exact rfl; exact rfl; exact info_id' (by first | assumption | (with_reducible exact zeros_length) | (with_reducible exact addp_length _ _) | (simp only [List.length_set]; assumption)); (focus (simp only [bs_length, List.length_set, zeros_length, addp_length] <;> omega)); exact bs_oneCell _; clear hF; intro _ hF))
    exact post_row_tmp hF rfl rfl rfl rfl ⟨1, rfl⟩ Try.underlying29 (info_id' zeros_length) ⟨rfl, hF.below⟩
  · have hk' : ¬ (k < 0) := by omega
    go_enter Try.func27, Try.ntmps27
    go_wp2_with (first | ((with_reducible apply wpl_box (x := Operand.tmp 0) hF); exact rfl; clear hF; intro ba _ hF) | ((with_reducible refine wpl_alloc (dst := some 4) hF (bs zeros) (T := 29) (hz := Try.zeroValue29) ?_ ?_); exact rfl; clear hF; intro br _ hF) | go_skip | ((with_reducible refine wpl_unguard ?_ ?_); (focus (go_simp; done))) | ((with_reducible refine wpl_build0 (bs zeros) Try.underlying29 ?_ ?_ ?_); exact info_u8_some; exact Try.zeroValue29) | ((with_reducible apply wpl_store hF 1 (T := 29)); exact rfl; exact rfl; exact rfl; exact info_id' (by first | assumption | (with_reducible exact zeros_length) | (with_reducible exact addp_length _ _) | (simp only [List.length_set]; assumption)); (focus (simp only [bs_length, List.length_set, zeros_length, addp_length] <;> omega)); exact bs_oneCell _; clear hF; intro _ hF))
    exact post_row_tmp hF rfl rfl rfl rfl ⟨1, rfl⟩ Try.underlying29 (info_id' zeros_length) ⟨rfl, hF.below⟩

/-- One byte is reckoned, the rest carried on. -/
theorem carry_step {t : Nat} {x : List UInt8} {j s n : Nat} (hx : x.length = 32) (hj : j < 32) (hn : n = s + (gb x j).toNat) (h : num x + s * 256 ^ (31 - j) = t) :
    num (x.set j (b8 (n : Int))) + n / 256 * 256 ^ (32 - j) = t := by
  have h1 := num_set x j (b8 (n : Int)) (by omega)
  rw [hx, show 32 - 1 - j = 31 - j by omega] at h1
  have h2 : (b8 (n : Int)).toNat = n % 256 := by
    have := b8_toNat (n : Int)
    omega
  rw [h2] at h1
  rw [show 32 - j = (31 - j) + 1 by omega, Nat.pow_succ]
  have e : n / 256 * (256 ^ (31 - j) * 256) = (n - n % 256) * 256 ^ (31 - j) := by
    rw [Nat.mul_comm (256 ^ (31 - j)) 256, ← Nat.mul_assoc]
    congr 1
    omega
  rw [e, Nat.sub_mul]
  have h3 : n % 256 * 256 ^ (31 - j) ≤ n * 256 ^ (31 - j) := Nat.mul_le_mul_right _ (Nat.mod_le _ _)
  subst hn
  rw [Nat.add_mul] at h3 ⊢
  omega

theorem two_pow_split (k : Nat) : 2 ^ (k % 8) * 256 ^ (k / 8) = 2 ^ k := by
  rw [show (256 : Nat) = 2 ^ 8 from rfl, ← Nat.pow_mul, ← Nat.pow_add]
  congr 1
  omega

theorem pow_mod8 (k : Nat) : 2 ^ (k % 8) ≤ 128 := Nat.le_trans (Nat.pow_le_pow_right (by omega) (show k % 8 ≤ 7 by omega)) (by decide)

theorem wrap_pow (k : Nat) : wrap64 (2 ^ (k % 8)) = ((2 ^ (k % 8) : Nat) : Int) := by
  have := pow_mod8 k
  have e : ((2 : Int) ^ (k % 8)) = ((2 ^ (k % 8) : Nat) : Int) := by simp
  rw [e]
  generalize 2 ^ (k % 8) = p at *
  exact IntWalk.wrap64_in _ (by omega)

/-- The end: nothing is left to be carried, or it falls over the highest byte. -/
theorem carry_end {a x : List UInt8} {k s m : Nat} (hx : x.length = 32) (hm : m ≤ 32) (h : num x + s * 256 ^ (32 - m) = num a + 2 ^ k) (hs : s = 0 ∨ m = 0) : x = addp a k := by
  refine addp_of hx ?_
  have hl := num_lt x
  rw [hx] at hl
  rcases hs with rfl | rfl
  · rw [← h, Nat.zero_mul, Nat.add_zero, Nat.mod_eq_of_lt hl]
  · rw [← h, Nat.sub_zero, Nat.add_mul_mod_self_right, Nat.mod_eq_of_lt hl]

set_option maxHeartbeats 1000000 in
theorem identAdd (a : List UInt8) (ha : a.length = 32) (k : Nat) (hk : k ≤ 255) (w : World) :
    Calls Try.prog 27 #[agg a, .int .i64 k] w fun e w' => e = .returned (.tuple #[agg (addp a k), .int .i64 0]) ∧ Below w.heap.size w w' := by
  have hF := Fr.start w
  have hk1 : ¬ ((k : Int) < 0) := by omega
  have hk2 : ¬ (255 < (k : Int)) := by omega
  have hk3 : (0 : Int) ≤ (k : Int) := by omega
  go_enter Try.func27, Try.ntmps27
  go_wp2_with (first | ((with_reducible apply wpl_box (x := Operand.tmp 0) hF); exact rfl; clear hF; intro ba _ hF) | ((with_reducible refine wpl_alloc (dst := some 4) hF (bs zeros) (T := 29) (hz := Try.zeroValue29) ?_ ?_); exact rfl; clear hF; intro br _ hF) | go_skip | ((with_reducible refine wpl_unguard ?_ ?_); (focus (go_simp; done))))
  go_loopw [6, 7] (fun s i wr => ∃ (t m : Nat) (x : List UInt8), s = .int .i64 t ∧ i = .int .i64 ((m : Int) - 1) ∧ m ≤ 32 ∧ t ≤ 128 ∧ x.length = 32 ∧ num x + t * 256 ^ (32 - m) = num a + 2 ^ k ∧ Fr w wr [⟨ba, bs x, 29⟩, ⟨br, bs zeros, 29⟩]) (fun _ i _ => (intOf i + 1).toNat)
  case atStart => exact ⟨2 ^ (k % 8), 32 - k / 8, a, by rw [wrap_pow], by congr 1; omega, by omega, pow_mod8 k, ha, by rw [show 32 - (32 - k / 8) = k / 8 by omega, two_pow_split], hF⟩
  case round =>
    clear hF
    obtain ⟨t, m, x, rfl, rfl, hm, ht, hx, hnum, hF⟩ := hrel
    by_cases hm0 : m = 0 ∨ t = 0
    · have hend := Lib.hid (carry_end hx hm hnum (by omega))
      clear hnum
      rcases Nat.eq_zero_or_pos m with h0 | h0
      · have d1 : ¬ (0 ≤ (m : Int) - 1) := by omega
        clear h0 hm0
        go_wp2_with (first | go_skip | ((with_reducible refine wpl_unguard ?_ ?_); (focus (go_simp; done))) | ((with_reducible apply wpl_load hF (T := 29) (hu := Try.underlying29)); exact rfl; (first | exact ⟨0, rfl⟩ | exact ⟨1, rfl⟩ | exact ⟨2, rfl⟩ | exact ⟨3, rfl⟩ | exact ⟨4, rfl⟩ | exact ⟨5, rfl⟩ | exact ⟨6, rfl⟩); exact info_id' (by first | assumption | (with_reducible exact zeros_length) | (with_reducible exact addp_length _ _) | (simp only [List.length_set]; assumption))) | ((with_reducible apply wpl_store hF 1 (T := 29)); exact rfl; exact rfl; exact rfl; exact info_id' (by first | assumption | (with_reducible exact zeros_length) | (with_reducible exact addp_length _ _) | (simp only [List.length_set]; assumption)); (focus (simp only [bs_length, List.length_set, zeros_length, addp_length] <;> omega)); exact bs_oneCell _; clear hF; intro _ hF))
        exact post_row_tmp hF rfl rfl rfl rfl ⟨1, rfl⟩ Try.underlying29 (info_id' hx) ⟨by rw [← hend.out]; rfl, hF.below⟩
      · have d1 : 0 ≤ (m : Int) - 1 := by omega
        have d2 : ¬ (0 < (t : Int)) := by omega
        clear hm0
        go_wp2_with (first | go_skip | ((with_reducible refine wpl_unguard ?_ ?_); (focus (go_simp; done))) | ((with_reducible apply wpl_load hF (T := 29) (hu := Try.underlying29)); exact rfl; (first | exact ⟨0, rfl⟩ | exact ⟨1, rfl⟩ | exact ⟨2, rfl⟩ | exact ⟨3, rfl⟩ | exact ⟨4, rfl⟩ | exact ⟨5, rfl⟩ | exact ⟨6, rfl⟩); exact info_id' (by first | assumption | (with_reducible exact zeros_length) | (with_reducible exact addp_length _ _) | (simp only [List.length_set]; assumption))) | ((with_reducible apply wpl_store hF 1 (T := 29)); exact rfl; exact rfl; exact rfl; exact info_id' (by first | assumption | (with_reducible exact zeros_length) | (with_reducible exact addp_length _ _) | (simp only [List.length_set]; assumption)); (focus (simp only [bs_length, List.length_set, zeros_length, addp_length] <;> omega)); exact bs_oneCell _; clear hF; intro _ hF))
        exact post_row_tmp hF rfl rfl rfl rfl ⟨1, rfl⟩ Try.underlying29 (info_id' hx) ⟨by rw [← hend.out]; rfl, hF.below⟩
    · obtain ⟨j, rfl⟩ : ∃ j, m = j + 1 := ⟨m - 1, by omega⟩
      rw [show (((j + 1 : Nat) : Int) - 1) = (j : Int) by omega]
      rw [show 32 - (j + 1) = 31 - j by omega] at hnum
      have hst := Lib.hid (carry_step (n := t + (gb x j).toNat) hx (by omega) rfl hnum)
      have hby := (gb x j).toNat_lt
      have d1 : 0 ≤ (j : Int) := by omega
      have d2 : 0 < (t : Int) := by omega
      have d3 : (j : Int) < 32 := by omega
      clear hm0 hnum
      go_wp2_with (first | go_skip | ((with_reducible refine wpl_unguard ?_ ?_); (focus (go_simp; done))) | ((with_reducible apply wpl_loadB hF (T := 5) (hu := Try.underlying5)); exact rfl; (first | exact ⟨0, rfl⟩ | exact ⟨1, rfl⟩ | exact ⟨2, rfl⟩ | exact ⟨3, rfl⟩ | exact ⟨4, rfl⟩ | exact ⟨5, rfl⟩ | exact ⟨6, rfl⟩); (focus (first | omega | (simp only [List.length_set] <;> omega)))) | ((with_reducible apply wpl_storeB hF 0 (T := 5)); exact rfl; exact rfl; exact rfl; exact info_u8; (focus (first | omega | (simp only [List.length_set] <;> omega))); clear hF; intro _ hF))
      go_roundw
      case rel => exact ⟨(t + (gb x j).toNat) / 256, j, x.set j (b8 ((t + (gb x j).toNat : Nat) : Int)), by go_num, rfl, by omega, by omega, by rw [List.length_set, hx], hst.out, by simpa using hF⟩
      case measure => simp [intOf]

/-! ### latticeref2.Add -/
set_option maxHeartbeats 400000 in
theorem refAdd_no (a : List UInt8) (k : Int) (hk : k < 0 ∨ 255 < k) (w : World) :
    Calls Try.prog 28 #[agg a, .int .i64 k] w fun e w' => e = .returned (.tuple #[agg zeros, .int .i64 1]) ∧ Below w.heap.size w w' := by
  have hF := Fr.start w
  rcases hk with hk | hk
  · have hk' : ¬ (255 < k) := by omega
    go_enter Try.func28, Try.ntmps28
    go_wp2_with (first | ((with_reducible apply wpl_box (x := Operand.tmp 0) hF); exact rfl; clear hF; intro ba _ hF) | ((with_reducible refine wpl_alloc (dst := some 4) hF (bs zeros) (T := 29) (hz := Try.zeroValue29) ?_ ?_); exact rfl; clear hF; intro br _ hF) | go_skip | ((with_reducible refine wpl_unguard ?_ ?_); (focus (go_simp; done))) | ((with_reducible refine wpl_build0 (bs zeros) Try.underlying29 ?_ ?_ ?_); exact info_u8_some; exact Try.zeroValue29) | ((with_reducible apply wpl_store hF 1 (T := 29)); exact rfl; exact rfl; exact rfl; exact info_id' (by first | assumption | (with_reducible exact zeros_length) | (with_reducible exact addp_length _ _) | (simp only [List.length_set]; assumption)); (focus (simp only [bs_length, List.length_set, zeros_length, addp_length] <;> omega)); exact bs_oneCell _; clear hF; intro _ hF))
    exact post_row_tmp hF rfl rfl rfl rfl ⟨1, rfl⟩ Try.underlying29 (info_id' zeros_length) ⟨rfl, hF.below⟩
  · have hk' : ¬ (k < 0) := by omega
    go_enter Try.func28, Try.ntmps28
    go_wp2_with (first | ((with_reducible apply wpl_box (x := Operand.tmp 0) hF); exact rfl; clear hF; intro ba _ hF) | ((with_reducible refine wpl_alloc (dst := some 4) hF (bs zeros) (T := 29) (hz := Try.zeroValue29) ?_ ?_); exact rfl; clear hF; intro br _ hF) | go_skip | ((with_reducible refine wpl_unguard ?_ ?_); (focus (go_simp; done))) | ((with_reducible refine wpl_build0 (bs zeros) Try.underlying29 ?_ ?_ ?_); exact info_u8_some; exact Try.zeroValue29) | ((with_reducible apply wpl_store hF 1 (T := 29)); exact rfl; exact rfl; exact rfl; exact info_id' (by first | assumption | (with_reducible exact zeros_length) | (with_reducible exact addp_length _ _) | (simp only [List.length_set]; assumption)); (focus (simp only [bs_length, List.length_set, zeros_length, addp_length] <;> omega)); exact bs_oneCell _; clear hF; intro _ hF))
    exact post_row_tmp hF rfl rfl rfl rfl ⟨1, rfl⟩ Try.underlying29 (info_id' zeros_length) ⟨rfl, hF.below⟩

set_option maxHeartbeats 1000000 in
theorem refAdd (a : List UInt8) (ha : a.length = 32) (k : Nat) (hk : k ≤ 255) (w : World) :
    Calls Try.prog 28 #[agg a, .int .i64 k] w fun e w' => e = .returned (.tuple #[agg (addp a k), .int .i64 0]) ∧ Below w.heap.size w w' := by
  have hF := Fr.start w
  have hk1 : ¬ ((k : Int) < 0) := by omega
  have hk2 : ¬ (255 < (k : Int)) := by omega
  have hk3 : (0 : Int) ≤ (k : Int) := by omega
  obtain ⟨j0, hj0⟩ : ∃ j0 : Nat, j0 = 31 - k / 8 := ⟨_, rfl⟩
  have hj1 : (31 : Int) - (k : Int) / 8 = (j0 : Int) := by omega
  have hj2 : j0 ≤ 31 := by omega
  have Hj := Lib.hid hj0
  clear hj0
  go_enter Try.func28, Try.ntmps28
  go_wp2_with (first | ((with_reducible apply wpl_box (x := Operand.tmp 0) hF); exact rfl; clear hF; intro ba _ hF) | ((with_reducible refine wpl_alloc (dst := some 4) hF (bs zeros) (T := 29) (hz := Try.zeroValue29) ?_ ?_); exact rfl; clear hF; intro br _ hF) | go_skip | ((with_reducible refine wpl_unguard ?_ ?_); (focus (go_simp; done))))
  have c1 := (hF.cell (k := 0) rfl j0).trans (bs_get (by omega))
  have hby := (gb a j0).toNat_lt
  have h0 : (0 : Int) ≤ (j0 : Int) := by omega
  have h32 : (j0 : Int) < 32 := by omega
  go_quiet (fail)
  replace hF := hF.drewN nq
  clear c1
  go_wp2_with (first | go_skip | ((with_reducible refine wpl_unguard ?_ ?_); (focus (go_simp; done))) | ((with_reducible apply wpl_loadB hF (T := 5) (hu := Try.underlying5)); exact rfl; (first | exact ⟨0, rfl⟩ | exact ⟨1, rfl⟩ | exact ⟨2, rfl⟩ | exact ⟨3, rfl⟩ | exact ⟨4, rfl⟩ | exact ⟨5, rfl⟩ | exact ⟨6, rfl⟩); (focus (first | omega | (simp only [List.length_set] <;> omega)))) | ((with_reducible apply wpl_storeB hF 0 (T := 5)); exact rfl; exact rfl; exact rfl; exact info_u8; (focus (first | omega | (simp only [List.length_set] <;> omega))); clear hF; intro _ hF))
  have hn0 : num a + 2 ^ (k % 8) * 256 ^ (31 - j0) = num a + 2 ^ k := by rw [show 31 - j0 = k / 8 by have := Hj.out; omega, two_pow_split]
  have hst0 := Lib.hid (carry_step (n := 2 ^ (k % 8) + (gb a j0).toNat) ha (by omega) rfl hn0)
  clear hn0
  go_loopw [6, 7] (fun i n wr => ∃ (t j : Nat) (x : List UInt8), n = .int .i64 t ∧ i = .int .i64 (j : Int) ∧ j ≤ 31 ∧ t ≤ 383 ∧ x.length = 32 ∧ num x + t / 256 * 256 ^ (32 - j) = num a + 2 ^ k ∧ Fr w wr [⟨ba, bs x, 29⟩, ⟨br, bs zeros, 29⟩]) (fun i _ _ => (intOf i).toNat)
  case atStart =>
    have e : wrap64 (((gb a j0).toNat : Int) + wrap64 (2 ^ (k % 8))) = ((2 ^ (k % 8) + (gb a j0).toNat : Nat) : Int) := by
      have := pow_mod8 k
      rw [wrap_pow]
      generalize 2 ^ (k % 8) = p at *
      rw [IntWalk.wrap64_in _ (by omega)]
      omega
    rw [e] at hF ⊢
    exact ⟨2 ^ (k % 8) + (gb a j0).toNat, j0, a.set j0 (b8 ((2 ^ (k % 8) + (gb a j0).toNat : Nat) : Int)), rfl, rfl, hj2, by have := pow_mod8 k; omega, by rw [List.length_set, ha], hst0.out, by simpa using hF⟩
  case round =>
    clear hF
    obtain ⟨t, j, x, rfl, rfl, hj, ht, hx, hnum, hF⟩ := hrel
    by_cases hm0 : t ≤ 255 ∨ j = 0
    · rcases Nat.lt_or_ge 255 t with h0 | h0
      · obtain rfl : j = 0 := by omega
        have hend := Lib.hid (carry_end (s := t / 256) (m := 0) hx (by omega) hnum (Or.inr rfl))
        have d1 : (255 : Int) < (t : Int) := by omega
        have d2 : ¬ (0 < ((0 : Nat) : Int)) := by omega
        clear h0 hm0 hnum
        go_wp2_with (first | go_skip | ((with_reducible refine wpl_unguard ?_ ?_); (focus (go_simp; done))) | ((with_reducible apply wpl_load hF (T := 29) (hu := Try.underlying29)); exact rfl; (first | exact ⟨0, rfl⟩ | exact ⟨1, rfl⟩ | exact ⟨2, rfl⟩ | exact ⟨3, rfl⟩ | exact ⟨4, rfl⟩ | exact ⟨5, rfl⟩ | exact ⟨6, rfl⟩); exact info_id' (by first | assumption | (with_reducible exact zeros_length) | (with_reducible exact addp_length _ _) | (simp only [List.length_set]; assumption))) | ((with_reducible apply wpl_store hF 1 (T := 29)); exact rfl; exact rfl; exact rfl; exact info_id' (by first | assumption | (with_reducible exact zeros_length) | (with_reducible exact addp_length _ _) | (simp only [List.length_set]; assumption)); (focus (simp only [bs_length, List.length_set, zeros_length, addp_length] <;> omega)); exact bs_oneCell _; clear hF; intro _ hF))
        exact post_row_tmp hF rfl rfl rfl rfl ⟨1, rfl⟩ Try.underlying29 (info_id' hx) ⟨by rw [← hend.out]; rfl, hF.below⟩
      · have hend := Lib.hid (carry_end (s := t / 256) (m := j) hx (by omega) hnum (Or.inl (by omega)))
        have d1 : ¬ ((255 : Int) < (t : Int)) := by omega
        clear h0 hm0 hnum
        go_wp2_with (first | go_skip | ((with_reducible refine wpl_unguard ?_ ?_); (focus (go_simp; done))) | ((with_reducible apply wpl_load hF (T := 29) (hu := Try.underlying29)); exact rfl; (first | exact ⟨0, rfl⟩ | exact ⟨1, rfl⟩ | exact ⟨2, rfl⟩ | exact ⟨3, rfl⟩ | exact ⟨4, rfl⟩ | exact ⟨5, rfl⟩ | exact ⟨6, rfl⟩); exact info_id' (by first | assumption | (with_reducible exact zeros_length) | (with_reducible exact addp_length _ _) | (simp only [List.length_set]; assumption))) | ((with_reducible apply wpl_store hF 1 (T := 29)); exact rfl; exact rfl; exact rfl; exact info_id' (by first | assumption | (with_reducible exact zeros_length) | (with_reducible exact addp_length _ _) | (simp only [List.length_set]; assumption)); (focus (simp only [bs_length, List.length_set, zeros_length, addp_length] <;> omega)); exact bs_oneCell _; clear hF; intro _ hF))
        exact post_row_tmp hF rfl rfl rfl rfl ⟨1, rfl⟩ Try.underlying29 (info_id' hx) ⟨by rw [← hend.out]; rfl, hF.below⟩
    · obtain ⟨m, rfl⟩ : ∃ m, j = m + 1 := ⟨j - 1, by omega⟩
      rw [show 32 - (m + 1) = 31 - m by omega, show t / 256 = 1 by omega] at hnum
      have hst := Lib.hid (carry_step (n := 1 + (gb x m).toNat) hx (by omega) rfl hnum)
      have hby := (gb x m).toNat_lt
      have d1 : (255 : Int) < (t : Int) := by omega
      have d2 : 0 < ((m + 1 : Nat) : Int) := by omega
      have d3 : ((m + 1 : Nat) : Int) - 1 = (m : Int) := by omega
      have d4 : (0 : Int) ≤ (m : Int) := by omega
      have d5 : (m : Int) < 32 := by omega
      clear hm0 hnum
      go_wp2_with (first | go_skip | ((with_reducible refine wpl_unguard ?_ ?_); (focus (go_simp; done))) | ((with_reducible apply wpl_loadB hF (T := 5) (hu := Try.underlying5)); exact rfl; (first | exact ⟨0, rfl⟩ | exact ⟨1, rfl⟩ | exact ⟨2, rfl⟩ | exact ⟨3, rfl⟩ | exact ⟨4, rfl⟩ | exact ⟨5, rfl⟩ | exact ⟨6, rfl⟩); (focus (first | omega | (simp only [List.length_set] <;> omega)))) | ((with_reducible apply wpl_storeB hF 0 (T := 5)); exact rfl; exact rfl; exact rfl; exact info_u8; (focus (first | omega | (simp only [List.length_set] <;> omega))); clear hF; intro _ hF))
      go_roundw
      case rel => exact ⟨1 + (gb x m).toNat, m, x.set m (b8 ((1 + (gb x m).toNat : Nat) : Int)), by go_num, rfl, by omega, by omega, by rw [List.length_set, hx], hst.out, by simpa [Int.add_comm] using hF⟩
      case measure => simp [intOf]
end Go.Proofs.Ytnocldlfmkmiaaa
