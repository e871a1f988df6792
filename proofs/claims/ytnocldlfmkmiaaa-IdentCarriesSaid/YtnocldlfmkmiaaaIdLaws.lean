/-
  THE WALKS of chapter 2's statements.
-/
import Derived.Test.YtnocldlfmkmiaaaAdd
namespace Go.Proofs.Ytnocldlfmkmiaaa
set_option linter.unusedSimpArgs false
set_option linter.unusedVariables false
open Go.RowKit
attribute [local irreducible] wpQuiet Calls

/-- latticelaw2.near. -/
def nearp (a : List UInt8) (i : Int) (by_ : UInt8) : List UInt8 :=
  if i < 0 then a else a.set (i % 32).toNat (gb a (i % 32).toNat + by_)
theorem nearp_length (a : List UInt8) (i : Int) (by_ : UInt8) : (nearp a i by_).length = a.length := by
  unfold nearp
  split
  · rfl
  · simp

set_option maxHeartbeats 400000 in
theorem near (a : List UInt8) (ha : a.length = 32) (i : Int) (by_ : UInt8) (hi : i ≤ 9223372036854775807) (w : World) :
    Calls Try.prog 20 #[agg a, .int .i64 i, B by_] w fun e w' => e = .returned (agg (nearp a i by_)) ∧ Below w.heap.size w w' := by
  have hF := Fr.start w
  by_cases h : i < 0
  · have hv := Lib.hid (show nearp a i by_ = a by unfold nearp; rw [if_pos h])
    go_enter Try.func20, Try.ntmps20
    go_wp2_with (first | ((with_reducible apply wpl_box (x := Operand.tmp 0) hF); exact rfl; clear hF; intro ba _ hF) | ((with_reducible refine wpl_alloc (dst := some 6) hF (bs zeros) (T := 29) (hz := Try.zeroValue29) ?_ ?_); exact rfl; clear hF; intro br _ hF) | ((with_reducible apply wpl_load hF (T := 29) (hu := Try.underlying29)); exact rfl; (first | exact ⟨0, rfl⟩ | exact ⟨1, rfl⟩ | exact ⟨2, rfl⟩ | exact ⟨3, rfl⟩ | exact ⟨4, rfl⟩ | exact ⟨5, rfl⟩ | exact ⟨6, rfl⟩); exact info_id' (by first | assumption | (with_reducible exact zeros_length) | (with_reducible exact addp_length _ _) | (simp only [List.length_set]; assumption))) | ((with_reducible apply wpl_store hF 1 (T := 29)); exact rfl; exact rfl; exact rfl; exact info_id' (by first | assumption | (with_reducible exact zeros_length) | (with_reducible exact addp_length _ _) | (simp only [List.length_set]; assumption)); (focus (simp only [bs_length, List.length_set, zeros_length, addp_length] <;> omega)); exact bs_oneCell _; clear hF; intro _ hF))
    exact post_row hF rfl rfl rfl ⟨1, rfl⟩ Try.underlying29 (info_id' ha) ⟨by rw [hv.out], hF.below⟩
  · have h' : 0 ≤ i := by omega
    have hv := Lib.hid (show nearp a i by_ = a.set (i % 32).toNat (gb a (i % 32).toNat + by_) by unfold nearp; rw [if_neg h])
    have hl : (nearp a i by_).length = 32 := by rw [nearp_length, ha]
    have hn : (i % 32).toNat < 32 := by omega
    go_enter Try.func20, Try.ntmps20
    go_wp2_with (first | ((with_reducible apply wpl_box (x := Operand.tmp 0) hF); exact rfl; clear hF; intro ba _ hF) | ((with_reducible refine wpl_alloc (dst := some 6) hF (bs zeros) (T := 29) (hz := Try.zeroValue29) ?_ ?_); exact rfl; clear hF; intro br _ hF) | ((with_reducible apply wpl_load hF (T := 29) (hu := Try.underlying29)); exact rfl; (first | exact ⟨0, rfl⟩ | exact ⟨1, rfl⟩ | exact ⟨2, rfl⟩ | exact ⟨3, rfl⟩ | exact ⟨4, rfl⟩ | exact ⟨5, rfl⟩ | exact ⟨6, rfl⟩); exact info_id' (by first | assumption | (with_reducible exact zeros_length) | (with_reducible exact addp_length _ _) | (simp only [List.length_set]; assumption))) | ((with_reducible apply wpl_loadB hF (T := 5) (hu := Try.underlying5)); exact rfl; (first | exact ⟨0, rfl⟩ | exact ⟨1, rfl⟩ | exact ⟨2, rfl⟩ | exact ⟨3, rfl⟩ | exact ⟨4, rfl⟩ | exact ⟨5, rfl⟩ | exact ⟨6, rfl⟩); (focus (first | omega | (simp only [List.length_set] <;> omega)))) | ((with_reducible apply wpl_storeB hF 0 (T := 5)); exact rfl; exact rfl; exact rfl; exact info_u8; (focus (first | omega | (simp only [List.length_set] <;> omega))); clear hF; intro _ hF) | ((with_reducible apply wpl_store hF 1 (T := 29)); exact rfl; exact rfl; exact rfl; exact info_id' (by first | assumption | (with_reducible exact zeros_length) | (with_reducible exact addp_length _ _) | (simp only [List.length_set]; assumption)); (focus (simp only [bs_length, List.length_set, zeros_length, addp_length] <;> omega)); exact bs_oneCell _; clear hF; intro _ hF))
    exact post_row hF rfl rfl rfl ⟨1, rfl⟩ Try.underlying29 (info_id' (by first | assumption | (with_reducible exact zeros_length) | (with_reducible exact addp_length _ _) | (simp only [List.length_set]; assumption))) ⟨by rw [hv.out], hF.below⟩

/-! ### latticelaw2.known -/
/-- The array of seven ids after k rounds. -/
def lk : Nat → List UInt8
  | 0 => List.replicate 224 0
  | k + 1 => (lk k).set (k * 32 + 31) (b8 (k : Int))
theorem lk_length : ∀ k, (lk k).length = 224
  | 0 => by rw [lk, List.length_replicate]
  | k + 1 => by simp [lk, lk_length k]
theorem zero7 : ∀ w, (zeroValue 54).run Try.prog w = .ok (.agg (bs (lk 0)).toArray) w := (zero_of_info (n := 224) (by kernel_rfl)).1
theorem mid_len {l : List UInt8} {o : Nat} (h : o + 32 ≤ l.length) : ((l.drop o).take 32).length = 32 := by simp; omega

set_option maxHeartbeats 1000000 in
theorem known2 (w : World) : Calls Try.prog 19 #[] w fun e w' => e = .returned (.bool true) ∧ Below w.heap.size w w' := by
  have hF := Fr.start w
  go_enter Try.func19, Try.ntmps19
  go_wp2_with (first | ((with_reducible refine wpl_alloc (dst := some 1) hF (bs (lk 0)) (T := 54) (hz := zero7) ?_ ?_); exact rfl; clear hF; intro bl _ hF))
  go_loopw [2] (fun i wr => ∃ k : Nat, k ≤ 7 ∧ i = .int .i64 k ∧ Fr w wr [⟨bl, bs (lk k), 54⟩]) (fun i _ => (7 - intOf i).toNat)
  case atStart => exact ⟨0, by omega, rfl, hF⟩
  case round =>
    clear hF
    obtain ⟨k, hk, rfl, hF⟩ := hrel
    by_cases hlt : k < 7
    · have d1 : (0 : Int) ≤ (k : Int) := by omega
      have d2 : (k : Int) < 7 := by omega
      have hl := lk_length k
      go_wp2_with (first | ((with_reducible apply wpl_storeB hF 0 (T := 5)); exact rfl; exact rfl; exact rfl; exact info_u8; (focus (first | omega | (simp only [List.length_set] <;> omega))); clear hF; intro _ hF))
      go_roundw
      case rel => exact ⟨k + 1, by omega, by go_num, by simpa [lk] using hF⟩
      case measure => simp [intOf]; omega
    · obtain rfl : k = 7 := by omega
      have b1 : btw (((lk 7).drop 160).take 32) (((lk 7).drop 96).take 32) (((lk 7).drop 128).take 32) = true := by kernel_rfl
      have b2 : btw (((lk 7).drop 160).take 32) (((lk 7).drop 192).take 32) (((lk 7).drop 160).take 32) = true := by kernel_rfl
      have b3 : btw (((lk 7).drop 160).take 32) (((lk 7).drop 160).take 32) (((lk 7).drop 160).take 32) = false := by kernel_rfl
      have l7 := lk_length 7
      go_wp2_with (first | go_skip | ((with_reducible refine wpl_unguard ?_ ?_); (focus (go_simp; done))) | ((with_reducible apply wpl_loadMid hF (T := 29) (hu := Try.underlying29) (hi := info_id)); exact rfl; (first | exact ⟨0, rfl⟩ | exact ⟨1, rfl⟩ | exact ⟨2, rfl⟩ | exact ⟨3, rfl⟩ | exact ⟨4, rfl⟩ | exact ⟨5, rfl⟩ | exact ⟨6, rfl⟩); (exact (by rw [lk_length]; omega))) | (go_at_call 21; refine (identBetween _ _ _ (mid_len (by omega)) (mid_len (by omega)) (mid_len (by omega)) _).mono ?_; rintro _ _ ⟨rfl, hb⟩; replace hF := hF.call hb; clear hb) | (go_at_call 22; refine (identWithin _ _ _ (mid_len (by omega)) (mid_len (by omega)) (mid_len (by omega)) _).mono ?_; rintro _ _ ⟨rfl, hb⟩; replace hF := hF.call hb; clear hb))
      go_ret
      exact ⟨rfl, hF.below⟩
end Go.Proofs.Ytnocldlfmkmiaaa
