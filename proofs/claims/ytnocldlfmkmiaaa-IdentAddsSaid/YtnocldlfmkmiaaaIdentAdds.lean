/-
  IdentAdds: for every id and every number k, all powers of two, one behind the other, and one more, come back to where they began; each lies behind the one ahead. No conditions.
-/
import Derived.Test.YtnocldlfmkmiaaaIdLaws
import Derived.Test.YtnocldlfmkmiaaaArgs
namespace Go.Proofs.Ytnocldlfmkmiaaa
set_option linter.unusedSimpArgs false
set_option linter.unusedVariables false
open Go.ChangeShapes Go.WideShapes Go.ChangeAt Go.RowKit
attribute [local irreducible] wpQuiet Calls addp num toBytes

theorem identAddI (a : List UInt8) (ha : a.length = 32) (k : Int) (h0 : 0 ≤ k) (h1 : k ≤ 255) (w : World) :
    Calls Try.prog 27 #[agg a, .int .i64 k] w fun e w' => e = .returned (.tuple #[agg (addp a k.toNat), .int .i64 0]) ∧ Below w.heap.size w w' := by
  have := identAdd a ha k.toNat (by omega) w
  rwa [Int.toNat_of_nonneg h0] at this

/-- 2^256. -/
def top : Nat := 256 ^ 32
theorem addp_num (a : List UInt8) (k : Nat) : num (addp a k) = (num a + 2 ^ k) % top := num_addp a k
theorem num_top {a : List UInt8} (ha : a.length = 32) : num a < top := by have := num_lt a; rwa [ha] at this

theorem adds_step {A X T p : Nat} (h : (X + 1) % T = (A + p) % T) : ((X + p) % T + 1) % T = (A + 2 * p) % T := by
  rw [Nat.mod_add_mod, show X + p + 1 = (X + 1) + p by omega, ← Nat.mod_add_mod, h, Nat.mod_add_mod]
  congr 1
  omega

theorem adds_end {a x : List UInt8} (ha : a.length = 32) (h : (num x + 1) % top = (num a + 2 ^ 256) % top) : addp x 0 = a := by
  refine num_inj _ _ (by rw [addp_length, ha]) ?_
  rw [addp_num, show (2 : Nat) ^ 0 = 1 from rfl, h, show (2 : Nat) ^ 256 = top by kernel_rfl, Nat.add_mod_right, Nat.mod_eq_of_lt (num_top ha)]

theorem mod_two {A T p : Nat} (hA : A < T) (hp : p < T) : (A + p) % T = if A + p < T then A + p else A + p - T := by
  split
  · exact Nat.mod_eq_of_lt ‹_›
  · rw [Nat.mod_eq_sub_mod (by omega), Nat.mod_eq_of_lt (by omega)]

theorem pow_top {k : Nat} (hk : k ≤ 255) : 2 ^ k < top := by
  have e : top = 2 ^ 256 := by kernel_rfl
  rw [e]
  exact Nat.pow_lt_pow_right (by omega) (by omega)

theorem adds_twice (a : List UInt8) (k : Nat) : addp (addp a k) k = addp a (k + 1) := by
  refine num_inj _ _ (by rw [addp_length, addp_length]) ?_
  rw [addp_num, addp_num, addp_num, Nat.mod_add_mod, Nat.pow_succ]
  congr 1
  omega

theorem adds_ne (a : List UInt8) (ha : a.length = 32) (k : Nat) (hk : k ≤ 255) : addp a k ≠ a := by
  intro h
  have h1 := addp_num a k
  rw [h, mod_two (num_top ha) (pow_top hk)] at h1
  have hp : 0 < 2 ^ k := Nat.pow_pos (by omega)
  have := pow_top hk
  split at h1 <;> omega

theorem btw_arith {A p T Y Z : Nat} (hp : 0 < p) (hA : A < T) (h : 2 * p < T) (hY : Y = if A + p < T then A + p else A + p - T) (hZ : Z = if A + 2 * p < T then A + 2 * p else A + 2 * p - T) :
    (bif decide (A < Z) then decide (A < Y) && decide (Y < Z) else decide (A < Y) || decide (Y < Z)) = true := by
  by_cases c1 : A + p < T
  · rw [if_pos c1] at hY
    by_cases c2 : A + 2 * p < T
    · rw [if_pos c2] at hZ
      have e1 : A < Z := by omega
      have e2 : A < Y := by omega
      have e3 : Y < Z := by omega
      simp [e1, e2, e3]
    · rw [if_neg c2] at hZ
      have e1 : ¬ A < Z := by omega
      have e2 : A < Y := by omega
      simp [e1, e2]
  · rw [if_neg c1] at hY
    have c2 : ¬ A + 2 * p < T := by omega
    rw [if_neg c2] at hZ
    have e1 : ¬ A < Z := by omega
    have e3 : Y < Z := by omega
    simp [e1, e3]

theorem btw_ne (a x b : List UInt8) (h : a ≠ b) : btw a x b = bif idlt a b then idlt a x && idlt x b else idlt a x || idlt x b := by
  simp [btw, h]

theorem adds_btw (a : List UInt8) (ha : a.length = 32) (k : Nat) (hk : k ≤ 254) : btw a (addp a k) (addp a (k + 1)) = true := by
  have hz : a ≠ addp a (k + 1) := fun h => adds_ne a ha (k + 1) (by omega) h.symm
  have hp : 0 < 2 ^ k := Nat.pow_pos (by omega)
  have h1 := num_top ha
  have h2 := pow_top (show k + 1 ≤ 255 by omega)
  have ey := addp_num a k
  have ez := addp_num a (k + 1)
  rw [mod_two h1 (pow_top (by omega))] at ey
  rw [mod_two h1 h2] at ez
  have e2 : 2 ^ (k + 1) = 2 * 2 ^ k := by rw [Nat.pow_succ]; omega
  rw [e2] at ez h2
  have l1 := idlt_num a (addp a (k + 1)) (by rw [ha, addp_length])
  have l2 := idlt_num a (addp a k) (by rw [ha, addp_length])
  have l3 := idlt_num (addp a k) (addp a (k + 1)) (by rw [addp_length, addp_length])
  rw [btw_ne _ _ _ hz, l1, l2, l3]
  exact btw_arith hp h1 h2 ey ez

set_option maxRecDepth 4000 in
set_option maxHeartbeats 1000000 in
theorem IdentAdds_walk (a : List UInt8) (k : Int) (ha : a.length = 32) (hlo : -9223372036854775808 ≤ k) (hhi : k ≤ 9223372036854775807) (w : World) :
    Calls Try.prog 7 #[agg a, .int .i64 k] w fun e w' => e = .returned (.bool true) ∧ Below w.heap.size w w' := by
  have hF := Fr.start w
  go_enter Try.func7, Try.ntmps7
  go_wp2_with (first | ((with_reducible apply wpl_box (x := Operand.tmp 0) hF); exact rfl; clear hF; intro ba _ hF) | ((with_reducible refine wpl_alloc (dst := some 5) hF (bs zeros) (T := 29) (hz := Try.zeroValue29) ?_ ?_); exact rfl; clear hF; intro bx _ hF) | ((with_reducible apply wpl_load hF (T := 29) (hu := Try.underlying29)); exact rfl; (first | exact ⟨0, rfl⟩ | exact ⟨1, rfl⟩ | exact ⟨2, rfl⟩ | exact ⟨3, rfl⟩ | exact ⟨4, rfl⟩ | exact ⟨5, rfl⟩ | exact ⟨6, rfl⟩); exact info_id' (by first | assumption | (with_reducible exact zeros_length) | (with_reducible exact addp_length _ _) | (simp only [List.length_set]; assumption))) | ((with_reducible apply wpl_store hF 1 (T := 29)); exact rfl; exact rfl; exact rfl; exact info_id' (by first | assumption | (with_reducible exact zeros_length) | (with_reducible exact addp_length _ _) | (simp only [List.length_set]; assumption)); (focus (simp only [bs_length, List.length_set, zeros_length, addp_length] <;> omega)); exact bs_oneCell _; clear hF; intro _ hF) | (go_at_call 19; refine (known2 _).mono ?_; rintro _ _ ⟨rfl, hb⟩; replace hF := hF.call hb; clear hb))
  go_loopw [6] (fun i wr => ∃ (m : Nat) (x : List UInt8), m ≤ 256 ∧ i = .int .i64 m ∧ x.length = 32 ∧ (num x + 1) % top = (num a + 2 ^ m) % top ∧ Fr w wr [⟨ba, bs a, 29⟩, ⟨bx, bs x, 29⟩]) (fun i _ => (256 - intOf i).toNat)
  case atStart => exact ⟨0, a, by omega, rfl, ha, rfl, hF⟩
  case round =>
    clear hF
    obtain ⟨m, x, hm, rfl, hx, hn, hF⟩ := hrel
    by_cases hlt : m < 256
    · have d1 : (0 : Int) ≤ (m : Int) := by omega
      have d2 : (m : Int) < 256 := by omega
      have hn1 := Lib.hid (adds_step hn)
      clear hn
      go_wp2_with (first | ((with_reducible apply wpl_load hF (T := 29) (hu := Try.underlying29)); exact rfl; (first | exact ⟨0, rfl⟩ | exact ⟨1, rfl⟩ | exact ⟨2, rfl⟩ | exact ⟨3, rfl⟩ | exact ⟨4, rfl⟩ | exact ⟨5, rfl⟩ | exact ⟨6, rfl⟩); exact info_id' (by first | assumption | (with_reducible exact zeros_length) | (with_reducible exact addp_length _ _) | (simp only [List.length_set]; assumption))) | ((with_reducible refine wpl_alloc (dst := some 7) hF (bs zeros) (T := 29) (hz := Try.zeroValue29) ?_ ?_); exact rfl; clear hF; intro by1 _ hF) | ((with_reducible apply wpl_store hF 2 (T := 29)); exact rfl; exact rfl; exact rfl; exact info_id' (by first | assumption | (with_reducible exact zeros_length) | (with_reducible exact addp_length _ _) | (simp only [List.length_set]; assumption)); (focus (simp only [bs_length, List.length_set, zeros_length, addp_length] <;> omega)); exact bs_oneCell _; clear hF; intro _ hF) | ((with_reducible apply wpl_store hF 1 (T := 29)); exact rfl; exact rfl; exact rfl; exact info_id' (by first | assumption | (with_reducible exact zeros_length) | (with_reducible exact addp_length _ _) | (simp only [List.length_set]; assumption)); (focus (simp only [bs_length, List.length_set, zeros_length, addp_length] <;> omega)); exact bs_oneCell _; clear hF; intro _ hF) | (go_at_call 27; refine (identAddI _ (by first | assumption | (with_reducible exact zeros_length) | (with_reducible exact addp_length _ _) | (simp only [List.length_set]; assumption)) _ (by omega) (by omega) _).mono ?_; rintro _ _ ⟨rfl, hb⟩; replace hF := hF.call hb; clear hb))
      go_roundw
      case rel => exact ⟨m + 1, addp x m, by omega, by go_num, addp_length _ _, by have := hn1.out; rw [addp_num, this, Nat.pow_succ, Nat.mul_comm], (by simpa using hF.sub (L' := [⟨ba, bs a, 29⟩, ⟨bx, bs (addp x m), 29⟩]) (by simp))⟩
      case measure => simp [intOf]; omega
    · obtain rfl : m = 256 := by omega
      have hend := adds_end ha hn
      clear hn hlt hm
      by_cases hk : k < 0 ∨ 254 < k
      · rcases hk with hk | hk
        · go_wp2_with (first | go_skip | ((with_reducible refine wpl_unguard ?_ ?_); (focus (go_simp; done))) | ((with_reducible apply wpl_load hF (T := 29) (hu := Try.underlying29)); exact rfl; (first | exact ⟨0, rfl⟩ | exact ⟨1, rfl⟩ | exact ⟨2, rfl⟩ | exact ⟨3, rfl⟩ | exact ⟨4, rfl⟩ | exact ⟨5, rfl⟩ | exact ⟨6, rfl⟩); exact info_id' (by first | assumption | (with_reducible exact zeros_length) | (with_reducible exact addp_length _ _) | (simp only [List.length_set]; assumption))) | ((with_reducible apply wpl_store hF 1 (T := 29)); exact rfl; exact rfl; exact rfl; exact info_id' (by first | assumption | (with_reducible exact zeros_length) | (with_reducible exact addp_length _ _) | (simp only [List.length_set]; assumption)); (focus (simp only [bs_length, List.length_set, zeros_length, addp_length] <;> omega)); exact bs_oneCell _; clear hF; intro _ hF) | (go_at_call 27; refine (identAddI _ (by first | assumption | (with_reducible exact zeros_length) | (with_reducible exact addp_length _ _) | (simp only [List.length_set]; assumption)) _ (by omega) (by omega) _).mono ?_; rintro _ _ ⟨rfl, hb⟩; replace hF := hF.call hb; clear hb))
          go_ret
          exact ⟨rfl, hF.below⟩
        · have hk' : ¬ k < 0 := by omega
          go_wp2_with (first | go_skip | ((with_reducible refine wpl_unguard ?_ ?_); (focus (go_simp; done))) | ((with_reducible apply wpl_load hF (T := 29) (hu := Try.underlying29)); exact rfl; (first | exact ⟨0, rfl⟩ | exact ⟨1, rfl⟩ | exact ⟨2, rfl⟩ | exact ⟨3, rfl⟩ | exact ⟨4, rfl⟩ | exact ⟨5, rfl⟩ | exact ⟨6, rfl⟩); exact info_id' (by first | assumption | (with_reducible exact zeros_length) | (with_reducible exact addp_length _ _) | (simp only [List.length_set]; assumption))) | ((with_reducible apply wpl_store hF 1 (T := 29)); exact rfl; exact rfl; exact rfl; exact info_id' (by first | assumption | (with_reducible exact zeros_length) | (with_reducible exact addp_length _ _) | (simp only [List.length_set]; assumption)); (focus (simp only [bs_length, List.length_set, zeros_length, addp_length] <;> omega)); exact bs_oneCell _; clear hF; intro _ hF) | (go_at_call 27; refine (identAddI _ (by first | assumption | (with_reducible exact zeros_length) | (with_reducible exact addp_length _ _) | (simp only [List.length_set]; assumption)) _ (by omega) (by omega) _).mono ?_; rintro _ _ ⟨rfl, hb⟩; replace hF := hF.call hb; clear hb))
          go_ret
          exact ⟨rfl, hF.below⟩
      · have hk1 : ¬ k < 0 := by omega
        have hk2 : ¬ 254 < k := by omega
        have hk3 : k + 1 ≤ 255 := by omega
        have hk4 : 0 ≤ k + 1 := by omega
        have t1 : addp (addp a k.toNat) k.toNat = addp a (k + 1).toNat := by rw [adds_twice, show (k + 1).toNat = k.toNat + 1 by omega]
        have t2 : btw a (addp a k.toNat) (addp a (k + 1).toNat) = true := by rw [show (k + 1).toNat = k.toNat + 1 by omega]; exact adds_btw a ha _ (by omega)
        have t3 : decide (addp a k.toNat = a) = false := decide_eq_false (adds_ne a ha _ (by omega))
        have l1 := addp_length a k.toNat
        have l2 := addp_length a (k + 1).toNat
        clear hk
        go_wp2_with (first | go_skip | ((with_reducible refine wpl_unguard ?_ ?_); (focus (go_simp; done))) | ((with_reducible apply wpl_load hF (T := 29) (hu := Try.underlying29)); exact rfl; (first | exact ⟨0, rfl⟩ | exact ⟨1, rfl⟩ | exact ⟨2, rfl⟩ | exact ⟨3, rfl⟩ | exact ⟨4, rfl⟩ | exact ⟨5, rfl⟩ | exact ⟨6, rfl⟩); exact info_id' (by first | assumption | (with_reducible exact zeros_length) | (with_reducible exact addp_length _ _) | (simp only [List.length_set]; assumption))) | ((with_reducible refine wpl_alloc (dst := some 10) hF (bs zeros) (T := 29) (hz := Try.zeroValue29) ?_ ?_); exact rfl; clear hF; intro b10 _ hF) | ((with_reducible refine wpl_alloc (dst := some 12) hF (bs zeros) (T := 29) (hz := Try.zeroValue29) ?_ ?_); exact rfl; clear hF; intro b12 _ hF) | ((with_reducible refine wpl_alloc (dst := some 14) hF (bs zeros) (T := 29) (hz := Try.zeroValue29) ?_ ?_); exact rfl; clear hF; intro b14 _ hF) | ((with_reducible apply wpl_store hF 1 (T := 29)); exact rfl; exact rfl; exact rfl; exact info_id' (by first | assumption | (with_reducible exact zeros_length) | (with_reducible exact addp_length _ _) | (simp only [List.length_set]; assumption)); (focus (simp only [bs_length, List.length_set, zeros_length, addp_length] <;> omega)); exact bs_oneCell _; clear hF; intro _ hF) | ((with_reducible apply wpl_store hF 2 (T := 29)); exact rfl; exact rfl; exact rfl; exact info_id' (by first | assumption | (with_reducible exact zeros_length) | (with_reducible exact addp_length _ _) | (simp only [List.length_set]; assumption)); (focus (simp only [bs_length, List.length_set, zeros_length, addp_length] <;> omega)); exact bs_oneCell _; clear hF; intro _ hF) | ((with_reducible apply wpl_store hF 3 (T := 29)); exact rfl; exact rfl; exact rfl; exact info_id' (by first | assumption | (with_reducible exact zeros_length) | (with_reducible exact addp_length _ _) | (simp only [List.length_set]; assumption)); (focus (simp only [bs_length, List.length_set, zeros_length, addp_length] <;> omega)); exact bs_oneCell _; clear hF; intro _ hF) | ((with_reducible apply wpl_store hF 4 (T := 29)); exact rfl; exact rfl; exact rfl; exact info_id' (by first | assumption | (with_reducible exact zeros_length) | (with_reducible exact addp_length _ _) | (simp only [List.length_set]; assumption)); (focus (simp only [bs_length, List.length_set, zeros_length, addp_length] <;> omega)); exact bs_oneCell _; clear hF; intro _ hF) | (go_at_call 27; refine (identAddI _ (by first | assumption | (with_reducible exact zeros_length) | (with_reducible exact addp_length _ _) | (simp only [List.length_set]; assumption)) _ (by omega) (by omega) _).mono ?_; rintro _ _ ⟨rfl, hb⟩; replace hF := hF.call hb; clear hb) | (go_at_call 21; refine (identBetween _ _ _ (by first | assumption | (with_reducible exact zeros_length) | (with_reducible exact addp_length _ _) | (simp only [List.length_set]; assumption)) (by first | assumption | (with_reducible exact zeros_length) | (with_reducible exact addp_length _ _) | (simp only [List.length_set]; assumption)) (by first | assumption | (with_reducible exact zeros_length) | (with_reducible exact addp_length _ _) | (simp only [List.length_set]; assumption)) _).mono ?_; rintro _ _ ⟨rfl, hb⟩; replace hF := hF.call hb; clear hb))
        go_ret
        exact ⟨rfl, hF.below⟩

set_option maxRecDepth 100000 in
theorem IdentAdds_lifted (os : Os) (started : os.Started) (H : Type) (enc : TypeId × Value → H) :
    ReturnsInHanded {} Try.checked os 7 .any (Rows.identAddsSpec.pre6 enc Try.prog Try.f7 Rows.identAddsRow.domain false) (Rows.identAddsSpec.post enc Try.prog Try.f7 false true false false) := by
  refine returnsInHanded_of_change (C := Try.checked) own started (by kernel_rfl) Try.func7
    (ChangeSpec.witness6 (enc := enc) (C := Try.checked) false ⟨#[], #[.agg (Array.replicate 32 (.int .u8 0)), .int .i64 0], []⟩ 8 (by kernel_rfl) (by kernel_rfl) (by kernel_rfl) (by kernel_rfl)) ?_
  intro W base args ds gs before hval0 hW hcnd _
  have hval : ∀ (j : Nat) t v, Try.f7.params[j]? = some t → args[j]? = some v → Value.okWide Try.prog W .any base t v := hval0
  have hW' := hW
  obtain ⟨p, q, hA0, hV, rfl, hfz, hnd⟩ := hW
  have hA : DataW.TrodAll enc Try.prog W 0 (fun _ => true) true Try.f7.params.toList args.toList ds p := hA0
  rw [Try.params7] at hA hval
  obtain ⟨v0, vs0, d0, ds0, p0, q0, hargs, rfl, rfl, h0, r0⟩ := trodAll_cons hA
  obtain ⟨v1, vs1, d1, ds1, p1, q1, rfl, rfl, rfl, h1, r1⟩ := trodAll_cons r0
  obtain ⟨rfl, rfl, rfl⟩ := trodAll_nil r1
  obtain rfl : args = #[v0, v1] := by cases args; simp_all
  obtain ⟨rfl, rfl⟩ := trodVars_none hV
  have k0 := h0
  have lt0 : ∀ x ∈ p0, x.block < W.heap.size := by obtain ⟨m, hm⟩ := k0; exact DataW.trod_lt m _ _ _ hm
  obtain ⟨l0, n0, rfl⟩ := okWide_bytes Try.underlying29 Try.underlying5 (by kernel_rfl) (by kernel_rfl) (hval 0 29 v0 rfl rfl)
  have k1 := h1
  have lt1 : ∀ x ∈ p1, x.block < W.heap.size := by obtain ⟨m, hm⟩ := k1; exact DataW.trod_lt m _ _ _ hm
  obtain ⟨l1, rfl, n1⟩ := okWide_i64 Try.underlying3 (hval 1 3 v1 rfl rfl)
  clear hA0 hval0 hcnd
  refine (IdentAdds_walk l0 l1 n0 n1.1 n1.2 W).mono fun e W' ⟨he, bel⟩ => ?_
  subst he
  exact ⟨_, rfl, _, _, _, [], _, [], hW', trodAll_mk1 (shut_bool Try.underlying4 _), (trodAll_cons_mk (Below.trod laidOut (by kernel_rfl) (of_decide_eq_true (by kernel_rfl)) k0 bel lt0) (trodAll_cons_mk (Below.trod laidOut (by kernel_rfl) (of_decide_eq_true (by kernel_rfl)) k1 bel lt1) trodAll_mk0)), rfl, bel.frame _, fun h => by cases h⟩

theorem IdentAdds_over : Rows.identAddsRow.holds Try.pinned (OpenSpec.ofChange Rows.identAddsSpec) :=
  OpenClaim.holds_of_wide 7 Try.f7 rfl rfl rfl rfl rfl rfl rfl ⟨rfl, rfl, rfl, rfl, rfl⟩ rfl rfl rfl rfl rfl (by kernel_rfl) Try.func7 (by kernel_rfl)
    (of_decide_eq_true (by kernel_rfl)) (by unfold Func.isWrapper; first | (rw [if_pos (by decide +kernel)]; kernel_rfl) | (rw [if_neg (by decide +kernel)]; exact ⟨rfl, rfl⟩))
    (fun os started H enc _ => IdentAdds_lifted os started H enc)

theorem IdentAdds_holds : Rows.IdentAddsSaid := IdentAdds_over
#print axioms IdentAdds_holds
end Go.Proofs.Ytnocldlfmkmiaaa
