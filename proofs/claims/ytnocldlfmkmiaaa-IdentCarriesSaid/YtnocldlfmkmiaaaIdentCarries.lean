/-
  IdentCarries: for every two numbers, a power of two is carried on over so many ones, and over bytes. No conditions.
-/
import Derived.Test.YtnocldlfmkmiaaaIdLaws
import Derived.Test.YtnocldlfmkmiaaaTail
import Derived.Test.YtnocldlfmkmiaaaLaws
import Derived.Test.YtnocldlfmkmiaaaArgs
namespace Go.Proofs.Ytnocldlfmkmiaaa
set_option linter.unusedSimpArgs false
set_option linter.unusedVariables false
open Go.ChangeShapes Go.WideShapes Go.ChangeAt Go.RowKit
attribute [local irreducible] wpQuiet Calls
set_option maxRecDepth 4000

/-- One bit. -/
def bit8 (n : Nat) : UInt8 := UInt8.ofNat (2 ^ n)
theorem bit8_toNat (n : Nat) (h : n < 8) : (bit8 n).toNat = 2 ^ n := by
  have : ∀ k : Fin 8, (bit8 k.val).toNat = 2 ^ k.val := by decide
  exact this ⟨n, h⟩
theorem shl_bit8 (T : TypeId) (n : Nat) (h : n < 8) : binOp .shl T (.int .u8 1) (.int .i64 (n : Int)) = pure (B (bit8 n)) := by
  rw [binOp_shl, shift_shl_any _ _ _ _ (by omega)]
  have : ∀ k : Fin 8, IntKind.u8.wrap (1 * 2 ^ min ((k.val : Int)).toNat 8) = ((bit8 k.val).toNat : Int) := by decide
  have := this ⟨n, h⟩
  show pure (Value.int .u8 (IntKind.u8.wrap (1 * 2 ^ min ((n : Int)).toNat 8))) = _
  rw [this]
  rfl
section
variable {P : Program} {ops : Array Oper} {rest : List Oper} {Q : Act → Prop} {a : Act} {w0 : World} {L : List Blk}
theorem wq_shlBit {dst : Option Tmp} {x y : Operand} {T ty T' : TypeId} {pos : String} {after : Array Edge} {n : Nat} (hx : a.eval x = .int .u8 1) (hy : a.eval y = .int .i64 (n : Int)) (hn : n < 8)
    (h : wpQuiet P ops (fun w' => Fr w0 w' L) Q rest (a.put dst (B (bit8 n)))) : wpQuiet P ops (fun w' => Fr w0 w' L) Q (⟨dst, .binOp .shl T x y T', ty, pos, after, none⟩ :: rest) a :=
  wq_bin hx hy rfl (fun w => by rw [shl_bit8 T n hn]; rfl) h
theorem wq_orB {dst : Option Tmp} {x y : Operand} {T ty T' : TypeId} {pos : String} {after : Array Edge} {p q : UInt8} (hx : a.eval x = B p) (hy : a.eval y = B q)
    (h : wpQuiet P ops (fun w' => Fr w0 w' L) Q rest (a.put dst (B (p ||| q)))) : wpQuiet P ops (fun w' => Fr w0 w' L) Q (⟨dst, .binOp .or T x y T', ty, pos, after, none⟩ :: rest) a :=
  wq_bin hx hy (eqGuard_B ..) (fun w => by rw [binOp_or_B]; rfl) h
theorem wq_quoN {dst : Option Tmp} {x y : Operand} {T ty T' : TypeId} {pos : String} {after : Array Edge} {m n : Nat} (hx : a.eval x = .int .i64 (m : Int)) (hy : a.eval y = .int .i64 (n : Int)) (hm : (m : Int) ≤ 9223372036854775807) (hn : 0 < n)
    (h : wpQuiet P ops (fun w' => Fr w0 w' L) Q rest (a.put dst (.int .i64 ((m / n : Nat) : Int)))) : wpQuiet P ops (fun w' => Fr w0 w' L) Q (⟨dst, .binOp .quo T x y T', ty, pos, after, none⟩ :: rest) a :=
  wq_bin hx hy rfl (fun w => by
    show (Op.intDiv .quo .i64 (m : Int) (n : Int)).run P w = _
    have e : ((m : Int)).tdiv (n : Int) = ((m / n : Nat) : Int) := rfl
    have hle : m / n ≤ m := Nat.div_le_self _ _
    have h0 : ¬ ((n : Int) = 0) := by omega
    simp only [Op.intDiv, if_neg h0, e]
    generalize m / n = q at hle ⊢
    rw [IntWalk.i64_in _ (by omega)]
    rfl) h
theorem wq_remN {dst : Option Tmp} {x y : Operand} {T ty T' : TypeId} {pos : String} {after : Array Edge} {m n : Nat} (hx : a.eval x = .int .i64 (m : Int)) (hy : a.eval y = .int .i64 (n : Int)) (hn : 0 < n)
    (h : wpQuiet P ops (fun w' => Fr w0 w' L) Q rest (a.put dst (.int .i64 ((m % n : Nat) : Int)))) : wpQuiet P ops (fun w' => Fr w0 w' L) Q (⟨dst, .binOp .rem T x y T', ty, pos, after, none⟩ :: rest) a :=
  wq_bin hx hy rfl (fun w => by
    show (Op.intDiv .rem .i64 (m : Int) (n : Int)).run P w = _
    have e : ((m : Int)).tmod (n : Int) = ((m % n : Nat) : Int) := rfl
    have h0 : ¬ ((n : Int) = 0) := by omega
    simp only [Op.intDiv, if_neg h0, e]
    rfl) h
end
section
variable {P : Program} {ops : Array Oper} {rest : List Oper} {Q : Exit → Act → World → Prop} {a : Act} {w : World}
theorem wpl_shlBit {dst : Option Tmp} {x y : Operand} {T ty T' : TypeId} {pos : String} {after : Array Edge} {n : Int} (hx : a.eval x = .int .u8 1) (hy : a.eval y = .int .i64 n) (h0 : 0 ≤ n) (hn : n < 8)
    (h : wpList P ops Q rest (a.put dst (B (bit8 n.toNat))) w) : wpList P ops Q (⟨dst, .binOp .shl T x y T', ty, pos, after, none⟩ :: rest) a w := by
  obtain ⟨k, rfl⟩ : ∃ k : Nat, n = (k : Int) := ⟨n.toNat, by omega⟩
  exact wpl_pure (fun w => by simp only [execOp, hx, hy, Sem.run_bind, Sem.run_pure, Result.andThen_ok, shl_bit8 T k (by omega), show eqGuard .shl T x y (.int .u8 1) (.int .i64 (k : Int)) = pure () from rfl, Int.toNat_natCast]) h
end

theorem num_zeros {k : Nat} : num zeros + 2 ^ k = 2 ^ k := by
  have h0 : num zeros = 0 := by kernel_rfl
  rw [h0, Nat.zero_add]
theorem gb_le_num (X : List UInt8) (j : Nat) (hX : X.length = 32) (hj : j < 32) : (gb X j).toNat * 256 ^ (31 - j) ≤ num X := by
  have := num_set X j 0 (by omega)
  rw [hX, show 32 - 1 - j = 31 - j by omega] at this
  simp at this
  omega
theorem pow_parts (i : Nat) : 2 ^ i = 2 ^ (i % 8) * 256 ^ (i / 8) := by
  rw [show (256 : Nat) = 2 ^ 8 from rfl, ← Nat.pow_mul, ← Nat.pow_add]
  congr 1
  omega
theorem or_bit (x : UInt8) (r : Nat) (hr : r < 8) (hx : x.toNat < 2 ^ r) : (x ||| bit8 r).toNat = x.toNat + 2 ^ r := by
  have h := Nat.two_pow_add_eq_or_of_lt hx 1
  rw [Nat.mul_one] at h
  rw [UInt8.toNat_or, bit8_toNat r hr, Nat.or_comm, ← h, Nat.add_comm]
/-- One bit more. -/
theorem bit_step (X : List UInt8) (i k : Nat) (hX : X.length = 32) (hi : i < 256) (h : num X + 2 ^ k = 2 ^ i) :
    num (X.set (31 - i / 8) (gb X (31 - i / 8) ||| bit8 (i % 8))) + 2 ^ k = 2 ^ (i + 1) := by
  have hj : 31 - i / 8 < 32 := by omega
  have h1 := gb_le_num X (31 - i / 8) hX hj
  rw [show 31 - (31 - i / 8) = i / 8 by omega] at h1
  have hp := pow_parts i
  have hk : 0 < 2 ^ k := Nat.pow_pos (by omega)
  have hlt : (gb X (31 - i / 8)).toNat < 2 ^ (i % 8) := by
    apply Classical.byContradiction
    intro hge
    have : 2 ^ (i % 8) * 256 ^ (i / 8) ≤ (gb X (31 - i / 8)).toNat * 256 ^ (i / 8) := Nat.mul_le_mul_right _ (by omega)
    omega
  have hs := num_set X (31 - i / 8) (gb X (31 - i / 8) ||| bit8 (i % 8)) (by omega)
  rw [hX, show 32 - 1 - (31 - i / 8) = i / 8 by omega, or_bit _ _ (by omega) hlt, Nat.add_mul, ← hp] at hs
  rw [Nat.pow_succ]
  omega
theorem bit_alone (i : Nat) (hi : i < 256) : num (zeros.set (31 - i / 8) (bit8 (i % 8))) = 2 ^ i := by
  have hj : 31 - i / 8 < 32 := by omega
  have hs := num_set zeros (31 - i / 8) (bit8 (i % 8)) (by rw [zeros_length]; exact hj)
  have h0 : num zeros = 0 := by kernel_rfl
  have hg : gb zeros (31 - i / 8) = 0 := by
    unfold gb zeros
    rw [List.getD, List.getElem?_replicate, if_pos hj]
    rfl
  rw [zeros_length, show 32 - 1 - (31 - i / 8) = i / 8 by omega, bit8_toNat _ (by omega), h0, hg, ← pow_parts] at hs
  simpa using hs
theorem carries_end (X : List UInt8) (k t : Nat) (hX : X.length = 32) (ht : t < 256) (h : num X + 2 ^ k = 2 ^ t) : addp X k = zeros.set (31 - t / 8) (bit8 (t % 8)) := by
  refine num_inj _ _ (by rw [addp_length, List.length_set, zeros_length]) ?_
  rw [num_addp, h, bit_alone t ht, show (256 : Nat) ^ 32 = 2 ^ 256 by kernel_rfl, Nat.mod_eq_of_lt (Nat.pow_lt_pow_right (by omega) ht)]

set_option maxHeartbeats 4000000 in
theorem carriesMain (k n t : Nat) (ones : Int) (hk : k ≤ 255) (hm : (if 255 - (k : Int) < ones % 256 then 255 - (k : Int) else ones % 256) = (n : Int)) (ht : t = k + n) (ho : 0 ≤ ones) (w : World) :
    Calls Try.prog 8 #[.int .i64 (k : Int), .int .i64 ones] w fun e w' => e = .returned (.bool true) ∧ Below w.heap.size w w' := by
  have hF := Fr.start w
  have k0 : (0 : Int) ≤ (k : Int) := by omega
  have k1 : (k : Int) ≤ 255 := by omega
  have r0 : 0 ≤ ones % 256 := by omega
  have r1 : ones % 256 < 256 := by omega
  have ht' : (k : Int) + (n : Int) = (t : Int) := by omega
  have t1 : t ≤ 255 := by split at hm <;> omega
  have t2 : (t : Int) < 256 := by omega
  have t0 : (0 : Int) ≤ (t : Int) := by omega
  have hkt : k ≤ t := by omega
  have Hm := Lib.hid hm
  have Ht := Lib.hid ht
  by_cases hc : 255 - (k : Int) < ones % 256
  · have en : 255 - (k : Int) = (n : Int) := by rw [if_pos hc] at hm; exact hm
    have hc' : (n : Int) < ones % 256 := by rw [← en]; exact hc
    clear hm ht hc
    go_enter Try.func8, Try.ntmps8; go_wp2_with (first | (go_at_call 19; refine (known2 _).mono ?_; rintro _ _ ⟨rfl, hb⟩; replace hF := hF.call hb; clear hb) | ((with_reducible refine wpl_alloc (dst := some 5) hF (bs zeros) (T := 29) (hz := Try.zeroValue29) ?_ ?_); exact rfl; clear hF; intro ba _ hF)); go_loopw [6] (fun v wr => ∃ (i : Nat) (X : List UInt8), k ≤ i ∧ i ≤ t ∧ v = .int .i64 i ∧ Hid (X.length = 32) ∧ Hid (num X + 2 ^ k = 2 ^ i) ∧ Fr w wr [⟨ba, bs X, 29⟩]) (fun v _ => t - (intOf v).toNat); (case atStart => exact ⟨k, zeros, by omega, hkt, rfl, Lib.hid zeros_length, Lib.hid num_zeros, hF⟩); (case round => (clear hF; obtain ⟨i, X, hi1, hi2, rfl, hX, hN, hF⟩ := hrel; by_cases hlt : i < t; (focus (have i0 : (0 : Int) ≤ (i : Int) := (by omega); have i1 : (i : Int) < (t : Int) := (by omega); have i2 : i < 256 := (by omega); have i3 : i / 8 < 32 := (by omega); have e7 : ((31 : Int) - ((i / 8 : Nat) : Int)).toNat = 31 - i / 8 := (by omega); have hb := Lib.hid (bit_step X i k hX.out i2 hN.out); go_wp2_with (first | fail); ((refine wp_region_fr_tail 10 (by kernel_rfl) (by kernel_rfl) hF ?_); clear hF; simp only [List.take_succ_cons, List.take_zero, List.drop_succ_cons, List.drop_zero]); (repeat (first | (first | ((with_reducible apply wq_move); (focus (simp only [Act.eval, Array.getD_eq_getD_getElem?, List.getElem?_toArray, List.getElem?_cons_succ, List.getElem?_cons_zero, Option.getD_some, List.map_toArray, List.map_cons, List.map_nil] <;> exact rfl)); simp only [Act.put, List.setIfInBounds_toArray, List.set_cons_succ, List.set_cons_zero, e7, Int.toNat_natCast]) | ((with_reducible apply wq_assign); (focus (simp only [Act.eval, Array.getD_eq_getD_getElem?, List.getElem?_toArray, List.getElem?_cons_succ, List.getElem?_cons_zero, Option.getD_some, List.map_toArray, List.map_cons, List.map_nil] <;> exact rfl)); simp only [Act.put, List.setIfInBounds_toArray, List.set_cons_succ, List.set_cons_zero, e7, Int.toNat_natCast]) | ((with_reducible apply wq_quoN (n := 8)); exact rfl; exact rfl; (focus omega); (focus omega); simp only [Act.put, List.setIfInBounds_toArray, List.set_cons_succ, List.set_cons_zero, e7, Int.toNat_natCast]) | ((with_reducible apply wq_remN (n := 8)); exact rfl; exact rfl; (focus omega); simp only [Act.put, List.setIfInBounds_toArray, List.set_cons_succ, List.set_cons_zero, e7, Int.toNat_natCast]) | ((with_reducible apply wq_subI); exact rfl; exact rfl; (focus omega); simp only [Act.put, List.setIfInBounds_toArray, List.set_cons_succ, List.set_cons_zero, e7, Int.toNat_natCast]) | ((with_reducible apply wq_idxA (T := 29) (hu := Try.underlying29) (he := info_u8)); exact rfl; exact rfl; (focus omega); (focus omega); simp only [Act.put, List.setIfInBounds_toArray, List.set_cons_succ, List.set_cons_zero, e7, Int.toNat_natCast]) | ((with_reducible apply wq_loadV (T := 5) (hu := Try.underlying5)); exact rfl; (first | exact ⟨0, rfl⟩ | exact ⟨1, rfl⟩ | exact ⟨2, rfl⟩ | exact ⟨3, rfl⟩ | exact ⟨4, rfl⟩ | exact ⟨5, rfl⟩ | exact ⟨6, rfl⟩); exact bs_get (by rw [hX.out]; omega); simp only [Act.put, List.setIfInBounds_toArray, List.set_cons_succ, List.set_cons_zero, e7, Int.toNat_natCast]) | ((with_reducible apply wq_shlBit); exact rfl; exact rfl; (focus omega); simp only [Act.put, List.setIfInBounds_toArray, List.set_cons_succ, List.set_cons_zero, e7, Int.toNat_natCast]) | ((with_reducible apply wq_orB); exact rfl; exact rfl; simp only [Act.put, List.setIfInBounds_toArray, List.set_cons_succ, List.set_cons_zero, e7, Int.toNat_natCast])))); ((refine wpQuiet_nil ?_); intro _ hF); go_wp2_with (first | ((with_reducible apply wpl_storeB hF 0 (T := 5)); exact rfl; exact rfl; exact rfl; exact info_u8; (focus (rw [hX.out]; omega)); clear hF; intro _ hF)); go_roundw; (case rel => exact ⟨i + 1, _, by omega, by omega, by go_num, Lib.hid (by rw [List.length_set]; exact hX.out), hb, hF⟩); (case measure => simp [intOf]; omega))); (focus (obtain rfl : i = t := (by omega); have i1 : ¬ (i : Int) < (i : Int) := (by omega); have j0 : i % 8 < 8 := (by omega); have e7 : (31 - (i : Int) / 8).toNat = 31 - i / 8 := (by omega); have e5 : ((i : Int) % 8).toNat = i % 8 := (by omega); have e6 : i / 8 < 32 := (by omega); obtain ⟨Y, hY⟩ : ∃ Y, Y = addp X k := ⟨_, rfl⟩; have hYl : Y.length = 32 := (by rw [hY]; exact addp_length _ _); have hYe : Y = zeros.set (31 - i / 8) (bit8 (i % 8)) := (by rw [hY]; exact carries_end X k i hX.out (by omega) hN.out); have HY := Lib.hid hY.symm; have HYe := Lib.hid hYe; have hzl : (zeros.set (31 - i / 8) (bit8 (i % 8))).length = 32 := (by rw [List.length_set]; rfl); clear hY hYe hlt; go_wp2_with (first | ((with_reducible apply wpl_load hF (T := 29) (hu := Try.underlying29)); exact rfl; (first | exact ⟨0, rfl⟩ | exact ⟨1, rfl⟩ | exact ⟨2, rfl⟩ | exact ⟨3, rfl⟩ | exact ⟨4, rfl⟩ | exact ⟨5, rfl⟩ | exact ⟨6, rfl⟩); exact info_id' (by first | exact hX.out | exact hYl | exact hzl)) | (go_at_call 27; refine (identAdd X hX.out k (by omega) _).mono ?_; rintro _ _ ⟨rfl, hb⟩; rw [HY.out]; replace hF := hF.call hb; clear hb) | ((with_reducible refine wpl_alloc (dst := some 7) hF (bs zeros) (T := 29) (hz := Try.zeroValue29) ?_ ?_); exact rfl; clear hF; intro bp _ hF) | ((with_reducible refine wpl_alloc (dst := some 9) hF (bs zeros) (T := 29) (hz := Try.zeroValue29) ?_ ?_); exact rfl; clear hF; intro bq _ hF) | ((with_reducible apply wpl_store hF 1 (T := 29)); exact rfl; exact rfl; exact rfl; exact info_id' hYl; (focus (rw [bs_length, bs_length, hYl]; rfl)); exact bs_oneCell _; clear hF; intro _ hF) | ((with_reducible apply wpl_shlBit); exact rfl; exact rfl; (focus omega); (focus omega); rw [e5]) | ((with_reducible apply wpl_storeB hF 2 (T := 5)); exact rfl; exact rfl; exact rfl; exact info_u8; (focus (rw [zeros_length]; omega)); clear hF; intro _ hF) | go_skip | ((with_reducible refine wpl_unguard ?_ ?_); (focus (go_simp; done)))); go_ret; exact ⟨by first | rfl | simp [← HYe.out] | (rw [← HYe.out]; simp), hF.below⟩))))
  · have en : ones % 256 = (n : Int) := by rw [if_neg hc] at hm; exact hm
    have hc' : ¬ 255 - (k : Int) < (n : Int) := by rw [← en]; exact hc
    clear hm ht hc r0 r1
    go_enter Try.func8, Try.ntmps8; go_wp2_with (first | (go_at_call 19; refine (known2 _).mono ?_; rintro _ _ ⟨rfl, hb⟩; replace hF := hF.call hb; clear hb) | ((with_reducible refine wpl_alloc (dst := some 5) hF (bs zeros) (T := 29) (hz := Try.zeroValue29) ?_ ?_); exact rfl; clear hF; intro ba _ hF)); go_loopw [6] (fun v wr => ∃ (i : Nat) (X : List UInt8), k ≤ i ∧ i ≤ t ∧ v = .int .i64 i ∧ Hid (X.length = 32) ∧ Hid (num X + 2 ^ k = 2 ^ i) ∧ Fr w wr [⟨ba, bs X, 29⟩]) (fun v _ => t - (intOf v).toNat); (case atStart => exact ⟨k, zeros, by omega, hkt, rfl, Lib.hid zeros_length, Lib.hid num_zeros, hF⟩); (case round => (clear hF; obtain ⟨i, X, hi1, hi2, rfl, hX, hN, hF⟩ := hrel; by_cases hlt : i < t; (focus (have i0 : (0 : Int) ≤ (i : Int) := (by omega); have i1 : (i : Int) < (t : Int) := (by omega); have i2 : i < 256 := (by omega); have i3 : i / 8 < 32 := (by omega); have e7 : ((31 : Int) - ((i / 8 : Nat) : Int)).toNat = 31 - i / 8 := (by omega); have hb := Lib.hid (bit_step X i k hX.out i2 hN.out); go_wp2_with (first | fail); ((refine wp_region_fr_tail 10 (by kernel_rfl) (by kernel_rfl) hF ?_); clear hF; simp only [List.take_succ_cons, List.take_zero, List.drop_succ_cons, List.drop_zero]); (repeat (first | (first | ((with_reducible apply wq_move); (focus (simp only [Act.eval, Array.getD_eq_getD_getElem?, List.getElem?_toArray, List.getElem?_cons_succ, List.getElem?_cons_zero, Option.getD_some, List.map_toArray, List.map_cons, List.map_nil] <;> exact rfl)); simp only [Act.put, List.setIfInBounds_toArray, List.set_cons_succ, List.set_cons_zero, e7, Int.toNat_natCast]) | ((with_reducible apply wq_assign); (focus (simp only [Act.eval, Array.getD_eq_getD_getElem?, List.getElem?_toArray, List.getElem?_cons_succ, List.getElem?_cons_zero, Option.getD_some, List.map_toArray, List.map_cons, List.map_nil] <;> exact rfl)); simp only [Act.put, List.setIfInBounds_toArray, List.set_cons_succ, List.set_cons_zero, e7, Int.toNat_natCast]) | ((with_reducible apply wq_quoN (n := 8)); exact rfl; exact rfl; (focus omega); (focus omega); simp only [Act.put, List.setIfInBounds_toArray, List.set_cons_succ, List.set_cons_zero, e7, Int.toNat_natCast]) | ((with_reducible apply wq_remN (n := 8)); exact rfl; exact rfl; (focus omega); simp only [Act.put, List.setIfInBounds_toArray, List.set_cons_succ, List.set_cons_zero, e7, Int.toNat_natCast]) | ((with_reducible apply wq_subI); exact rfl; exact rfl; (focus omega); simp only [Act.put, List.setIfInBounds_toArray, List.set_cons_succ, List.set_cons_zero, e7, Int.toNat_natCast]) | ((with_reducible apply wq_idxA (T := 29) (hu := Try.underlying29) (he := info_u8)); exact rfl; exact rfl; (focus omega); (focus omega); simp only [Act.put, List.setIfInBounds_toArray, List.set_cons_succ, List.set_cons_zero, e7, Int.toNat_natCast]) | ((with_reducible apply wq_loadV (T := 5) (hu := Try.underlying5)); exact rfl; (first | exact ⟨0, rfl⟩ | exact ⟨1, rfl⟩ | exact ⟨2, rfl⟩ | exact ⟨3, rfl⟩ | exact ⟨4, rfl⟩ | exact ⟨5, rfl⟩ | exact ⟨6, rfl⟩); exact bs_get (by rw [hX.out]; omega); simp only [Act.put, List.setIfInBounds_toArray, List.set_cons_succ, List.set_cons_zero, e7, Int.toNat_natCast]) | ((with_reducible apply wq_shlBit); exact rfl; exact rfl; (focus omega); simp only [Act.put, List.setIfInBounds_toArray, List.set_cons_succ, List.set_cons_zero, e7, Int.toNat_natCast]) | ((with_reducible apply wq_orB); exact rfl; exact rfl; simp only [Act.put, List.setIfInBounds_toArray, List.set_cons_succ, List.set_cons_zero, e7, Int.toNat_natCast])))); ((refine wpQuiet_nil ?_); intro _ hF); go_wp2_with (first | ((with_reducible apply wpl_storeB hF 0 (T := 5)); exact rfl; exact rfl; exact rfl; exact info_u8; (focus (rw [hX.out]; omega)); clear hF; intro _ hF)); go_roundw; (case rel => exact ⟨i + 1, _, by omega, by omega, by go_num, Lib.hid (by rw [List.length_set]; exact hX.out), hb, hF⟩); (case measure => simp [intOf]; omega))); (focus (obtain rfl : i = t := (by omega); have i1 : ¬ (i : Int) < (i : Int) := (by omega); have j0 : i % 8 < 8 := (by omega); have e7 : (31 - (i : Int) / 8).toNat = 31 - i / 8 := (by omega); have e5 : ((i : Int) % 8).toNat = i % 8 := (by omega); have e6 : i / 8 < 32 := (by omega); obtain ⟨Y, hY⟩ : ∃ Y, Y = addp X k := ⟨_, rfl⟩; have hYl : Y.length = 32 := (by rw [hY]; exact addp_length _ _); have hYe : Y = zeros.set (31 - i / 8) (bit8 (i % 8)) := (by rw [hY]; exact carries_end X k i hX.out (by omega) hN.out); have HY := Lib.hid hY.symm; have HYe := Lib.hid hYe; have hzl : (zeros.set (31 - i / 8) (bit8 (i % 8))).length = 32 := (by rw [List.length_set]; rfl); clear hY hYe hlt; go_wp2_with (first | ((with_reducible apply wpl_load hF (T := 29) (hu := Try.underlying29)); exact rfl; (first | exact ⟨0, rfl⟩ | exact ⟨1, rfl⟩ | exact ⟨2, rfl⟩ | exact ⟨3, rfl⟩ | exact ⟨4, rfl⟩ | exact ⟨5, rfl⟩ | exact ⟨6, rfl⟩); exact info_id' (by first | exact hX.out | exact hYl | exact hzl)) | (go_at_call 27; refine (identAdd X hX.out k (by omega) _).mono ?_; rintro _ _ ⟨rfl, hb⟩; rw [HY.out]; replace hF := hF.call hb; clear hb) | ((with_reducible refine wpl_alloc (dst := some 7) hF (bs zeros) (T := 29) (hz := Try.zeroValue29) ?_ ?_); exact rfl; clear hF; intro bp _ hF) | ((with_reducible refine wpl_alloc (dst := some 9) hF (bs zeros) (T := 29) (hz := Try.zeroValue29) ?_ ?_); exact rfl; clear hF; intro bq _ hF) | ((with_reducible apply wpl_store hF 1 (T := 29)); exact rfl; exact rfl; exact rfl; exact info_id' hYl; (focus (rw [bs_length, bs_length, hYl]; rfl)); exact bs_oneCell _; clear hF; intro _ hF) | ((with_reducible apply wpl_shlBit); exact rfl; exact rfl; (focus omega); (focus omega); rw [e5]) | ((with_reducible apply wpl_storeB hF 2 (T := 5)); exact rfl; exact rfl; exact rfl; exact info_u8; (focus (rw [zeros_length]; omega)); clear hF; intro _ hF) | go_skip | ((with_reducible refine wpl_unguard ?_ ?_); (focus (go_simp; done)))); go_ret; exact ⟨by first | rfl | simp [← HYe.out] | (rw [← HYe.out]; simp), hF.below⟩))))

theorem IdentCarries_walk (k ones : Int) (m1 : -9223372036854775808 ≤ k) (m2 : k ≤ 9223372036854775807) (o1 : -9223372036854775808 ≤ ones) (o2 : ones ≤ 9223372036854775807) (w : World) :
    Calls Try.prog 8 #[.int .i64 k, .int .i64 ones] w fun e w' => e = .returned (.bool true) ∧ Below w.heap.size w w' := by
  have hF := Fr.start w
  clear m1 m2 o1 o2
  by_cases hk0 : k < 0
  · go_enter Try.func8, Try.ntmps8
    go_wp2_with (first | (go_at_call 19; refine (known2 _).mono ?_; rintro _ _ ⟨rfl, hb⟩; replace hF := hF.call hb; clear hb))
    go_ret
    exact ⟨rfl, hF.below⟩
  have hk0' : decide (k < 0) = false := by simpa using hk0
  by_cases hk1 : 255 < k
  · go_enter Try.func8, Try.ntmps8
    go_wp2_with (first | (go_at_call 19; refine (known2 _).mono ?_; rintro _ _ ⟨rfl, hb⟩; replace hF := hF.call hb; clear hb))
    go_ret
    exact ⟨rfl, hF.below⟩
  have hk1' : decide (255 < k) = false := by simpa using hk1
  by_cases ho : ones < 0
  · go_enter Try.func8, Try.ntmps8
    go_wp2_with (first | (go_at_call 19; refine (known2 _).mono ?_; rintro _ _ ⟨rfl, hb⟩; replace hF := hF.call hb; clear hb))
    go_ret
    exact ⟨rfl, hF.below⟩
  obtain ⟨m, rfl⟩ : ∃ m : Nat, k = (m : Int) := ⟨k.toNat, by omega⟩
  have hn : ∃ n : Nat, (if 255 - (m : Int) < ones % 256 then 255 - (m : Int) else ones % 256) = (n : Int) := by
    split
    · exact ⟨(255 - (m : Int)).toNat, by omega⟩
    · exact ⟨(ones % 256).toNat, by omega⟩
  obtain ⟨n, hn⟩ := hn
  exact carriesMain m n _ ones (by omega) hn rfl (by omega) w

set_option maxRecDepth 100000 in
theorem IdentCarries_lifted (os : Os) (started : os.Started) (H : Type) (enc : TypeId × Value → H) :
    ReturnsInHanded {} Try.checked os 8 .any (Rows.identCarriesSpec.pre6 enc Try.prog Try.f8 Rows.identCarriesRow.domain false) (Rows.identCarriesSpec.post enc Try.prog Try.f8 false true false false) := by
  refine returnsInHanded_of_change (C := Try.checked) own started (by kernel_rfl) Try.func8
    (ChangeSpec.witness6 (enc := enc) (C := Try.checked) false ⟨#[], #[.int .i64 0, .int .i64 0], []⟩ 8 (by kernel_rfl) (by kernel_rfl) (by kernel_rfl) (by kernel_rfl)) ?_
  intro W base args ds gs before hval0 hW hcnd _
  have hval : ∀ (j : Nat) t v, Try.f8.params[j]? = some t → args[j]? = some v → Value.okWide Try.prog W .any base t v := hval0
  have hW' := hW
  obtain ⟨p, q, hA0, hV, rfl, hfz, hnd⟩ := hW
  have hA : DataW.TrodAll enc Try.prog W 0 (fun _ => true) true Try.f8.params.toList args.toList ds p := hA0
  rw [Try.params8] at hA hval
  obtain ⟨v0, vs0, d0, ds0, p0, q0, hargs, rfl, rfl, h0, r0⟩ := trodAll_cons hA
  obtain ⟨v1, vs1, d1, ds1, p1, q1, rfl, rfl, rfl, h1, r1⟩ := trodAll_cons r0
  obtain ⟨rfl, rfl, rfl⟩ := trodAll_nil r1
  obtain rfl : args = #[v0, v1] := by cases args; simp_all
  obtain ⟨rfl, rfl⟩ := trodVars_none hV
  have k0 := h0
  have lt0 : ∀ x ∈ p0, x.block < W.heap.size := by obtain ⟨m, hm⟩ := k0; exact DataW.trod_lt m _ _ _ hm
  obtain ⟨l0, rfl, n0⟩ := okWide_i64 Try.underlying3 (hval 0 3 v0 rfl rfl)
  have k1 := h1
  have lt1 : ∀ x ∈ p1, x.block < W.heap.size := by obtain ⟨m, hm⟩ := k1; exact DataW.trod_lt m _ _ _ hm
  obtain ⟨l1, rfl, n1⟩ := okWide_i64 Try.underlying3 (hval 1 3 v1 rfl rfl)
  clear hA0 hval0 hcnd
  refine (IdentCarries_walk l0 l1 n0.1 n0.2 n1.1 n1.2 W).mono fun e W' ⟨he, bel⟩ => ?_
  subst he
  exact ⟨_, rfl, _, _, _, [], _, [], hW', trodAll_mk1 (shut_bool Try.underlying4 _), (trodAll_cons_mk (Below.trod laidOut (by kernel_rfl) (of_decide_eq_true (by kernel_rfl)) k0 bel lt0) (trodAll_cons_mk (Below.trod laidOut (by kernel_rfl) (of_decide_eq_true (by kernel_rfl)) k1 bel lt1) trodAll_mk0)), rfl, bel.frame _, fun h => by cases h⟩

theorem IdentCarries_over : Rows.identCarriesRow.holds Try.pinned (OpenSpec.ofChange Rows.identCarriesSpec) :=
  OpenClaim.holds_of_wide 8 Try.f8 rfl rfl rfl rfl rfl rfl rfl ⟨rfl, rfl, rfl, rfl, rfl⟩ rfl rfl rfl rfl rfl (by kernel_rfl) Try.func8 (by kernel_rfl)
    (of_decide_eq_true (by kernel_rfl)) (by unfold Func.isWrapper; first | (rw [if_pos (by decide +kernel)]; kernel_rfl) | (rw [if_neg (by decide +kernel)]; exact ⟨rfl, rfl⟩))
    (fun os started H enc _ => IdentCarries_lifted os started H enc)

theorem IdentCarries_holds : Rows.IdentCarriesSaid := IdentCarries_over
#print axioms IdentCarries_holds
end Go.Proofs.Ytnocldlfmkmiaaa
