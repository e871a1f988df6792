/-
  THE WALKS of latticelaw6's known and within.
-/
import Derived.Test.YtbnjgldilckhpaaLmsPub
import Derived.Test.YtbnjgldilckhpaaArgs2
namespace Go.Proofs.Ytbnjgldilckhpaa
set_option linter.unusedSimpArgs false
set_option linter.unusedVariables false
open Go.RowKit
attribute [local irreducible] wpQuiet Calls wpLine wpSeq
set_option maxRecDepth 4000

theorem zeros16 : (List.replicate 16 (0 : UInt8)).length = 16 := rfl

set_option maxHeartbeats 4000000 in
theorem known6 (w : World) : Calls Try.prog 19 #[] w fun e w' => e = .returned (.bool true) ∧ Below w.heap.size w w' := by
  have hF := Fr.start w
  go_enter Try.func19, Try.ntmps19
  go_wp2_with (first | ((with_reducible refine wpl_alloc (dst := some 1) hF (bs (List.replicate 16 0)) (T := 22) (hz := Try.zeroValue22) ?_ ?_); exact rfl; clear hF; intro bn _ hF) | ((with_reducible apply wpl_load hF (T := 22) (hu := Try.underlying22)); exact rfl; (first | exact ⟨0, rfl⟩ | exact ⟨1, rfl⟩ | exact ⟨2, rfl⟩ | exact ⟨3, rfl⟩ | exact ⟨4, rfl⟩ | exact ⟨5, rfl⟩ | exact ⟨6, rfl⟩ | exact ⟨7, rfl⟩ | exact ⟨8, rfl⟩ | exact ⟨9, rfl⟩ | exact ⟨10, rfl⟩ | exact ⟨11, rfl⟩); exact info_nm (List.length_replicate ..)) | ((with_reducible refine wpl_build0 (bs zeros) Try.underlying24 ?_ ?_ ?_); exact info_u8_some; exact Try.zeroValue24) | (go_at_call 20; first | (refine (pubBadL (List.replicate 16 0) zeros16 zeros zeros_length 6 (by omega) _).mono ?_; rintro _ _ ⟨rfl, hb⟩; replace hF := hF.call hb; clear hb) | (refine (pubL (List.replicate 16 0) zeros16 zeros zeros_length 1 (by omega) (by omega) _).mono ?_; rintro _ _ ⟨b1, c1, t1, rfl, hc1, hm⟩; replace hF := hF.took hm; clear hm; have H1 := Lib.hid hc1; clear hc1)))
  go_ret
  exact ⟨rfl, hF.below⟩

theorem within6 (x n : Int) (h1 : 0 < n) (h2 : n ≤ 1000) (x1 : -9223372036854775808 ≤ x) (x2 : x ≤ 9223372036854775807) (w : World) :
    Calls Try.prog 25 #[.int .i64 x, .int .i64 n] w fun e w' => e = .returned (.int .i64 (x % n)) ∧ w' = w := by
  have hn1 : 1 ≤ n := by omega
  by_cases h0 : 0 ≤ x
  · have m0 : 0 ≤ x % n := Int.emod_nonneg x (by omega)
    have m1 : ¬ x % n < 0 := by omega
    go_enter Try.func25, Try.ntmps25
    go_wp2_with (first | fail)
    go_ret
    exact ⟨rfl, rfl⟩
  · have hb : -n < x.tmod n ∧ x.tmod n ≤ 0 := by
      have h3 := Int.tmod_nonneg (a := -x) n (by omega)
      have h4 := Int.tmod_lt_of_pos (-x) (by omega : 0 < n)
      rw [Int.neg_tmod] at h3 h4
      omega
    have he : x % n = if x.tmod n < 0 then x.tmod n + n else x.tmod n := by
      rw [Int.emod_eq_tmod]
      have hd : n ∣ x ↔ x.tmod n = 0 := Int.dvd_iff_tmod_eq_zero
      by_cases hz : x.tmod n = 0
      · rw [if_pos (Or.inr (hd.2 hz)), if_neg (by omega), hz]; rfl
      · rw [if_neg (fun h => h.elim (fun h => h0 h) (fun h => hz (hd.1 h))), if_pos (by omega)]
        congr 1
        omega
    obtain ⟨r, hr⟩ : ∃ r, r = x.tmod n := ⟨_, rfl⟩
    rw [← hr] at hb he
    have Hr := Lib.hid hr.symm
    have He := Lib.hid he
    obtain ⟨hb1, hb2⟩ := hb
    clear he
    have hr' : x.tmod n = r := hr.symm
    clear hr
    by_cases hlt : r < 0
    · go_enter Try.func25, Try.ntmps25
      go_wp2_with (first | fail)
      go_ret
      exact ⟨by rw [He.out, if_pos (by omega)]; rfl, rfl⟩
    · go_enter Try.func25, Try.ntmps25
      go_wp2_with (first | fail)
      go_ret
      exact ⟨by rw [He.out, if_neg (by omega)]; rfl, rfl⟩
end Go.Proofs.Ytbnjgldilckhpaa
