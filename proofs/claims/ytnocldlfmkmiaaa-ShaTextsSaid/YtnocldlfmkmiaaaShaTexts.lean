/-
  ShaTexts: for every id, the text that sha.Text tells of its 32 bytes has 64 digits, and says each byte. No conditions.
-/
import Derived.Test.YtnocldlfmkmiaaaKnown1
import Derived.Test.YtnocldlfmkmiaaaArgs
namespace Go.Proofs.Ytnocldlfmkmiaaa
set_option linter.unusedSimpArgs false
set_option linter.unusedVariables false
open Go.ChangeShapes Go.WideShapes Go.ChangeAt Go.RowKit
attribute [local irreducible] wpQuiet Calls
set_option maxRecDepth 4000

/-- The digit that a character is. -/
theorem digit_cases (k : Nat) (hk : k < 16) (c : UInt8) (h : c = gb digits k) : (((c.toNat : Int) < 97 ∧ (c.toNat : Int) - 48 = k) ∨ (97 ≤ (c.toNat : Int) ∧ (c.toNat : Int) - 97 + 10 = k)) := by
  have := digit_val k hk
  rw [← h] at this
  split at this <;> omega

set_option maxHeartbeats 2000000 in
theorem ShaTexts_walk (l : List UInt8) (hl : l.length = 32) (w : World) :
    Calls Try.prog 12 #[agg l] w fun e w' => e = .returned (.bool true) ∧ Below w.heap.size w w' := by
  have hF := Fr.start w
  have htl : (texts l).length = 64 := by rw [texts_length, hl]
  have Hl := Lib.hid hl
  clear hl
  go_enter Try.func12, Try.ntmps12
  go_wp2_with (first | ((with_reducible apply wpl_box (x := Operand.tmp 0) hF); exact rfl; clear hF; intro bi _ hF) | (go_at_call 29; refine (known1 _).mono ?_; rintro _ _ ⟨rfl, hb⟩; replace hF := hF.call hb; clear hb) | ((with_reducible apply wpl_load hF (T := 29) (hu := Try.underlying29)); exact rfl; (first | exact ⟨0, rfl⟩ | exact ⟨1, rfl⟩ | exact ⟨2, rfl⟩ | exact ⟨3, rfl⟩ | exact ⟨4, rfl⟩ | exact ⟨5, rfl⟩ | exact ⟨6, rfl⟩); exact info_idl Hl.out) | (go_at_call 33; refine (shaText _ Hl.out _).mono ?_; rintro _ _ ⟨rfl, hb⟩; replace hF := hF.call hb; clear hb) | ((with_reducible apply wpl_lenSt (hT := Try.underlying9)); exact rfl))
  go_loopw [4] (fun t wr => ∃ (i : Nat), i ≤ 64 ∧ t = .int .i64 i ∧ Fr w wr [⟨bi, bs l, 29⟩]) (fun t _ => (64 - intOf t).toNat)
  case atStart => exact ⟨0, by omega, rfl, hF⟩
  case round =>
    clear hF
    obtain ⟨i, hi, rfl, hF⟩ := hrel
    by_cases hlt : i < 64
    · have d1 : (0 : Int) ≤ (i : Int) := by omega
      have d2 : (i : Int) < 64 := by omega
      have hx := (gb l (i / 2)).toNat_lt
      have hcl := (gb (texts l) i).toNat_lt
      have ht := gb_texts l (i / 2) (by rw [Hl.out]; omega)
      have par : i = 2 * (i / 2) ∧ i % 2 = 0 ∨ i = 2 * (i / 2) + 1 ∧ i % 2 = 1 := by omega
      rcases par with ⟨hp, hr⟩ | ⟨hp, hr⟩
      · have hc := digit_cases ((gb l (i / 2)).toNat / 16) (by omega) (gb (texts l) i) (by rw [← ht.1, ← hp])
        have r1 : (((i : Int) % 2) == 1) = false := by rw [beq_eq_false_iff_ne]; omega
        have r2 : decide ((i : Int) % 2 = 1) = false := by rw [decide_eq_false_iff_not]; omega
        clear ht hp hr
        obtain ⟨c, hcc⟩ : ∃ c, c = gb (texts l) i := ⟨_, rfl⟩
        obtain ⟨k, hk⟩ : ∃ k, k = (gb l (i / 2)).toNat / 16 := ⟨_, rfl⟩
        rw [← hk, ← hcc] at hc
        rw [← hcc] at hcl
        have kb : k < 16 := by omega
        have Hcc := Lib.hid hcc.symm
        have Hk := Lib.hid hk.symm
        clear hcc hk
        rcases hc with ⟨h97, hv⟩ | ⟨h97, hv⟩
        · have n1 : ((c.toNat : Int) - 48 != (k : Int)) = false := by rw [bne_eq_false_iff_eq]; exact hv
          have n2 : ((c.toNat : Int) - 48 == (k : Int)) = true := by rw [beq_iff_eq]; exact hv
          have n3 : decide ((c.toNat : Int) - 48 = (k : Int)) = true := by rw [decide_eq_true_iff]; exact hv
          have h97' : ¬ (97 : Int) ≤ (c.toNat : Int) := by omega
          clear hv h97
          go_wp2_with (first | (((with_reducible apply wpl_indexSt (l := texts l) (hT := Try.underlying9)); exact rfl; exact rfl; (focus omega); (focus omega)); rw [Int.toNat_natCast, Hcc.out]) | (((with_reducible apply wpl_loadV hF (T := 5) (hu := Try.underlying5)); exact rfl; (first | exact ⟨0, rfl⟩ | exact ⟨1, rfl⟩ | exact ⟨2, rfl⟩ | exact ⟨3, rfl⟩ | exact ⟨4, rfl⟩ | exact ⟨5, rfl⟩ | exact ⟨6, rfl⟩); exact bs_getB (by rw [Hl.out]; omega))) | (((with_reducible apply wpl_shr4); exact rfl; exact rfl); try rw [Hk.out]) | (((with_reducible apply wpl_and15); exact rfl; exact rfl); try rw [Hk.out])); go_roundw; (case rel => exact ⟨i + 1, by omega, by go_num, hF⟩); (case measure => simp [intOf]; omega)
        · have n1 : ((c.toNat : Int) - 97 + 10 != (k : Int)) = false := by rw [bne_eq_false_iff_eq]; exact hv
          have n2 : ((c.toNat : Int) - 97 + 10 == (k : Int)) = true := by rw [beq_iff_eq]; exact hv
          have n3 : decide ((c.toNat : Int) - 97 + 10 = (k : Int)) = true := by rw [decide_eq_true_iff]; exact hv
          clear hv
          go_wp2_with (first | (((with_reducible apply wpl_indexSt (l := texts l) (hT := Try.underlying9)); exact rfl; exact rfl; (focus omega); (focus omega)); rw [Int.toNat_natCast, Hcc.out]) | (((with_reducible apply wpl_loadV hF (T := 5) (hu := Try.underlying5)); exact rfl; (first | exact ⟨0, rfl⟩ | exact ⟨1, rfl⟩ | exact ⟨2, rfl⟩ | exact ⟨3, rfl⟩ | exact ⟨4, rfl⟩ | exact ⟨5, rfl⟩ | exact ⟨6, rfl⟩); exact bs_getB (by rw [Hl.out]; omega))) | (((with_reducible apply wpl_shr4); exact rfl; exact rfl); try rw [Hk.out]) | (((with_reducible apply wpl_and15); exact rfl; exact rfl); try rw [Hk.out])); go_roundw; (case rel => exact ⟨i + 1, by omega, by go_num, hF⟩); (case measure => simp [intOf]; omega)
      · have hc := digit_cases ((gb l (i / 2)).toNat % 16) (by omega) (gb (texts l) i) (by rw [← ht.2, ← hp])
        have r1 : (((i : Int) % 2) == 1) = true := by rw [beq_iff_eq]; omega
        have r2 : decide ((i : Int) % 2 = 1) = true := by rw [decide_eq_true_iff]; omega
        clear ht hp hr
        obtain ⟨c, hcc⟩ : ∃ c, c = gb (texts l) i := ⟨_, rfl⟩
        obtain ⟨k, hk⟩ : ∃ k, k = (gb l (i / 2)).toNat % 16 := ⟨_, rfl⟩
        rw [← hk, ← hcc] at hc
        rw [← hcc] at hcl
        have kb : k < 16 := by omega
        have k0 : (gb l (i / 2)).toNat / 16 < 16 := by omega
        have Hcc := Lib.hid hcc.symm
        have Hk := Lib.hid hk.symm
        clear hcc hk
        rcases hc with ⟨h97, hv⟩ | ⟨h97, hv⟩
        · have n1 : ((c.toNat : Int) - 48 != (k : Int)) = false := by rw [bne_eq_false_iff_eq]; exact hv
          have n2 : ((c.toNat : Int) - 48 == (k : Int)) = true := by rw [beq_iff_eq]; exact hv
          have n3 : decide ((c.toNat : Int) - 48 = (k : Int)) = true := by rw [decide_eq_true_iff]; exact hv
          have h97' : ¬ (97 : Int) ≤ (c.toNat : Int) := by omega
          clear hv h97
          go_wp2_with (first | (((with_reducible apply wpl_indexSt (l := texts l) (hT := Try.underlying9)); exact rfl; exact rfl; (focus omega); (focus omega)); rw [Int.toNat_natCast, Hcc.out]) | (((with_reducible apply wpl_loadV hF (T := 5) (hu := Try.underlying5)); exact rfl; (first | exact ⟨0, rfl⟩ | exact ⟨1, rfl⟩ | exact ⟨2, rfl⟩ | exact ⟨3, rfl⟩ | exact ⟨4, rfl⟩ | exact ⟨5, rfl⟩ | exact ⟨6, rfl⟩); exact bs_getB (by rw [Hl.out]; omega))) | (((with_reducible apply wpl_shr4); exact rfl; exact rfl); try rw [Hk.out]) | (((with_reducible apply wpl_and15); exact rfl; exact rfl); try rw [Hk.out])); go_roundw; (case rel => exact ⟨i + 1, by omega, by go_num, hF⟩); (case measure => simp [intOf]; omega)
        · have n1 : ((c.toNat : Int) - 97 + 10 != (k : Int)) = false := by rw [bne_eq_false_iff_eq]; exact hv
          have n2 : ((c.toNat : Int) - 97 + 10 == (k : Int)) = true := by rw [beq_iff_eq]; exact hv
          have n3 : decide ((c.toNat : Int) - 97 + 10 = (k : Int)) = true := by rw [decide_eq_true_iff]; exact hv
          clear hv
          go_wp2_with (first | (((with_reducible apply wpl_indexSt (l := texts l) (hT := Try.underlying9)); exact rfl; exact rfl; (focus omega); (focus omega)); rw [Int.toNat_natCast, Hcc.out]) | (((with_reducible apply wpl_loadV hF (T := 5) (hu := Try.underlying5)); exact rfl; (first | exact ⟨0, rfl⟩ | exact ⟨1, rfl⟩ | exact ⟨2, rfl⟩ | exact ⟨3, rfl⟩ | exact ⟨4, rfl⟩ | exact ⟨5, rfl⟩ | exact ⟨6, rfl⟩); exact bs_getB (by rw [Hl.out]; omega))) | (((with_reducible apply wpl_shr4); exact rfl; exact rfl); try rw [Hk.out]) | (((with_reducible apply wpl_and15); exact rfl; exact rfl); try rw [Hk.out])); go_roundw; (case rel => exact ⟨i + 1, by omega, by go_num, hF⟩); (case measure => simp [intOf]; omega)
    · obtain rfl : i = 64 := by omega
      clear hlt
      go_wp2_with (first | fail)
      go_ret
      exact ⟨rfl, hF.below⟩

set_option maxRecDepth 100000 in
theorem ShaTexts_lifted (os : Os) (started : os.Started) (H : Type) (enc : TypeId × Value → H) :
    ReturnsInHanded {} Try.checked os 12 .any (Rows.shaTextsSpec.pre6 enc Try.prog Try.f12 Rows.shaTextsRow.domain false) (Rows.shaTextsSpec.post enc Try.prog Try.f12 false true false false) := by
  refine returnsInHanded_of_change (C := Try.checked) own started (by kernel_rfl) Try.func12
    (ChangeSpec.witness6 (enc := enc) (C := Try.checked) false ⟨#[], #[.agg (Array.replicate 32 (.int .u8 0))], []⟩ 8 (by kernel_rfl) (by kernel_rfl) (by kernel_rfl) (by kernel_rfl)) ?_
  intro W base args ds gs before hval0 hW hcnd _
  have hval : ∀ (j : Nat) t v, Try.f12.params[j]? = some t → args[j]? = some v → Value.okWide Try.prog W .any base t v := hval0
  have hW' := hW
  obtain ⟨p, q, hA0, hV, rfl, hfz, hnd⟩ := hW
  have hA : DataW.TrodAll enc Try.prog W 0 (fun _ => true) true Try.f12.params.toList args.toList ds p := hA0
  rw [Try.params12] at hA hval
  obtain ⟨v0, vs0, d0, ds0, p0, q0, hargs, rfl, rfl, h0, r0⟩ := trodAll_cons hA
  obtain ⟨rfl, rfl, rfl⟩ := trodAll_nil r0
  obtain rfl : args = #[v0] := by cases args; simp_all
  obtain ⟨rfl, rfl⟩ := trodVars_none hV
  have k0 := h0
  have lt0 : ∀ x ∈ p0, x.block < W.heap.size := by obtain ⟨m, hm⟩ := k0; exact DataW.trod_lt m _ _ _ hm
  obtain ⟨l0, n0, rfl⟩ := okWide_bytes Try.underlying29 Try.underlying5 (by kernel_rfl) (by kernel_rfl) (hval 0 29 v0 rfl rfl)
  clear hA0 hval0 hcnd
  refine (ShaTexts_walk l0 n0 W).mono fun e W' ⟨he, bel⟩ => ?_
  subst he
  exact ⟨_, rfl, _, _, _, [], _, [], hW', trodAll_mk1 (shut_bool Try.underlying4 _), (trodAll_cons_mk (Below.trod laidOut (by kernel_rfl) (of_decide_eq_true (by kernel_rfl)) k0 bel lt0) trodAll_mk0), rfl, bel.frame _, fun h => by cases h⟩

theorem ShaTexts_over : Rows.shaTextsRow.holds Try.pinned (OpenSpec.ofChange Rows.shaTextsSpec) :=
  OpenClaim.holds_of_wide 12 Try.f12 rfl rfl rfl rfl rfl rfl rfl ⟨rfl, rfl, rfl, rfl, rfl⟩ rfl rfl rfl rfl rfl (by kernel_rfl) Try.func12 (by kernel_rfl)
    (of_decide_eq_true (by kernel_rfl)) (by unfold Func.isWrapper; first | (rw [if_pos (by decide +kernel)]; kernel_rfl) | (rw [if_neg (by decide +kernel)]; exact ⟨rfl, rfl⟩))
    (fun os started H enc _ => ShaTexts_lifted os started H enc)

theorem ShaTexts_holds : Rows.ShaTextsSaid := ShaTexts_over
#print axioms ShaTexts_holds
end Go.Proofs.Ytnocldlfmkmiaaa
