/-
  LmsForms: for any name, seed and byte other than nought: a public key, a signature of another height, type or length, is none; the key is asked first. No conditions.
-/
import Derived.Test.YtbnjgldilckhpaaLmsCheck
import Derived.Test.YtbnjgldilckhpaaLmsForm
namespace Go.Proofs.Ytbnjgldilckhpaa
set_option linter.unusedSimpArgs false
set_option linter.unusedVariables false
open Go.ChangeShapes Go.WideShapes Go.ChangeAt Go.RowKit
attribute [local irreducible] wpQuiet Calls wpLine wpSeq
set_option maxRecDepth 4000

section
variable (t : TypeId) (x : UInt8) (n : Int)
@[go_sem high] theorem binOp_rem_100 : binOp .rem t (B x) (.int .u8 100) = pure (B (x % 100)) := by
  have e : ((x % 100).toNat : Int) = (x.toNat : Int).tmod 100 := by
    rw [UInt8.toNat_mod, Int.tmod_eq_emod_of_nonneg (by omega)]
    rfl
  unfold B
  rw [e]
  rfl
@[go_sem high] theorem binOp_add_1B : binOp .add t (.int .u8 1) (B x) = pure (B (1 + x)) := binOp_add_B t 1 x
@[go_sem high] theorem binOp_xor_2B : binOp .xor t (.int .u8 2) (B x) = pure (B (2 ^^^ x)) := binOp_xor_B t 2 x
@[go_sem high] theorem binOp_leq_Bn : binOp .leq t (B x) (.int .u8 n) = pure (.bool (decide ((x.toNat : Int) ≤ n))) := by
  simp [B, binOp, Op.intCmp]
end

set_option maxHeartbeats 8000000 in
theorem LmsForms_walk (nm seed : List UInt8) (which : Int) (by_ : UInt8) (hnm : nm.length = 16) (hs : seed.length = 32) (h0 : -9223372036854775808 ≤ which) (h1 : which ≤ 9223372036854775807) (w : World) :
    Calls Try.prog 13 #[agg nm, agg seed, .int .i64 which, B by_] w fun e w' => e = .returned (.bool true) ∧ Below w.heap.size w w' := by
  have hF := Fr.start w
  have Hnm := Lib.hid hnm
  have Hs := Lib.hid hs
  have Hh := Lib.hid (And.intro h0 h1)
  clear hnm hs h0 h1
  by_cases hz : by_ = 0
  · subst hz
    go_enter Try.func13, Try.ntmps13
    go_wp2_with (first | ((with_reducible apply wpl_box (x := Operand.tmp 0) hF); exact rfl; clear hF; intro bn _ hF) | ((with_reducible apply wpl_box (x := Operand.tmp 1) hF); exact rfl; clear hF; intro bd _ hF) | (go_at_call 19; refine (known6 _).mono ?_; rintro _ _ ⟨rfl, hb⟩; replace hF := hF.call hb; clear hb))
    go_ret
    exact ⟨rfl, hF.below⟩
  have hnz : ¬ ((by_.toNat : Int) = 0) := fun e => hz (UInt8.toNat_inj.1 (Int.ofNat.inj e))
  have Hz := Lib.hid hz
  obtain ⟨y, hy⟩ : ∃ y, lpub nm seed 1 = y := ⟨_, rfl⟩
  have Hy := Lib.hid hy
  have Hyl := Lib.hid (show y.length = 56 by rw [← hy]; exact lpub_length Hnm.out 1)
  obtain ⟨sg, hsg⟩ : ∃ s, lsig nm seed 1 0 [] = s := ⟨_, rfl⟩
  have Hsg := Lib.hid hsg
  have Hsl := Lib.hid (show sg.length = 4332 by rw [← hsg]; exact lsig_length (by decide))
  clear hy hsg hz
  obtain ⟨r, hr⟩ : ∃ r : Nat, which % 6 = (r : Int) := ⟨(which % 6).toNat, by omega⟩
  have hr6 : r < 6 := by omega
  have Hr := Lib.hid hr
  clear hr
  rcases r with _ | _ | _ | _ | _ | _ | r
  · -- the height's last byte is another one
    obtain ⟨v, hv⟩ : ∃ v : UInt8, 1 + by_ % 100 = v := ⟨_, rfl⟩
    have hv1 : 1 ≤ v.toNat := by
      rw [← hv, UInt8.toNat_add, UInt8.toNat_mod]
      show 1 ≤ (1 + by_.toNat % 100) % 2 ^ 8
      omega
    have Hv := Lib.hid hv
    clear hv
    obtain ⟨g, hg⟩ : ∃ g, gb y 3 = g := ⟨_, rfl⟩
    have Hg := Lib.hid (show ∀ t : List Value, (bs y ++ t)[3]? = some (B g) by
      intro t
      rw [List.getElem?_append_left (by rw [bs_length, Hyl.out]; omega), bs_get (by rw [Hyl.out]; omega), hg])
    obtain ⟨y2, hn2⟩ : ∃ x, x = y.set 3 (v) := ⟨_, rfl⟩
    have Hl2 := Lib.hid (show y2.length = 56 by rw [hn2, List.length_set]; exact Hyl.out)
    have Hset := Lib.hid (show ∀ t : List Value, (bs y ++ t).set 3 (B (v)) = bs y2 ++ t by
      intro t
      rw [List.set_append_left _ _ (by rw [bs_length, Hyl.out]; omega), bs_set, hn2])
    have Hg2 := Lib.hid (show ∀ t : List Value, (bs y2 ++ t)[3]? = some (B v) by
      intro t
      rw [List.getElem?_append_left (by rw [bs_length, Hl2.out]; omega), bs_get (by rw [Hl2.out]; omega), hn2, gb_set_same (by rw [Hyl.out]; omega)])
    have Hck := Lib.hid (show lcheck y2 [] sg = if v.toNat = 1 then 0 else if v.toNat ≤ 5 then 12 else 11 by rw [hn2, ← Hy.out, ← Hsg.out]; exact form_height Hnm.out hv1)
    clear hg hn2
    have v1 : (v.toNat : Int) ≥ 1 := by omega
    rcases (show v.toNat = 1 ∨ (¬ v.toNat = 1 ∧ v.toNat ≤ 5) ∨ (¬ v.toNat = 1 ∧ ¬ v.toNat ≤ 5) by omega) with e1 | ⟨e1, e5⟩ | ⟨e1, e5⟩
    · have v2 : (v.toNat : Int) = 1 := by omega
      have v5 : (v.toNat : Int) ≤ 5 := by omega
      have Hc := Lib.hid (Hck.out.trans (if_pos e1))
      clear e1
      go_enter Try.func13, Try.ntmps13
      go_wp2_with (first | ((with_reducible apply wpl_box (x := Operand.tmp 0) hF); exact rfl; clear hF; intro bn _ hF) | ((with_reducible apply wpl_box (x := Operand.tmp 1) hF); exact rfl; clear hF; intro bd _ hF) | (go_at_call 19; refine (known6 _).mono ?_; rintro _ _ ⟨rfl, hb⟩; replace hF := hF.call hb; clear hb) | (go_at_call 25; refine (within6 _ _ (by omega) (by omega) Hh.out.1 Hh.out.2 _).mono ?_; rintro _ _ ⟨rfl, hww⟩; rw [Hr.out]; subst hww) | go_skip | ((with_reducible refine wpl_unguard ?_ ?_); (focus (go_simp; done))) | ((with_reducible apply wpl_load hF (T := 22) (hu := Try.underlying22)); exact rfl; (first | exact ⟨0, rfl⟩ | exact ⟨1, rfl⟩ | exact ⟨2, rfl⟩ | exact ⟨3, rfl⟩ | exact ⟨4, rfl⟩ | exact ⟨5, rfl⟩ | exact ⟨6, rfl⟩ | exact ⟨7, rfl⟩ | exact ⟨8, rfl⟩ | exact ⟨9, rfl⟩ | exact ⟨10, rfl⟩ | exact ⟨11, rfl⟩); exact info_nm Hnm.out) | ((with_reducible apply wpl_load hF (T := 24) (hu := Try.underlying24)); exact rfl; (first | exact ⟨0, rfl⟩ | exact ⟨1, rfl⟩ | exact ⟨2, rfl⟩ | exact ⟨3, rfl⟩ | exact ⟨4, rfl⟩ | exact ⟨5, rfl⟩ | exact ⟨6, rfl⟩ | exact ⟨7, rfl⟩ | exact ⟨8, rfl⟩ | exact ⟨9, rfl⟩ | exact ⟨10, rfl⟩ | exact ⟨11, rfl⟩); exact info_idl Hs.out) | (go_at_call 20; (refine (pubL nm Hnm.out seed Hs.out 1 (by omega) (by omega) _).mono ?_; rintro _ _ ⟨b5, c5, t5, rfl, hc5, hm⟩; rw [Hy.out] at hm; replace hF := hF.took hm; clear hm; have H5 := Lib.hid hc5; clear hc5)) | (go_at_call 28; (refine (signL6 nm Hnm.out seed Hs.out 1 2 rfl (by omega) (by omega) 0 (by omega) [] none 0 0 rfl (by omega) (Sl.nil _ _)).mono ?_; rintro _ _ ⟨b1, c1, t1, rfl, hc1, hm⟩; rw [Hsg.out] at hm; replace hF := hF.took hm; clear hm; have H1 := Lib.hid hc1; clear hc1)) | ((with_reducible apply wpl_idxS (T := 28) (hu := Try.underlying28) (he := info_u8_)); exact rfl; exact rfl; (focus omega); (focus omega); rw [show 0 + (3 : Int).toNat = 3 from rfl]) | ((with_reducible apply wpl_storeV hF 2 (T := 5) (u := B v)); exact rfl; (focus (rw [← Hv.out]; exact rfl)); exact rfl; exact info_u8_; exact Hg.out _; exact rfl; clear hF; intro _ hF; rw [Hset.out] at hF) | ((with_reducible apply wpl_loadV hF (T := 5) (hu := Try.underlying5)); exact rfl; (first | exact ⟨0, rfl⟩ | exact ⟨1, rfl⟩ | exact ⟨2, rfl⟩ | exact ⟨3, rfl⟩ | exact ⟨4, rfl⟩ | exact ⟨5, rfl⟩ | exact ⟨6, rfl⟩ | exact ⟨7, rfl⟩ | exact ⟨8, rfl⟩ | exact ⟨9, rfl⟩ | exact ⟨10, rfl⟩ | exact ⟨11, rfl⟩); exact Hg2.out _) | (go_at_call 26; (refine (checkL y2 _ _ _ Hl2.out (by have := H5.out; omega) [] none 0 0 rfl (by omega) sg _ _ _ Hsl.out (by have := H1.out; omega) (Sl.pre hF ⟨2, rfl⟩) (Sl.nil _ _) (Sl.pre hF ⟨3, rfl⟩)).mono ?_; rintro _ _ ⟨rfl, hb⟩; replace hF := hF.call hb; clear hb; rw [Hc.out])))
      go_ret
      exact ⟨rfl, hF.below⟩
    · have v2 : ¬ (v.toNat : Int) = 1 := by omega
      have v5 : (v.toNat : Int) ≤ 5 := by omega
      have Hc := Lib.hid (Hck.out.trans ((if_neg e1).trans (if_pos e5)))
      clear e1 e5
      go_enter Try.func13, Try.ntmps13
      go_wp2_with (first | ((with_reducible apply wpl_box (x := Operand.tmp 0) hF); exact rfl; clear hF; intro bn _ hF) | ((with_reducible apply wpl_box (x := Operand.tmp 1) hF); exact rfl; clear hF; intro bd _ hF) | (go_at_call 19; refine (known6 _).mono ?_; rintro _ _ ⟨rfl, hb⟩; replace hF := hF.call hb; clear hb) | (go_at_call 25; refine (within6 _ _ (by omega) (by omega) Hh.out.1 Hh.out.2 _).mono ?_; rintro _ _ ⟨rfl, hww⟩; rw [Hr.out]; subst hww) | go_skip | ((with_reducible refine wpl_unguard ?_ ?_); (focus (go_simp; done))) | ((with_reducible apply wpl_load hF (T := 22) (hu := Try.underlying22)); exact rfl; (first | exact ⟨0, rfl⟩ | exact ⟨1, rfl⟩ | exact ⟨2, rfl⟩ | exact ⟨3, rfl⟩ | exact ⟨4, rfl⟩ | exact ⟨5, rfl⟩ | exact ⟨6, rfl⟩ | exact ⟨7, rfl⟩ | exact ⟨8, rfl⟩ | exact ⟨9, rfl⟩ | exact ⟨10, rfl⟩ | exact ⟨11, rfl⟩); exact info_nm Hnm.out) | ((with_reducible apply wpl_load hF (T := 24) (hu := Try.underlying24)); exact rfl; (first | exact ⟨0, rfl⟩ | exact ⟨1, rfl⟩ | exact ⟨2, rfl⟩ | exact ⟨3, rfl⟩ | exact ⟨4, rfl⟩ | exact ⟨5, rfl⟩ | exact ⟨6, rfl⟩ | exact ⟨7, rfl⟩ | exact ⟨8, rfl⟩ | exact ⟨9, rfl⟩ | exact ⟨10, rfl⟩ | exact ⟨11, rfl⟩); exact info_idl Hs.out) | (go_at_call 20; (refine (pubL nm Hnm.out seed Hs.out 1 (by omega) (by omega) _).mono ?_; rintro _ _ ⟨b5, c5, t5, rfl, hc5, hm⟩; rw [Hy.out] at hm; replace hF := hF.took hm; clear hm; have H5 := Lib.hid hc5; clear hc5)) | (go_at_call 28; (refine (signL6 nm Hnm.out seed Hs.out 1 2 rfl (by omega) (by omega) 0 (by omega) [] none 0 0 rfl (by omega) (Sl.nil _ _)).mono ?_; rintro _ _ ⟨b1, c1, t1, rfl, hc1, hm⟩; rw [Hsg.out] at hm; replace hF := hF.took hm; clear hm; have H1 := Lib.hid hc1; clear hc1)) | ((with_reducible apply wpl_idxS (T := 28) (hu := Try.underlying28) (he := info_u8_)); exact rfl; exact rfl; (focus omega); (focus omega); rw [show 0 + (3 : Int).toNat = 3 from rfl]) | ((with_reducible apply wpl_storeV hF 2 (T := 5) (u := B v)); exact rfl; (focus (rw [← Hv.out]; exact rfl)); exact rfl; exact info_u8_; exact Hg.out _; exact rfl; clear hF; intro _ hF; rw [Hset.out] at hF) | ((with_reducible apply wpl_loadV hF (T := 5) (hu := Try.underlying5)); exact rfl; (first | exact ⟨0, rfl⟩ | exact ⟨1, rfl⟩ | exact ⟨2, rfl⟩ | exact ⟨3, rfl⟩ | exact ⟨4, rfl⟩ | exact ⟨5, rfl⟩ | exact ⟨6, rfl⟩ | exact ⟨7, rfl⟩ | exact ⟨8, rfl⟩ | exact ⟨9, rfl⟩ | exact ⟨10, rfl⟩ | exact ⟨11, rfl⟩); exact Hg2.out _) | (go_at_call 26; (refine (checkL y2 _ _ _ Hl2.out (by have := H5.out; omega) [] none 0 0 rfl (by omega) sg _ _ _ Hsl.out (by have := H1.out; omega) (Sl.pre hF ⟨2, rfl⟩) (Sl.nil _ _) (Sl.pre hF ⟨3, rfl⟩)).mono ?_; rintro _ _ ⟨rfl, hb⟩; replace hF := hF.call hb; clear hb; rw [Hc.out])))
      go_ret
      exact ⟨rfl, hF.below⟩
    · have v2 : ¬ (v.toNat : Int) = 1 := by omega
      have v5 : ¬ (v.toNat : Int) ≤ 5 := by omega
      have Hc := Lib.hid (Hck.out.trans ((if_neg e1).trans (if_neg e5)))
      clear e1 e5
      go_enter Try.func13, Try.ntmps13
      go_wp2_with (first | ((with_reducible apply wpl_box (x := Operand.tmp 0) hF); exact rfl; clear hF; intro bn _ hF) | ((with_reducible apply wpl_box (x := Operand.tmp 1) hF); exact rfl; clear hF; intro bd _ hF) | (go_at_call 19; refine (known6 _).mono ?_; rintro _ _ ⟨rfl, hb⟩; replace hF := hF.call hb; clear hb) | (go_at_call 25; refine (within6 _ _ (by omega) (by omega) Hh.out.1 Hh.out.2 _).mono ?_; rintro _ _ ⟨rfl, hww⟩; rw [Hr.out]; subst hww) | go_skip | ((with_reducible refine wpl_unguard ?_ ?_); (focus (go_simp; done))) | ((with_reducible apply wpl_load hF (T := 22) (hu := Try.underlying22)); exact rfl; (first | exact ⟨0, rfl⟩ | exact ⟨1, rfl⟩ | exact ⟨2, rfl⟩ | exact ⟨3, rfl⟩ | exact ⟨4, rfl⟩ | exact ⟨5, rfl⟩ | exact ⟨6, rfl⟩ | exact ⟨7, rfl⟩ | exact ⟨8, rfl⟩ | exact ⟨9, rfl⟩ | exact ⟨10, rfl⟩ | exact ⟨11, rfl⟩); exact info_nm Hnm.out) | ((with_reducible apply wpl_load hF (T := 24) (hu := Try.underlying24)); exact rfl; (first | exact ⟨0, rfl⟩ | exact ⟨1, rfl⟩ | exact ⟨2, rfl⟩ | exact ⟨3, rfl⟩ | exact ⟨4, rfl⟩ | exact ⟨5, rfl⟩ | exact ⟨6, rfl⟩ | exact ⟨7, rfl⟩ | exact ⟨8, rfl⟩ | exact ⟨9, rfl⟩ | exact ⟨10, rfl⟩ | exact ⟨11, rfl⟩); exact info_idl Hs.out) | (go_at_call 20; (refine (pubL nm Hnm.out seed Hs.out 1 (by omega) (by omega) _).mono ?_; rintro _ _ ⟨b5, c5, t5, rfl, hc5, hm⟩; rw [Hy.out] at hm; replace hF := hF.took hm; clear hm; have H5 := Lib.hid hc5; clear hc5)) | (go_at_call 28; (refine (signL6 nm Hnm.out seed Hs.out 1 2 rfl (by omega) (by omega) 0 (by omega) [] none 0 0 rfl (by omega) (Sl.nil _ _)).mono ?_; rintro _ _ ⟨b1, c1, t1, rfl, hc1, hm⟩; rw [Hsg.out] at hm; replace hF := hF.took hm; clear hm; have H1 := Lib.hid hc1; clear hc1)) | ((with_reducible apply wpl_idxS (T := 28) (hu := Try.underlying28) (he := info_u8_)); exact rfl; exact rfl; (focus omega); (focus omega); rw [show 0 + (3 : Int).toNat = 3 from rfl]) | ((with_reducible apply wpl_storeV hF 2 (T := 5) (u := B v)); exact rfl; (focus (rw [← Hv.out]; exact rfl)); exact rfl; exact info_u8_; exact Hg.out _; exact rfl; clear hF; intro _ hF; rw [Hset.out] at hF) | ((with_reducible apply wpl_loadV hF (T := 5) (hu := Try.underlying5)); exact rfl; (first | exact ⟨0, rfl⟩ | exact ⟨1, rfl⟩ | exact ⟨2, rfl⟩ | exact ⟨3, rfl⟩ | exact ⟨4, rfl⟩ | exact ⟨5, rfl⟩ | exact ⟨6, rfl⟩ | exact ⟨7, rfl⟩ | exact ⟨8, rfl⟩ | exact ⟨9, rfl⟩ | exact ⟨10, rfl⟩ | exact ⟨11, rfl⟩); exact Hg2.out _) | (go_at_call 26; (refine (checkL y2 _ _ _ Hl2.out (by have := H5.out; omega) [] none 0 0 rfl (by omega) sg _ _ _ Hsl.out (by have := H1.out; omega) (Sl.pre hF ⟨2, rfl⟩) (Sl.nil _ _) (Sl.pre hF ⟨3, rfl⟩)).mono ?_; rintro _ _ ⟨rfl, hb⟩; replace hF := hF.call hb; clear hb; rw [Hc.out])))
      go_ret
      exact ⟨rfl, hF.below⟩
  · -- another type
    obtain ⟨g, hg⟩ : ∃ g, gb y 7 = g := ⟨_, rfl⟩
    have Hg := Lib.hid (show ∀ t : List Value, (bs y ++ t)[7]? = some (B g) by
      intro t
      rw [List.getElem?_append_left (by rw [bs_length, Hyl.out]; omega), bs_get (by rw [Hyl.out]; omega), hg])
    obtain ⟨y2, hn2⟩ : ∃ x, x = y.set 7 (2 ^^^ by_) := ⟨_, rfl⟩
    have Hl2 := Lib.hid (show y2.length = 56 by rw [hn2, List.length_set]; exact Hyl.out)
    have Hset := Lib.hid (show ∀ t : List Value, (bs y ++ t).set 7 (B (2 ^^^ by_)) = bs y2 ++ t by
      intro t
      rw [List.set_append_left _ _ (by rw [bs_length, Hyl.out]; omega), bs_set, hn2])
    have Hc := Lib.hid (show lcheck y2 [] sg = 11 by rw [hn2, ← Hy.out]; exact form_type Hnm.out Hz.out)
    clear hg hn2
    go_enter Try.func13, Try.ntmps13
    go_wp2_with (first | ((with_reducible apply wpl_box (x := Operand.tmp 0) hF); exact rfl; clear hF; intro bn _ hF) | ((with_reducible apply wpl_box (x := Operand.tmp 1) hF); exact rfl; clear hF; intro bd _ hF) | (go_at_call 19; refine (known6 _).mono ?_; rintro _ _ ⟨rfl, hb⟩; replace hF := hF.call hb; clear hb) | (go_at_call 25; refine (within6 _ _ (by omega) (by omega) Hh.out.1 Hh.out.2 _).mono ?_; rintro _ _ ⟨rfl, hww⟩; rw [Hr.out]; subst hww) | go_skip | ((with_reducible refine wpl_unguard ?_ ?_); (focus (go_simp; done))) | ((with_reducible apply wpl_load hF (T := 22) (hu := Try.underlying22)); exact rfl; (first | exact ⟨0, rfl⟩ | exact ⟨1, rfl⟩ | exact ⟨2, rfl⟩ | exact ⟨3, rfl⟩ | exact ⟨4, rfl⟩ | exact ⟨5, rfl⟩ | exact ⟨6, rfl⟩ | exact ⟨7, rfl⟩ | exact ⟨8, rfl⟩ | exact ⟨9, rfl⟩ | exact ⟨10, rfl⟩ | exact ⟨11, rfl⟩); exact info_nm Hnm.out) | ((with_reducible apply wpl_load hF (T := 24) (hu := Try.underlying24)); exact rfl; (first | exact ⟨0, rfl⟩ | exact ⟨1, rfl⟩ | exact ⟨2, rfl⟩ | exact ⟨3, rfl⟩ | exact ⟨4, rfl⟩ | exact ⟨5, rfl⟩ | exact ⟨6, rfl⟩ | exact ⟨7, rfl⟩ | exact ⟨8, rfl⟩ | exact ⟨9, rfl⟩ | exact ⟨10, rfl⟩ | exact ⟨11, rfl⟩); exact info_idl Hs.out) | (go_at_call 20; (refine (pubL nm Hnm.out seed Hs.out 1 (by omega) (by omega) _).mono ?_; rintro _ _ ⟨b5, c5, t5, rfl, hc5, hm⟩; rw [Hy.out] at hm; replace hF := hF.took hm; clear hm; have H5 := Lib.hid hc5; clear hc5)) | (go_at_call 28; (refine (signL6 nm Hnm.out seed Hs.out 1 2 rfl (by omega) (by omega) 0 (by omega) [] none 0 0 rfl (by omega) (Sl.nil _ _)).mono ?_; rintro _ _ ⟨b1, c1, t1, rfl, hc1, hm⟩; rw [Hsg.out] at hm; replace hF := hF.took hm; clear hm; have H1 := Lib.hid hc1; clear hc1)) | ((with_reducible apply wpl_idxS (T := 28) (hu := Try.underlying28) (he := info_u8_)); exact rfl; exact rfl; (focus omega); (focus omega); rw [show 0 + (7 : Int).toNat = 7 from rfl]) | ((with_reducible apply wpl_storeV hF 2 (T := 5) (u := B (2 ^^^ by_))); exact rfl; exact rfl; exact rfl; exact info_u8_; exact Hg.out _; exact rfl; clear hF; intro _ hF; rw [Hset.out] at hF) | (go_at_call 26; (refine (checkL y2 _ _ _ Hl2.out (by have := H5.out; omega) [] none 0 0 rfl (by omega) sg _ _ _ Hsl.out (by have := H1.out; omega) (Sl.pre hF ⟨2, rfl⟩) (Sl.nil _ _) (Sl.pre hF ⟨3, rfl⟩)).mono ?_; rintro _ _ ⟨rfl, hb⟩; replace hF := hF.call hb; clear hb; rw [Hc.out])))
    go_ret
    exact ⟨rfl, hF.below⟩
  · -- a byte less
    obtain ⟨y2, hn2⟩ : ∃ x, x = y.take 55 := ⟨_, rfl⟩
    have Hl2 := Lib.hid (show y2.length = 55 by rw [hn2, List.length_take, Hyl.out]; rfl)
    have Hsl2 := Lib.hid (show ∀ (w' : World) (p : Option Addr), Sl w' p (bs y) → Sl w' p (bs y2) by
      intro w' p h
      rw [hn2, ← bs_take]
      exact h.take 55)
    have Hc := Lib.hid (show lcheck y2 [] sg = 11 by rw [hn2, ← Hy.out]; exact form_short Hnm.out)
    clear hn2
    go_enter Try.func13, Try.ntmps13
    go_wp2_with (first | ((with_reducible apply wpl_box (x := Operand.tmp 0) hF); exact rfl; clear hF; intro bn _ hF) | ((with_reducible apply wpl_box (x := Operand.tmp 1) hF); exact rfl; clear hF; intro bd _ hF) | (go_at_call 19; refine (known6 _).mono ?_; rintro _ _ ⟨rfl, hb⟩; replace hF := hF.call hb; clear hb) | (go_at_call 25; refine (within6 _ _ (by omega) (by omega) Hh.out.1 Hh.out.2 _).mono ?_; rintro _ _ ⟨rfl, hww⟩; rw [Hr.out]; subst hww) | go_skip | ((with_reducible refine wpl_unguard ?_ ?_); (focus (go_simp; done))) | ((with_reducible apply wpl_load hF (T := 22) (hu := Try.underlying22)); exact rfl; (first | exact ⟨0, rfl⟩ | exact ⟨1, rfl⟩ | exact ⟨2, rfl⟩ | exact ⟨3, rfl⟩ | exact ⟨4, rfl⟩ | exact ⟨5, rfl⟩ | exact ⟨6, rfl⟩ | exact ⟨7, rfl⟩ | exact ⟨8, rfl⟩ | exact ⟨9, rfl⟩ | exact ⟨10, rfl⟩ | exact ⟨11, rfl⟩); exact info_nm Hnm.out) | ((with_reducible apply wpl_load hF (T := 24) (hu := Try.underlying24)); exact rfl; (first | exact ⟨0, rfl⟩ | exact ⟨1, rfl⟩ | exact ⟨2, rfl⟩ | exact ⟨3, rfl⟩ | exact ⟨4, rfl⟩ | exact ⟨5, rfl⟩ | exact ⟨6, rfl⟩ | exact ⟨7, rfl⟩ | exact ⟨8, rfl⟩ | exact ⟨9, rfl⟩ | exact ⟨10, rfl⟩ | exact ⟨11, rfl⟩); exact info_idl Hs.out) | (go_at_call 20; (refine (pubL nm Hnm.out seed Hs.out 1 (by omega) (by omega) _).mono ?_; rintro _ _ ⟨b5, c5, t5, rfl, hc5, hm⟩; rw [Hy.out] at hm; replace hF := hF.took hm; clear hm; have H5 := Lib.hid hc5; clear hc5)) | (go_at_call 28; (refine (signL6 nm Hnm.out seed Hs.out 1 2 rfl (by omega) (by omega) 0 (by omega) [] none 0 0 rfl (by omega) (Sl.nil _ _)).mono ?_; rintro _ _ ⟨b1, c1, t1, rfl, hc1, hm⟩; rw [Hsg.out] at hm; replace hF := hF.took hm; clear hm; have H1 := Lib.hid hc1; clear hc1)) | ((with_reducible apply wpl_cut_hi (hu := Try.underlying28) (he := info_u8_)); exact rfl; exact rfl; (focus omega); (focus (have := H5.out; omega))) | (go_at_call 26; (refine (checkL y2 _ _ _ Hl2.out (by have := H5.out; omega) [] none 0 0 rfl (by omega) sg _ _ _ Hsl.out (by have := H1.out; omega) (Hsl2.out _ _ (Sl.pre hF ⟨2, rfl⟩)) (Sl.nil _ _) (Sl.pre hF ⟨3, rfl⟩)).mono ?_; rintro _ _ ⟨rfl, hb⟩; replace hF := hF.call hb; clear hb; rw [Hc.out])))
    go_ret
    exact ⟨rfl, hF.below⟩
  · -- the signature's height is another one
    obtain ⟨g, hg⟩ : ∃ g, gb sg 4299 = g := ⟨_, rfl⟩
    have Hg := Lib.hid (show ∀ t : List Value, (bs sg ++ t)[4299]? = some (B g) by
      intro t
      rw [List.getElem?_append_left (by rw [bs_length, Hsl.out]; omega), bs_get (by rw [Hsl.out]; omega), hg])
    obtain ⟨s2, hn2⟩ : ∃ x, x = sg.set 4299 (g ^^^ by_) := ⟨_, rfl⟩
    have Hl2 := Lib.hid (show s2.length = 4332 by rw [hn2, List.length_set]; exact Hsl.out)
    have Hset := Lib.hid (show ∀ t : List Value, (bs sg ++ t).set 4299 (B (g ^^^ by_)) = bs s2 ++ t by
      intro t
      rw [List.set_append_left _ _ (by rw [bs_length, Hsl.out]; omega), bs_set, hn2])
    have Hc := Lib.hid (show lcheck y [] s2 = 12 by rw [hn2, ← hg, ← Hy.out, ← Hsg.out]; exact form_sigh Hnm.out Hz.out)
    clear hg hn2
    go_enter Try.func13, Try.ntmps13
    go_wp2_with (first | ((with_reducible apply wpl_box (x := Operand.tmp 0) hF); exact rfl; clear hF; intro bn _ hF) | ((with_reducible apply wpl_box (x := Operand.tmp 1) hF); exact rfl; clear hF; intro bd _ hF) | (go_at_call 19; refine (known6 _).mono ?_; rintro _ _ ⟨rfl, hb⟩; replace hF := hF.call hb; clear hb) | (go_at_call 25; refine (within6 _ _ (by omega) (by omega) Hh.out.1 Hh.out.2 _).mono ?_; rintro _ _ ⟨rfl, hww⟩; rw [Hr.out]; subst hww) | go_skip | ((with_reducible refine wpl_unguard ?_ ?_); (focus (go_simp; done))) | ((with_reducible apply wpl_load hF (T := 22) (hu := Try.underlying22)); exact rfl; (first | exact ⟨0, rfl⟩ | exact ⟨1, rfl⟩ | exact ⟨2, rfl⟩ | exact ⟨3, rfl⟩ | exact ⟨4, rfl⟩ | exact ⟨5, rfl⟩ | exact ⟨6, rfl⟩ | exact ⟨7, rfl⟩ | exact ⟨8, rfl⟩ | exact ⟨9, rfl⟩ | exact ⟨10, rfl⟩ | exact ⟨11, rfl⟩); exact info_nm Hnm.out) | ((with_reducible apply wpl_load hF (T := 24) (hu := Try.underlying24)); exact rfl; (first | exact ⟨0, rfl⟩ | exact ⟨1, rfl⟩ | exact ⟨2, rfl⟩ | exact ⟨3, rfl⟩ | exact ⟨4, rfl⟩ | exact ⟨5, rfl⟩ | exact ⟨6, rfl⟩ | exact ⟨7, rfl⟩ | exact ⟨8, rfl⟩ | exact ⟨9, rfl⟩ | exact ⟨10, rfl⟩ | exact ⟨11, rfl⟩); exact info_idl Hs.out) | (go_at_call 20; (refine (pubL nm Hnm.out seed Hs.out 1 (by omega) (by omega) _).mono ?_; rintro _ _ ⟨b5, c5, t5, rfl, hc5, hm⟩; rw [Hy.out] at hm; replace hF := hF.took hm; clear hm; have H5 := Lib.hid hc5; clear hc5)) | (go_at_call 28; (refine (signL6 nm Hnm.out seed Hs.out 1 2 rfl (by omega) (by omega) 0 (by omega) [] none 0 0 rfl (by omega) (Sl.nil _ _)).mono ?_; rintro _ _ ⟨b1, c1, t1, rfl, hc1, hm⟩; rw [Hsg.out] at hm; replace hF := hF.took hm; clear hm; have H1 := Lib.hid hc1; clear hc1)) | ((with_reducible apply wpl_idxS (T := 28) (hu := Try.underlying28) (he := info_u8_)); exact rfl; exact rfl; (focus omega); (focus omega); rw [show 0 + (4299 : Int).toNat = 4299 from rfl]) | ((with_reducible apply wpl_loadV hF (T := 5) (hu := Try.underlying5)); exact rfl; (first | exact ⟨0, rfl⟩ | exact ⟨1, rfl⟩ | exact ⟨2, rfl⟩ | exact ⟨3, rfl⟩ | exact ⟨4, rfl⟩ | exact ⟨5, rfl⟩ | exact ⟨6, rfl⟩ | exact ⟨7, rfl⟩ | exact ⟨8, rfl⟩ | exact ⟨9, rfl⟩ | exact ⟨10, rfl⟩ | exact ⟨11, rfl⟩); exact Hg.out _) | ((with_reducible apply wpl_storeV hF 3 (T := 5) (u := B (g ^^^ by_))); exact rfl; exact rfl; exact rfl; exact info_u8_; exact Hg.out _; exact rfl; clear hF; intro _ hF; rw [Hset.out] at hF) | (go_at_call 26; (refine (checkL y _ _ _ Hyl.out (by have := H5.out; omega) [] none 0 0 rfl (by omega) s2 _ _ _ Hl2.out (by have := H1.out; omega) (Sl.pre hF ⟨2, rfl⟩) (Sl.nil _ _) (Sl.pre hF ⟨3, rfl⟩)).mono ?_; rintro _ _ ⟨rfl, hb⟩; replace hF := hF.call hb; clear hb; rw [Hc.out])))
    go_ret
    exact ⟨rfl, hF.below⟩
  · -- a byte more
    obtain ⟨s2, hn2⟩ : ∃ x, x = sg ++ [by_] := ⟨_, rfl⟩
    have Hl2 := Lib.hid (show s2.length = 4333 by rw [hn2, List.length_append, Hsl.out]; rfl)
    have Hap := Lib.hid (show bs sg ++ bs [by_] = bs s2 by rw [hn2, bs_append])
    have Hc := Lib.hid (show lcheck y [] s2 = 12 by rw [hn2, ← Hy.out, ← Hsg.out]; exact form_long Hnm.out)
    clear hn2
    go_enter Try.func13, Try.ntmps13
    go_wp2_with (first | ((with_reducible apply wpl_box (x := Operand.tmp 0) hF); exact rfl; clear hF; intro bn _ hF) | ((with_reducible apply wpl_box (x := Operand.tmp 1) hF); exact rfl; clear hF; intro bd _ hF) | (go_at_call 19; refine (known6 _).mono ?_; rintro _ _ ⟨rfl, hb⟩; replace hF := hF.call hb; clear hb) | (go_at_call 25; refine (within6 _ _ (by omega) (by omega) Hh.out.1 Hh.out.2 _).mono ?_; rintro _ _ ⟨rfl, hww⟩; rw [Hr.out]; subst hww) | go_skip | ((with_reducible refine wpl_unguard ?_ ?_); (focus (go_simp; done))) | ((with_reducible apply wpl_load hF (T := 22) (hu := Try.underlying22)); exact rfl; (first | exact ⟨0, rfl⟩ | exact ⟨1, rfl⟩ | exact ⟨2, rfl⟩ | exact ⟨3, rfl⟩ | exact ⟨4, rfl⟩ | exact ⟨5, rfl⟩ | exact ⟨6, rfl⟩ | exact ⟨7, rfl⟩ | exact ⟨8, rfl⟩ | exact ⟨9, rfl⟩ | exact ⟨10, rfl⟩ | exact ⟨11, rfl⟩); exact info_nm Hnm.out) | ((with_reducible apply wpl_load hF (T := 24) (hu := Try.underlying24)); exact rfl; (first | exact ⟨0, rfl⟩ | exact ⟨1, rfl⟩ | exact ⟨2, rfl⟩ | exact ⟨3, rfl⟩ | exact ⟨4, rfl⟩ | exact ⟨5, rfl⟩ | exact ⟨6, rfl⟩ | exact ⟨7, rfl⟩ | exact ⟨8, rfl⟩ | exact ⟨9, rfl⟩ | exact ⟨10, rfl⟩ | exact ⟨11, rfl⟩); exact info_idl Hs.out) | (go_at_call 20; (refine (pubL nm Hnm.out seed Hs.out 1 (by omega) (by omega) _).mono ?_; rintro _ _ ⟨b5, c5, t5, rfl, hc5, hm⟩; rw [Hy.out] at hm; replace hF := hF.took hm; clear hm; have H5 := Lib.hid hc5; clear hc5)) | (go_at_call 28; (refine (signL6 nm Hnm.out seed Hs.out 1 2 rfl (by omega) (by omega) 0 (by omega) [] none 0 0 rfl (by omega) (Sl.nil _ _)).mono ?_; rintro _ _ ⟨b1, c1, t1, rfl, hc1, hm⟩; rw [Hsg.out] at hm; replace hF := hF.took hm; clear hm; have H1 := Lib.hid hc1; clear hc1)) | (((with_reducible apply wpl_push hF 3 (bs sg) (t1) (bs [by_]) (ht := Try.underlying28) (he := byteElem)); (focus (intro _; exact rfl)); (focus exact rfl); (focus (intro _; exact rfl)); (focus (rw [bs_length]; exact Hsl.out)); (focus (have := H1.out; omega)); (focus (first | exact rfl | kernel_rfl)); exact rfl; (focus omega); exact bs_oneCell _; (focus omega); (focus (unfold maxLen; omega)); clear hF; intro b2 c2 t2 _ w2 hc2 hF; have H2 := Lib.hid hc2; clear hc2); rw [Hap.out] at hF) | (go_at_call 26; (refine (checkL y _ _ _ Hyl.out (by have := H5.out; omega) [] none 0 0 rfl (by omega) s2 _ _ _ Hl2.out (by have := H2.out; omega) (Sl.pre hF ⟨2, rfl⟩) (Sl.nil _ _) (Sl.pre hF ⟨3, rfl⟩)).mono ?_; rintro _ _ ⟨rfl, hb⟩; replace hF := hF.call hb; clear hb; rw [Hc.out])))
    go_ret
    exact ⟨rfl, hF.below⟩
  · -- the key is asked first
    obtain ⟨g, hg⟩ : ∃ g, gb y 0 = g := ⟨_, rfl⟩
    have Hg := Lib.hid (show ∀ t : List Value, (bs y ++ t)[0]? = some (B g) by
      intro t
      rw [List.getElem?_append_left (by rw [bs_length, Hyl.out]; omega), bs_get (by rw [Hyl.out]; omega), hg])
    obtain ⟨y2, hn2⟩ : ∃ x, x = y.set 0 (by_) := ⟨_, rfl⟩
    have Hl2 := Lib.hid (show y2.length = 56 by rw [hn2, List.length_set]; exact Hyl.out)
    have Hset := Lib.hid (show ∀ t : List Value, (bs y ++ t).set 0 (B (by_)) = bs y2 ++ t by
      intro t
      rw [List.set_append_left _ _ (by rw [bs_length, Hyl.out]; omega), bs_set, hn2])
    have Hc := Lib.hid (show lcheck y2 [] [] = 11 by rw [hn2, ← Hy.out]; exact form_first Hnm.out Hz.out)
    clear hg hn2
    go_enter Try.func13, Try.ntmps13
    go_wp2_with (first | ((with_reducible apply wpl_box (x := Operand.tmp 0) hF); exact rfl; clear hF; intro bn _ hF) | ((with_reducible apply wpl_box (x := Operand.tmp 1) hF); exact rfl; clear hF; intro bd _ hF) | (go_at_call 19; refine (known6 _).mono ?_; rintro _ _ ⟨rfl, hb⟩; replace hF := hF.call hb; clear hb) | (go_at_call 25; refine (within6 _ _ (by omega) (by omega) Hh.out.1 Hh.out.2 _).mono ?_; rintro _ _ ⟨rfl, hww⟩; rw [Hr.out]; subst hww) | go_skip | ((with_reducible refine wpl_unguard ?_ ?_); (focus (go_simp; done))) | ((with_reducible apply wpl_load hF (T := 22) (hu := Try.underlying22)); exact rfl; (first | exact ⟨0, rfl⟩ | exact ⟨1, rfl⟩ | exact ⟨2, rfl⟩ | exact ⟨3, rfl⟩ | exact ⟨4, rfl⟩ | exact ⟨5, rfl⟩ | exact ⟨6, rfl⟩ | exact ⟨7, rfl⟩ | exact ⟨8, rfl⟩ | exact ⟨9, rfl⟩ | exact ⟨10, rfl⟩ | exact ⟨11, rfl⟩); exact info_nm Hnm.out) | ((with_reducible apply wpl_load hF (T := 24) (hu := Try.underlying24)); exact rfl; (first | exact ⟨0, rfl⟩ | exact ⟨1, rfl⟩ | exact ⟨2, rfl⟩ | exact ⟨3, rfl⟩ | exact ⟨4, rfl⟩ | exact ⟨5, rfl⟩ | exact ⟨6, rfl⟩ | exact ⟨7, rfl⟩ | exact ⟨8, rfl⟩ | exact ⟨9, rfl⟩ | exact ⟨10, rfl⟩ | exact ⟨11, rfl⟩); exact info_idl Hs.out) | (go_at_call 20; (refine (pubL nm Hnm.out seed Hs.out 1 (by omega) (by omega) _).mono ?_; rintro _ _ ⟨b5, c5, t5, rfl, hc5, hm⟩; rw [Hy.out] at hm; replace hF := hF.took hm; clear hm; have H5 := Lib.hid hc5; clear hc5)) | (go_at_call 28; (refine (signL6 nm Hnm.out seed Hs.out 1 2 rfl (by omega) (by omega) 0 (by omega) [] none 0 0 rfl (by omega) (Sl.nil _ _)).mono ?_; rintro _ _ ⟨b1, c1, t1, rfl, hc1, hm⟩; rw [Hsg.out] at hm; replace hF := hF.took hm; clear hm; have H1 := Lib.hid hc1; clear hc1)) | ((with_reducible apply wpl_idxS (T := 28) (hu := Try.underlying28) (he := info_u8_)); exact rfl; exact rfl; (focus omega); (focus omega); rw [show 0 + (0 : Int).toNat = 0 from rfl]) | ((with_reducible apply wpl_storeV hF 2 (T := 5) (u := B by_)); exact rfl; exact rfl; exact rfl; exact info_u8_; exact Hg.out _; exact rfl; clear hF; intro _ hF; rw [Hset.out] at hF) | (go_at_call 26; (refine (checkL y2 _ _ _ Hl2.out (by have := H5.out; omega) [] none 0 0 rfl (by omega) [] _ _ _ rfl (Nat.le_refl _) (Sl.pre hF ⟨2, rfl⟩) (Sl.nil _ _) (Sl.nil _ _)).mono ?_; rintro _ _ ⟨rfl, hb⟩; replace hF := hF.call hb; clear hb; rw [Hc.out])))
    go_ret
    exact ⟨rfl, hF.below⟩
  · omega

set_option maxRecDepth 100000 in
theorem LmsForms_lifted (os : Os) (started : os.Started) (H : Type) (enc : TypeId × Value → H) :
    ReturnsInHanded {} Try.checked os 13 .any (Rows.lmsFormsSpec.pre6 enc Try.prog Try.f13 Rows.lmsFormsRow.domain false) (Rows.lmsFormsSpec.post enc Try.prog Try.f13 false true false false) := by
  refine returnsInHanded_of_change (C := Try.checked) own started (by kernel_rfl) Try.func13
    (ChangeSpec.witness6 (enc := enc) (C := Try.checked) false ⟨#[], #[.agg (Array.replicate 16 (.int .u8 0)), .agg (Array.replicate 32 (.int .u8 0)), .int .i64 0, .int .u8 0], []⟩ 8 (by kernel_rfl) (by kernel_rfl) (by kernel_rfl) (by kernel_rfl)) ?_
  intro W base args ds gs before hval0 hW hcnd _
  have hval : ∀ (j : Nat) t v, Try.f13.params[j]? = some t → args[j]? = some v → Value.okWide Try.prog W .any base t v := hval0
  have hW' := hW
  obtain ⟨p, q, hA0, hV, rfl, hfz, hnd⟩ := hW
  have hA : DataW.TrodAll enc Try.prog W 0 (fun _ => true) true Try.f13.params.toList args.toList ds p := hA0
  rw [Try.params13] at hA hval
  obtain ⟨v0, vs0, d0, ds0, p0, q0, hargs, rfl, rfl, h0, r0⟩ := trodAll_cons hA
  obtain ⟨v1, vs1, d1, ds1, p1, q1, rfl, rfl, rfl, h1, r1⟩ := trodAll_cons r0
  obtain ⟨v2, vs2, d2, ds2, p2, q2, rfl, rfl, rfl, h2, r2⟩ := trodAll_cons r1
  obtain ⟨v3, vs3, d3, ds3, p3, q3, rfl, rfl, rfl, h3, r3⟩ := trodAll_cons r2
  obtain ⟨rfl, rfl, rfl⟩ := trodAll_nil r3
  obtain rfl : args = #[v0, v1, v2, v3] := by cases args; simp_all
  obtain ⟨rfl, rfl⟩ := trodVars_none hV
  have k0 := h0
  have lt0 : ∀ x ∈ p0, x.block < W.heap.size := by obtain ⟨m, hm⟩ := k0; exact DataW.trod_lt m _ _ _ hm
  obtain ⟨l0, n0, rfl⟩ := okWide_bytes Try.underlying22 Try.underlying5 (by kernel_rfl) (by kernel_rfl) (hval 0 22 v0 rfl rfl)
  have k1 := h1
  have lt1 : ∀ x ∈ p1, x.block < W.heap.size := by obtain ⟨m, hm⟩ := k1; exact DataW.trod_lt m _ _ _ hm
  obtain ⟨l1, n1, rfl⟩ := okWide_bytes Try.underlying24 Try.underlying5 (by kernel_rfl) (by kernel_rfl) (hval 1 24 v1 rfl rfl)
  have k2 := h2
  have lt2 : ∀ x ∈ p2, x.block < W.heap.size := by obtain ⟨m, hm⟩ := k2; exact DataW.trod_lt m _ _ _ hm
  obtain ⟨l2, rfl, n2⟩ := okWide_i64 Try.underlying3 (hval 2 3 v2 rfl rfl)
  have k3 := h3
  have lt3 : ∀ x ∈ p3, x.block < W.heap.size := by obtain ⟨m, hm⟩ := k3; exact DataW.trod_lt m _ _ _ hm
  obtain ⟨l3, rfl⟩ := okWide_u8 Try.underlying5 (hval 3 5 v3 rfl rfl)
  clear hA0 hval0 hcnd
  refine (LmsForms_walk l0 l1 l2 l3 n0 n1 n2.1 n2.2  W).mono fun e W' ⟨he, bel⟩ => ?_
  subst he
  exact ⟨_, rfl, _, _, _, [], _, [], hW', trodAll_mk1 (shut_bool Try.underlying4 _), (trodAll_cons_mk (Below.trod laidOut (by kernel_rfl) (of_decide_eq_true (by kernel_rfl)) k0 bel lt0) (trodAll_cons_mk (Below.trod laidOut (by kernel_rfl) (of_decide_eq_true (by kernel_rfl)) k1 bel lt1) (trodAll_cons_mk (Below.trod laidOut (by kernel_rfl) (of_decide_eq_true (by kernel_rfl)) k2 bel lt2) (trodAll_cons_mk (Below.trod laidOut (by kernel_rfl) (of_decide_eq_true (by kernel_rfl)) k3 bel lt3) trodAll_mk0)))), rfl, bel.frame _, fun h => by cases h⟩

theorem LmsForms_over : Rows.lmsFormsRow.holds Try.pinned (OpenSpec.ofChange Rows.lmsFormsSpec) :=
  OpenClaim.holds_of_wide 13 Try.f13 rfl rfl rfl rfl rfl rfl rfl ⟨rfl, rfl, rfl, rfl, rfl⟩ rfl rfl rfl rfl rfl (by kernel_rfl) Try.func13 (by kernel_rfl)
    (of_decide_eq_true (by kernel_rfl)) (by unfold Func.isWrapper; first | (rw [if_pos (by decide +kernel)]; kernel_rfl) | (rw [if_neg (by decide +kernel)]; exact ⟨rfl, rfl⟩))
    (fun os started H enc _ => LmsForms_lifted os started H enc)

theorem LmsForms_holds : Rows.LmsFormsSaid := LmsForms_over
#print axioms LmsForms_holds
end Go.Proofs.Ytbnjgldilckhpaa
