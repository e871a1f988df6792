/-
  LmsSigns: for any name, seed, height (1 or 2), leaf and text of at most 200 bytes the signature by lms.Sign is the document's, and right by the public key; a leaf that there is none of signs nothing. No conditions.
-/
import Derived.Test.YtbnjgldilckhpaaLmsCheck
namespace Go.Proofs.Ytbnjgldilckhpaa
set_option linter.unusedSimpArgs false
set_option linter.unusedVariables false
open Go.ChangeShapes Go.WideShapes Go.ChangeAt Go.RowKit
attribute [local irreducible] wpQuiet Calls wpLine wpSeq
set_option maxRecDepth 4000

set_option maxHeartbeats 8000000 in
theorem LmsSigns_walk (nm seed : List UInt8) (h q : Int) (a4 : Option Addr) (len4 cap4 : Nat) (msg : List UInt8) {w : World} (hnm : nm.length = 16) (hs : seed.length = 32) (h0 : -9223372036854775808 ≤ h) (h1 : h ≤ 9223372036854775807) (q0 : -9223372036854775808 ≤ q) (q1 : q ≤ 9223372036854775807) (n4 : IsB w a4 len4 cap4 msg) :
    Calls Try.prog 10 #[agg nm, agg seed, .int .i64 h, .int .i64 q, .slice a4 len4 cap4] w fun e w' => e = .returned (.bool true) ∧ Below w.heap.size w w' := by
  have hF := Fr.start w
  obtain ⟨m1, c4, r4, s4⟩ := n4
  have Hnm := Lib.hid hnm
  have Hs := Lib.hid hs
  have Hm := Lib.hid m1
  have Hs4 := Lib.hid s4
  have Hh := Lib.hid (And.intro h0 h1)
  clear hnm hs m1 s4 h0 h1
  by_cases hb : len4 > 200
  · have hb' : (200 : Int) < (len4 : Int) := by omega
    go_enter Try.func10, Try.ntmps10
    go_wp2_with (first | ((with_reducible apply wpl_box (x := Operand.tmp 0) hF); exact rfl; clear hF; intro bn _ hF) | ((with_reducible apply wpl_box (x := Operand.tmp 1) hF); exact rfl; clear hF; intro bd _ hF) | (go_at_call 19; refine (known6 _).mono ?_; rintro _ _ ⟨rfl, hb⟩; replace hF := hF.call hb; clear hb))
    go_ret
    exact ⟨rfl, hF.below⟩
  · have hb' : ¬ (200 : Int) < (len4 : Int) := by omega
    rcases (show h % 2 = 0 ∨ h % 2 = 1 by omega) with hk | hk
    · have Hk := Lib.hid hk
      clear hk
      obtain ⟨y, hy⟩ : ∃ y, lpub nm seed 1 = y := ⟨_, rfl⟩
      have Hy := Lib.hid hy
      have Hyl := Lib.hid (show y.length = 56 by rw [← hy]; exact lpub_length Hnm.out 1)
      by_cases hq : q < 0 ∨ ((2 : Nat) : Int) ≤ q
      · have Hq := Lib.hid hq
        clear hy hq
        go_enter Try.func10, Try.ntmps10
        go_wp2_with (first | ((with_reducible apply wpl_box (x := Operand.tmp 0) hF); exact rfl; clear hF; intro bn _ hF) | ((with_reducible apply wpl_box (x := Operand.tmp 1) hF); exact rfl; clear hF; intro bd _ hF) | (go_at_call 19; refine (known6 _).mono ?_; rintro _ _ ⟨rfl, hb⟩; replace hF := hF.call hb; clear hb) | (go_at_call 25; refine (within6 _ _ (by omega) (by omega) Hh.out.1 Hh.out.2 _).mono ?_; rintro _ _ ⟨rfl, hww⟩; rw [Hk.out]; subst hww) | go_skip | ((with_reducible refine wpl_unguard ?_ ?_); (focus (go_simp; done))) | ((with_reducible apply wpl_load hF (T := 22) (hu := Try.underlying22)); exact rfl; (first | exact ⟨0, rfl⟩ | exact ⟨1, rfl⟩ | exact ⟨2, rfl⟩ | exact ⟨3, rfl⟩ | exact ⟨4, rfl⟩ | exact ⟨5, rfl⟩ | exact ⟨6, rfl⟩ | exact ⟨7, rfl⟩ | exact ⟨8, rfl⟩ | exact ⟨9, rfl⟩ | exact ⟨10, rfl⟩ | exact ⟨11, rfl⟩); exact info_nm Hnm.out) | ((with_reducible apply wpl_load hF (T := 24) (hu := Try.underlying24)); exact rfl; (first | exact ⟨0, rfl⟩ | exact ⟨1, rfl⟩ | exact ⟨2, rfl⟩ | exact ⟨3, rfl⟩ | exact ⟨4, rfl⟩ | exact ⟨5, rfl⟩ | exact ⟨6, rfl⟩ | exact ⟨7, rfl⟩ | exact ⟨8, rfl⟩ | exact ⟨9, rfl⟩ | exact ⟨10, rfl⟩ | exact ⟨11, rfl⟩); exact info_idl Hs.out) | (go_at_call 21; (refine (pubR nm Hnm.out seed Hs.out 1 (by omega) (by omega) _).mono ?_; rintro _ _ ⟨b5, c5, t5, rfl, hc5, hm⟩; rw [Hy.out] at hm; replace hF := hF.took hm; clear hm; have H5 := Lib.hid hc5; clear hc5)) | (go_at_call 28; refine (signBadL nm Hnm.out seed Hs.out 1 2 rfl (by omega) (by omega) q Hq.out a4 len4 cap4 _).mono ?_; rintro _ _ ⟨rfl, hb⟩; replace hF := hF.call hb; clear hb) | (go_at_call 24; refine (signBadR nm Hnm.out seed Hs.out 1 2 rfl (by omega) (by omega) q Hq.out a4 len4 cap4 _).mono ?_; rintro _ _ ⟨rfl, hb⟩; replace hF := hF.call hb; clear hb) | ((with_reducible apply wpl_toSt ([]) (hS := Try.underlying28) (he := Try.underlying5) (hT := Try.underlying9)); exact rfl; exact rfl; exact Sl.nil _ _) | ((with_reducible apply wpl_neqSt (m := [])); exact rfl; exact rfl))
        go_ret
        exact ⟨rfl, hF.below⟩
      · obtain ⟨k, rfl⟩ : ∃ k : Nat, q = (k : Int) := ⟨q.toNat, by omega⟩
        have hkn : k < 2 := by omega
        obtain ⟨sg, hsg⟩ : ∃ s, lsig nm seed 1 k msg = s := ⟨_, rfl⟩
        have Hsg := Lib.hid hsg
        have Hsl := Lib.hid (show sg.length = 4332 by rw [← hsg]; exact lsig_length hkn)
        have Hck := Lib.hid (show lcheck y msg sg = 0 by rw [← hy, ← hsg]; exact lcheck_sign Hnm.out (by omega) (by omega) hkn)
        clear hy hsg hq
        go_enter Try.func10, Try.ntmps10
        go_wp2_with (first | ((with_reducible apply wpl_box (x := Operand.tmp 0) hF); exact rfl; clear hF; intro bn _ hF) | ((with_reducible apply wpl_box (x := Operand.tmp 1) hF); exact rfl; clear hF; intro bd _ hF) | (go_at_call 19; refine (known6 _).mono ?_; rintro _ _ ⟨rfl, hb⟩; replace hF := hF.call hb; clear hb) | (go_at_call 25; refine (within6 _ _ (by omega) (by omega) Hh.out.1 Hh.out.2 _).mono ?_; rintro _ _ ⟨rfl, hww⟩; rw [Hk.out]; subst hww) | go_skip | ((with_reducible refine wpl_unguard ?_ ?_); (focus (go_simp; done))) | ((with_reducible apply wpl_load hF (T := 22) (hu := Try.underlying22)); exact rfl; (first | exact ⟨0, rfl⟩ | exact ⟨1, rfl⟩ | exact ⟨2, rfl⟩ | exact ⟨3, rfl⟩ | exact ⟨4, rfl⟩ | exact ⟨5, rfl⟩ | exact ⟨6, rfl⟩ | exact ⟨7, rfl⟩ | exact ⟨8, rfl⟩ | exact ⟨9, rfl⟩ | exact ⟨10, rfl⟩ | exact ⟨11, rfl⟩); exact info_nm Hnm.out) | ((with_reducible apply wpl_load hF (T := 24) (hu := Try.underlying24)); exact rfl; (first | exact ⟨0, rfl⟩ | exact ⟨1, rfl⟩ | exact ⟨2, rfl⟩ | exact ⟨3, rfl⟩ | exact ⟨4, rfl⟩ | exact ⟨5, rfl⟩ | exact ⟨6, rfl⟩ | exact ⟨7, rfl⟩ | exact ⟨8, rfl⟩ | exact ⟨9, rfl⟩ | exact ⟨10, rfl⟩ | exact ⟨11, rfl⟩); exact info_idl Hs.out) | (go_at_call 21; (refine (pubR nm Hnm.out seed Hs.out 1 (by omega) (by omega) _).mono ?_; rintro _ _ ⟨b5, c5, t5, rfl, hc5, hm⟩; rw [Hy.out] at hm; replace hF := hF.took hm; clear hm; have H5 := Lib.hid hc5; clear hc5)) | (go_at_call 28; refine (signL6 nm Hnm.out seed Hs.out 1 2 rfl (by omega) (by omega) k hkn msg a4 len4 cap4 Hm.out (by omega) (Hs4.out.fr hF)).mono ?_; rintro _ _ ⟨b1, c1, t1, rfl, hc1, hm⟩; rw [Hsg.out] at hm; replace hF := hF.took hm; clear hm; have H1 := Lib.hid hc1; clear hc1) | (go_at_call 24; refine (signR6 nm Hnm.out seed Hs.out 1 2 rfl (by omega) (by omega) k hkn msg a4 len4 cap4 Hm.out (by omega) (Hs4.out.fr hF)).mono ?_; rintro _ _ ⟨b2, c2, t2, rfl, hc2, hm⟩; rw [Hsg.out] at hm; replace hF := hF.took hm; clear hm; have H2 := Lib.hid hc2; clear hc2) | ((with_reducible apply wpl_toSt (sg) (hS := Try.underlying28) (he := Try.underlying5) (hT := Try.underlying9)); exact rfl; exact Hsl.out; exact (by first | exact Sl.pre hF ⟨2, rfl⟩ | exact Sl.pre hF ⟨3, rfl⟩)) | ((with_reducible apply wpl_neqSt (m := sg)); exact rfl; exact rfl) | (go_at_call 26; refine (checkL y _ _ _ Hyl.out (by have := H5.out; omega) msg a4 len4 cap4 Hm.out (by omega) sg _ _ _ Hsl.out (by have := H1.out; omega) (Sl.pre hF ⟨4, rfl⟩) (Hs4.out.fr hF) (Sl.pre hF ⟨2, rfl⟩)).mono ?_; rintro _ _ ⟨rfl, hb⟩; replace hF := hF.call hb; clear hb; rw [Hck.out]))
        go_ret
        exact ⟨rfl, hF.below⟩
    · have Hk := Lib.hid hk
      clear hk
      obtain ⟨y, hy⟩ : ∃ y, lpub nm seed 2 = y := ⟨_, rfl⟩
      have Hy := Lib.hid hy
      have Hyl := Lib.hid (show y.length = 56 by rw [← hy]; exact lpub_length Hnm.out 2)
      by_cases hq : q < 0 ∨ ((4 : Nat) : Int) ≤ q
      · have Hq := Lib.hid hq
        clear hy hq
        go_enter Try.func10, Try.ntmps10
        go_wp2_with (first | ((with_reducible apply wpl_box (x := Operand.tmp 0) hF); exact rfl; clear hF; intro bn _ hF) | ((with_reducible apply wpl_box (x := Operand.tmp 1) hF); exact rfl; clear hF; intro bd _ hF) | (go_at_call 19; refine (known6 _).mono ?_; rintro _ _ ⟨rfl, hb⟩; replace hF := hF.call hb; clear hb) | (go_at_call 25; refine (within6 _ _ (by omega) (by omega) Hh.out.1 Hh.out.2 _).mono ?_; rintro _ _ ⟨rfl, hww⟩; rw [Hk.out]; subst hww) | go_skip | ((with_reducible refine wpl_unguard ?_ ?_); (focus (go_simp; done))) | ((with_reducible apply wpl_load hF (T := 22) (hu := Try.underlying22)); exact rfl; (first | exact ⟨0, rfl⟩ | exact ⟨1, rfl⟩ | exact ⟨2, rfl⟩ | exact ⟨3, rfl⟩ | exact ⟨4, rfl⟩ | exact ⟨5, rfl⟩ | exact ⟨6, rfl⟩ | exact ⟨7, rfl⟩ | exact ⟨8, rfl⟩ | exact ⟨9, rfl⟩ | exact ⟨10, rfl⟩ | exact ⟨11, rfl⟩); exact info_nm Hnm.out) | ((with_reducible apply wpl_load hF (T := 24) (hu := Try.underlying24)); exact rfl; (first | exact ⟨0, rfl⟩ | exact ⟨1, rfl⟩ | exact ⟨2, rfl⟩ | exact ⟨3, rfl⟩ | exact ⟨4, rfl⟩ | exact ⟨5, rfl⟩ | exact ⟨6, rfl⟩ | exact ⟨7, rfl⟩ | exact ⟨8, rfl⟩ | exact ⟨9, rfl⟩ | exact ⟨10, rfl⟩ | exact ⟨11, rfl⟩); exact info_idl Hs.out) | (go_at_call 21; (refine (pubR nm Hnm.out seed Hs.out 2 (by omega) (by omega) _).mono ?_; rintro _ _ ⟨b5, c5, t5, rfl, hc5, hm⟩; rw [Hy.out] at hm; replace hF := hF.took hm; clear hm; have H5 := Lib.hid hc5; clear hc5)) | (go_at_call 28; refine (signBadL nm Hnm.out seed Hs.out 2 4 rfl (by omega) (by omega) q Hq.out a4 len4 cap4 _).mono ?_; rintro _ _ ⟨rfl, hb⟩; replace hF := hF.call hb; clear hb) | (go_at_call 24; refine (signBadR nm Hnm.out seed Hs.out 2 4 rfl (by omega) (by omega) q Hq.out a4 len4 cap4 _).mono ?_; rintro _ _ ⟨rfl, hb⟩; replace hF := hF.call hb; clear hb) | ((with_reducible apply wpl_toSt ([]) (hS := Try.underlying28) (he := Try.underlying5) (hT := Try.underlying9)); exact rfl; exact rfl; exact Sl.nil _ _) | ((with_reducible apply wpl_neqSt (m := [])); exact rfl; exact rfl))
        go_ret
        exact ⟨rfl, hF.below⟩
      · obtain ⟨k, rfl⟩ : ∃ k : Nat, q = (k : Int) := ⟨q.toNat, by omega⟩
        have hkn : k < 4 := by omega
        obtain ⟨sg, hsg⟩ : ∃ s, lsig nm seed 2 k msg = s := ⟨_, rfl⟩
        have Hsg := Lib.hid hsg
        have Hsl := Lib.hid (show sg.length = 4364 by rw [← hsg]; exact lsig_length hkn)
        have Hck := Lib.hid (show lcheck y msg sg = 0 by rw [← hy, ← hsg]; exact lcheck_sign Hnm.out (by omega) (by omega) hkn)
        clear hy hsg hq
        go_enter Try.func10, Try.ntmps10
        go_wp2_with (first | ((with_reducible apply wpl_box (x := Operand.tmp 0) hF); exact rfl; clear hF; intro bn _ hF) | ((with_reducible apply wpl_box (x := Operand.tmp 1) hF); exact rfl; clear hF; intro bd _ hF) | (go_at_call 19; refine (known6 _).mono ?_; rintro _ _ ⟨rfl, hb⟩; replace hF := hF.call hb; clear hb) | (go_at_call 25; refine (within6 _ _ (by omega) (by omega) Hh.out.1 Hh.out.2 _).mono ?_; rintro _ _ ⟨rfl, hww⟩; rw [Hk.out]; subst hww) | go_skip | ((with_reducible refine wpl_unguard ?_ ?_); (focus (go_simp; done))) | ((with_reducible apply wpl_load hF (T := 22) (hu := Try.underlying22)); exact rfl; (first | exact ⟨0, rfl⟩ | exact ⟨1, rfl⟩ | exact ⟨2, rfl⟩ | exact ⟨3, rfl⟩ | exact ⟨4, rfl⟩ | exact ⟨5, rfl⟩ | exact ⟨6, rfl⟩ | exact ⟨7, rfl⟩ | exact ⟨8, rfl⟩ | exact ⟨9, rfl⟩ | exact ⟨10, rfl⟩ | exact ⟨11, rfl⟩); exact info_nm Hnm.out) | ((with_reducible apply wpl_load hF (T := 24) (hu := Try.underlying24)); exact rfl; (first | exact ⟨0, rfl⟩ | exact ⟨1, rfl⟩ | exact ⟨2, rfl⟩ | exact ⟨3, rfl⟩ | exact ⟨4, rfl⟩ | exact ⟨5, rfl⟩ | exact ⟨6, rfl⟩ | exact ⟨7, rfl⟩ | exact ⟨8, rfl⟩ | exact ⟨9, rfl⟩ | exact ⟨10, rfl⟩ | exact ⟨11, rfl⟩); exact info_idl Hs.out) | (go_at_call 21; (refine (pubR nm Hnm.out seed Hs.out 2 (by omega) (by omega) _).mono ?_; rintro _ _ ⟨b5, c5, t5, rfl, hc5, hm⟩; rw [Hy.out] at hm; replace hF := hF.took hm; clear hm; have H5 := Lib.hid hc5; clear hc5)) | (go_at_call 28; refine (signL6 nm Hnm.out seed Hs.out 2 4 rfl (by omega) (by omega) k hkn msg a4 len4 cap4 Hm.out (by omega) (Hs4.out.fr hF)).mono ?_; rintro _ _ ⟨b1, c1, t1, rfl, hc1, hm⟩; rw [Hsg.out] at hm; replace hF := hF.took hm; clear hm; have H1 := Lib.hid hc1; clear hc1) | (go_at_call 24; refine (signR6 nm Hnm.out seed Hs.out 2 4 rfl (by omega) (by omega) k hkn msg a4 len4 cap4 Hm.out (by omega) (Hs4.out.fr hF)).mono ?_; rintro _ _ ⟨b2, c2, t2, rfl, hc2, hm⟩; rw [Hsg.out] at hm; replace hF := hF.took hm; clear hm; have H2 := Lib.hid hc2; clear hc2) | ((with_reducible apply wpl_toSt (sg) (hS := Try.underlying28) (he := Try.underlying5) (hT := Try.underlying9)); exact rfl; exact Hsl.out; exact (by first | exact Sl.pre hF ⟨2, rfl⟩ | exact Sl.pre hF ⟨3, rfl⟩)) | ((with_reducible apply wpl_neqSt (m := sg)); exact rfl; exact rfl) | (go_at_call 26; refine (checkL y _ _ _ Hyl.out (by have := H5.out; omega) msg a4 len4 cap4 Hm.out (by omega) sg _ _ _ Hsl.out (by have := H1.out; omega) (Sl.pre hF ⟨4, rfl⟩) (Hs4.out.fr hF) (Sl.pre hF ⟨2, rfl⟩)).mono ?_; rintro _ _ ⟨rfl, hb⟩; replace hF := hF.call hb; clear hb; rw [Hck.out]))
        go_ret
        exact ⟨rfl, hF.below⟩

set_option maxRecDepth 100000 in
theorem LmsSigns_lifted (os : Os) (started : os.Started) (H : Type) (enc : TypeId × Value → H) :
    ReturnsInHanded {} Try.checked os 10 .any (Rows.lmsSignsSpec.pre6 enc Try.prog Try.f10 Rows.lmsSignsRow.domain false) (Rows.lmsSignsSpec.post enc Try.prog Try.f10 false true false false) := by
  refine returnsInHanded_of_change_sized (C := Try.checked) own started (by kernel_rfl) Try.func10
    (ChangeSpec.witness6 (enc := enc) (C := Try.checked) false ⟨#[], #[.agg (Array.replicate 16 (.int .u8 0)), .agg (Array.replicate 32 (.int .u8 0)), .int .i64 0, .int .i64 0, .slice none 0 0], []⟩ 8 (by kernel_rfl) (by kernel_rfl) (by kernel_rfl) (by kernel_rfl)) ?_
  intro W base args ds gs before hval0 hW hcnd hsz0 _
  have hsz : (DataW.weightsEach Try.prog (Try.f10.params.toList ++ Rows.lmsSignsSpec.plain.varTypes Try.prog) (ds ++ gs)).all (· ≤ reachBytes) = true := hsz0
  have hval : ∀ (j : Nat) t v, Try.f10.params[j]? = some t → args[j]? = some v → Value.okWide Try.prog W .any base t v := hval0
  have hW' := hW
  obtain ⟨p, q, hA0, hV, rfl, hfz, hnd⟩ := hW
  have hA : DataW.TrodAll enc Try.prog W 0 (fun _ => true) true Try.f10.params.toList args.toList ds p := hA0
  rw [Try.params10] at hA hval hsz
  obtain ⟨v0, vs0, d0, ds0, p0, q0, hargs, rfl, rfl, h0, r0⟩ := trodAll_cons hA
  obtain ⟨v1, vs1, d1, ds1, p1, q1, rfl, rfl, rfl, h1, r1⟩ := trodAll_cons r0
  obtain ⟨v2, vs2, d2, ds2, p2, q2, rfl, rfl, rfl, h2, r2⟩ := trodAll_cons r1
  obtain ⟨v3, vs3, d3, ds3, p3, q3, rfl, rfl, rfl, h3, r3⟩ := trodAll_cons r2
  obtain ⟨v4, vs4, d4, ds4, p4, q4, rfl, rfl, rfl, h4, r4⟩ := trodAll_cons r3
  obtain ⟨rfl, rfl, rfl⟩ := trodAll_nil r4
  obtain rfl : args = #[v0, v1, v2, v3, v4] := by cases args; simp_all
  obtain ⟨rfl, rfl⟩ := trodVars_none hV
  have k0 := h0
  have lt0 : ∀ x ∈ p0, x.block < W.heap.size := by obtain ⟨m, hm⟩ := k0; exact DataW.trod_lt m _ _ _ hm
  obtain ⟨l0, n0, rfl⟩ := okWide_bytes Try.underlying22 Try.underlying5 (by kernel_rfl) (by kernel_rfl) (hval 0 22 v0 rfl rfl)
  have k1 := h1
  have lt1 : ∀ x ∈ p1, x.block < W.heap.size := by obtain ⟨m, hm⟩ := k1; exact DataW.trod_lt m _ _ _ hm
  obtain ⟨l1, n1, rfl⟩ := okWide_bytes Try.underlying24 Try.underlying5 (by kernel_rfl) (by kernel_rfl) (hval 1 24 v1 rfl rfl)
  have k2 := h2
  have lt2 : ∀ x ∈ p2, x.block < W.heap.size := by obtain ⟨m, hm⟩ := k2; exact DataW.trod_lt m _ _ _ hm
  obtain ⟨l2, rfl, n2⟩ := okWide_i64 Try.underlying3 (hval 2 3 v2 rfl rfl)
  have k3 := h3
  have lt3 : ∀ x ∈ p3, x.block < W.heap.size := by obtain ⟨m, hm⟩ := k3; exact DataW.trod_lt m _ _ _ hm
  obtain ⟨l3, rfl, n3⟩ := okWide_i64 Try.underlying3 (hval 3 3 v3 rfl rfl)
  have k4 := h4
  have lt4 : ∀ x ∈ p4, x.block < W.heap.size := by obtain ⟨m, hm⟩ := k4; exact DataW.trod_lt m _ _ _ hm
  obtain ⟨a4, len4, cap4, rfl⟩ := okWide_slice Try.underlying28 (hval 4 28 v4 rfl rfl)
  obtain ⟨z4, n4⟩ : ∃ zs, IsB W a4 len4 cap4 zs := by obtain ⟨fuel, hf⟩ := h4; exact isB_of 4 Try.underlying28 Try.underlying5 (by kernel_rfl) (by kernel_rfl) hf hsz rfl rfl
  clear hA0 hval0 hcnd hsz hsz0
  refine (LmsSigns_walk l0 l1 l2 l3 a4 len4 cap4 z4 n0 n1 n2.1 n2.2 n3.1 n3.2 n4).mono fun e W' ⟨he, bel⟩ => ?_
  subst he
  exact ⟨_, rfl, _, _, _, [], _, [], hW', trodAll_mk1 (shut_bool Try.underlying4 _), (trodAll_cons_mk (Below.trod laidOut (by kernel_rfl) (of_decide_eq_true (by kernel_rfl)) k0 bel lt0) (trodAll_cons_mk (Below.trod laidOut (by kernel_rfl) (of_decide_eq_true (by kernel_rfl)) k1 bel lt1) (trodAll_cons_mk (Below.trod laidOut (by kernel_rfl) (of_decide_eq_true (by kernel_rfl)) k2 bel lt2) (trodAll_cons_mk (Below.trod laidOut (by kernel_rfl) (of_decide_eq_true (by kernel_rfl)) k3 bel lt3) (trodAll_cons_mk (Below.trod laidOut (by kernel_rfl) (of_decide_eq_true (by kernel_rfl)) k4 bel lt4) trodAll_mk0))))), rfl, bel.frame _, fun h => by cases h⟩

theorem LmsSigns_over : Rows.lmsSignsRow.holds Try.pinned (OpenSpec.ofChange Rows.lmsSignsSpec) :=
  OpenClaim.holds_of_wide 10 Try.f10 rfl rfl rfl rfl rfl rfl rfl ⟨rfl, rfl, rfl, rfl, rfl⟩ rfl rfl rfl rfl rfl (by kernel_rfl) Try.func10 (by kernel_rfl)
    (of_decide_eq_true (by kernel_rfl)) (by unfold Func.isWrapper; first | (rw [if_pos (by decide +kernel)]; kernel_rfl) | (rw [if_neg (by decide +kernel)]; exact ⟨rfl, rfl⟩))
    (fun os started H enc _ => LmsSigns_lifted os started H enc)

theorem LmsSigns_holds : Rows.LmsSignsSaid := LmsSigns_over
#print axioms LmsSigns_holds
end Go.Proofs.Ytbnjgldilckhpaa
