/-
  LmsOthers: what one leaf signed is right for that text by its key; another text, another key's signature: as the document says. No conditions.
-/
import Derived.Test.YtbnjgldilckhpaaLmsCheck
namespace Go.Proofs.Ytbnjgldilckhpaa
set_option linter.unusedSimpArgs false
set_option linter.unusedVariables false
open Go.ChangeShapes Go.WideShapes Go.ChangeAt Go.RowKit
attribute [local irreducible] wpQuiet Calls wpLine wpSeq
set_option maxRecDepth 4000

set_option maxHeartbeats 8000000 in
theorem LmsOthers_walk (nm seed : List UInt8) (q : Int) (a3 : Option Addr) (len3 cap3 : Nat) (msg : List UInt8) (by_ : UInt8) {w : World} (hnm : nm.length = 16) (hs : seed.length = 32) (q0 : -9223372036854775808 ≤ q) (q1 : q ≤ 9223372036854775807) (n3 : IsB w a3 len3 cap3 msg) :
    Calls Try.prog 11 #[agg nm, agg seed, .int .i64 q, .slice a3 len3 cap3, B by_] w fun e w' => e = .returned (.bool true) ∧ Below w.heap.size w w' := by
  have hF := Fr.start w
  obtain ⟨m1, c4, r4, s4⟩ := n3
  have Hnm := Lib.hid hnm
  have Hs := Lib.hid hs
  have Hm := Lib.hid m1
  have Hs3 := Lib.hid s4
  have Hh := Lib.hid (And.intro q0 q1)
  clear hnm m1 s4 q0 q1
  by_cases hb : len3 > 200
  · have hb' : (200 : Int) < (len3 : Int) := by omega
    go_enter Try.func11, Try.ntmps11
    go_wp2_with (first | ((with_reducible apply wpl_box (x := Operand.tmp 0) hF); exact rfl; clear hF; intro bn _ hF) | ((with_reducible apply wpl_box (x := Operand.tmp 1) hF); exact rfl; clear hF; intro bd _ hF) | (go_at_call 19; refine (known6 _).mono ?_; rintro _ _ ⟨rfl, hb⟩; replace hF := hF.call hb; clear hb) | go_skip | ((with_reducible refine wpl_unguard ?_ ?_); (focus (go_simp; done))))
    go_ret
    exact ⟨rfl, hF.below⟩
  · have hb' : ¬ (200 : Int) < (len3 : Int) := by omega
    by_cases hz : by_ = 0
    · subst hz
      go_enter Try.func11, Try.ntmps11
      go_wp2_with (first | ((with_reducible apply wpl_box (x := Operand.tmp 0) hF); exact rfl; clear hF; intro bn _ hF) | ((with_reducible apply wpl_box (x := Operand.tmp 1) hF); exact rfl; clear hF; intro bd _ hF) | (go_at_call 19; refine (known6 _).mono ?_; rintro _ _ ⟨rfl, hb⟩; replace hF := hF.call hb; clear hb) | go_skip | ((with_reducible refine wpl_unguard ?_ ?_); (focus (go_simp; done))))
      go_ret
      exact ⟨rfl, hF.below⟩
    · obtain ⟨k, hk⟩ : ∃ k : Nat, q % 2 = (k : Int) := ⟨(q % 2).toNat, by omega⟩
      have hk2 : k < 2 := by omega
      have Hk := Lib.hid hk
      obtain ⟨y, hy⟩ : ∃ y, lpub nm seed 1 = y := ⟨_, rfl⟩
      have Hy := Lib.hid hy
      have Hyl := Lib.hid (show y.length = 56 by rw [← hy]; exact lpub_length Hnm.out 1)
      obtain ⟨sd, hsd⟩ : ∃ s, seed.set 7 (gb seed 7 ^^^ by_) = s := ⟨_, rfl⟩
      have Hsd := Lib.hid hsd
      have Hs2 := Lib.hid (show sd.length = 32 by rw [← hsd, List.length_set, hs])
      obtain ⟨sg, hsg⟩ : ∃ s, lsig nm seed 1 k msg = s := ⟨_, rfl⟩
      have Hsg := Lib.hid hsg
      have Hsl := Lib.hid (show sg.length = 4332 by rw [← hsg]; exact lsig_length hk2)
      obtain ⟨sg2, hsg2⟩ : ∃ s, lsig nm sd 1 k msg = s := ⟨_, rfl⟩
      have Hsg2 := Lib.hid hsg2
      have Hsl2 := Lib.hid (show sg2.length = 4332 by rw [← hsg2]; exact lsig_length hk2)
      have Hck := Lib.hid (show lcheck y msg sg = 0 by rw [← hy, ← hsg]; exact lcheck_sign Hnm.out (by omega) (by omega) hk2)
      obtain ⟨e1, he1⟩ : ∃ e, lcheck y (msg ++ [by_]) sg = e := ⟨_, rfl⟩
      obtain ⟨e2, he2⟩ : ∃ e, lcheck y msg sg2 = e := ⟨_, rfl⟩
      have He1 := Lib.hid he1
      have He2 := Lib.hid he2
      have Hol := Lib.hid (show (msg ++ [by_]).length = len3 + 1 by rw [List.length_append, Hm.out]; simp)
      have Hoe := Lib.hid (show bs (msg ++ [by_]) = [] ++ bs msg ++ bs [by_] by rw [bs_append, List.nil_append])
      clear he1 he2
      have hnz : ¬ ((by_.toNat : Int) = 0) := fun e => hz (UInt8.toNat_inj.1 (Int.ofNat.inj e))
      clear hy hsg hsg2 hk hsd
      go_enter Try.func11, Try.ntmps11
      go_wp2_with (first | ((with_reducible apply wpl_box (x := Operand.tmp 0) hF); exact rfl; clear hF; intro bn _ hF) | ((with_reducible apply wpl_box (x := Operand.tmp 1) hF); exact rfl; clear hF; intro bd _ hF) | (go_at_call 19; refine (known6 _).mono ?_; rintro _ _ ⟨rfl, hb⟩; replace hF := hF.call hb; clear hb) | (go_at_call 25; refine (within6 _ _ (by omega) (by omega) Hh.out.1 Hh.out.2 _).mono ?_; rintro _ _ ⟨rfl, hww⟩; rw [Hk.out]; subst hww) | go_skip | ((with_reducible refine wpl_unguard ?_ ?_); (focus (go_simp; done))) | ((with_reducible apply wpl_load hF (T := 22) (hu := Try.underlying22)); exact rfl; (first | exact ⟨0, rfl⟩ | exact ⟨1, rfl⟩ | exact ⟨2, rfl⟩ | exact ⟨3, rfl⟩ | exact ⟨4, rfl⟩ | exact ⟨5, rfl⟩ | exact ⟨6, rfl⟩ | exact ⟨7, rfl⟩ | exact ⟨8, rfl⟩ | exact ⟨9, rfl⟩ | exact ⟨10, rfl⟩ | exact ⟨11, rfl⟩); exact info_nm Hnm.out) | ((with_reducible apply wpl_load hF (T := 24) (hu := Try.underlying24)); exact rfl; (first | exact ⟨0, rfl⟩ | exact ⟨1, rfl⟩ | exact ⟨2, rfl⟩ | exact ⟨3, rfl⟩ | exact ⟨4, rfl⟩ | exact ⟨5, rfl⟩ | exact ⟨6, rfl⟩ | exact ⟨7, rfl⟩ | exact ⟨8, rfl⟩ | exact ⟨9, rfl⟩ | exact ⟨10, rfl⟩ | exact ⟨11, rfl⟩); exact info_idl (by first | (with_reducible exact Hs.out) | (with_reducible exact Hs2.out))) | (go_at_call 20; (refine (pubL nm Hnm.out seed Hs.out 1 (by omega) (by omega) _).mono ?_; rintro _ _ ⟨b5, c5, t5, rfl, hc5, hm⟩; rw [Hy.out] at hm; replace hF := hF.took hm; clear hm; have H5 := Lib.hid hc5; clear hc5)) | (go_at_call 28; first | (refine (signL6 nm Hnm.out seed Hs.out 1 2 rfl (by omega) (by omega) k hk2 msg a3 len3 cap3 Hm.out (by omega) (Hs3.out.fr hF)).mono ?_; rintro _ _ ⟨b1, c1, t1, rfl, hc1, hm⟩; rw [Hsg.out] at hm; replace hF := hF.took hm; clear hm; have H1 := Lib.hid hc1; clear hc1) | (refine (signL6 nm Hnm.out sd Hs2.out 1 2 rfl (by omega) (by omega) k hk2 msg a3 len3 cap3 Hm.out (by omega) (Hs3.out.fr hF)).mono ?_; rintro _ _ ⟨b6, c6, t6, rfl, hc6, hm⟩; rw [Hsg2.out] at hm; replace hF := hF.took hm; clear hm; have H6 := Lib.hid hc6; clear hc6)) | ((with_reducible apply wpl_push hF 4 ([] ++ bs msg) (t2) (bs [by_]) (ht := Try.underlying28) (he := byteElem)); (focus (intro _; exact rfl)); (focus exact rfl); (focus (intro _; exact rfl)); (focus (rw [List.nil_append, bs_length]; exact Hm.out)); (focus (have := H2.out; omega)); (focus (first | exact rfl | kernel_rfl)); exact rfl; (focus omega); exact bs_oneCell _; (focus omega); (focus (unfold maxLen; omega)); clear hF; intro b3 c3 t3 _ w3 hc3 hF; have H3 := Lib.hid hc3; clear hc3) | ((with_reducible apply wpl_buildSlice hF (ht := Try.underlying28) (he := byteElem) ([])); (focus omega); (focus (first | exact rfl | kernel_rfl)); clear hF; intro be _ hF) | ((with_reducible apply wpl_append (dst := some 45) hF 4 ([]) ([]) (bs msg) (ht := Try.underlying28) (he := byteElem)); exact rfl; (focus exact rfl); (focus (exact rfl)); (focus (exact rfl)); exact rfl; (focus (rw [bs_length]; exact Hm.out)); (focus (exact Hs3.out.fr hF)); exact bs_oneCell _; (focus omega); (focus (unfold maxLen; omega)); clear hF; intro b2 c2 t2 w2 hc2 hF; have H2 := Lib.hid hc2; clear hc2) | ((with_reducible apply wpl_idxA (T := 24) (hu := Try.underlying24) (he := info_u8_)); exact rfl; exact rfl; (focus omega); (focus omega)) | ((with_reducible apply wpl_loadB hF (T := 5) (hu := Try.underlying5)); exact rfl; (first | exact ⟨0, rfl⟩ | exact ⟨1, rfl⟩ | exact ⟨2, rfl⟩ | exact ⟨3, rfl⟩ | exact ⟨4, rfl⟩ | exact ⟨5, rfl⟩ | exact ⟨6, rfl⟩ | exact ⟨7, rfl⟩ | exact ⟨8, rfl⟩ | exact ⟨9, rfl⟩ | exact ⟨10, rfl⟩ | exact ⟨11, rfl⟩); (focus (rw [Hs.out]; omega))) | ((with_reducible apply wpl_storeB hF 1 (i := 7) (l := seed) (u := gb seed 7 ^^^ by_) (T := 5)); exact rfl; exact rfl; exact rfl; exact info_u8_; (focus (rw [Hs.out]; omega)); clear hF; intro _ hF; rw [Hsd.out] at hF) | (go_at_call 26; first | (refine (checkL y _ _ _ Hyl.out (by have := H5.out; omega) msg a3 len3 cap3 Hm.out (by omega) sg _ _ _ Hsl.out (by have := H1.out; omega) (Sl.pre hF ⟨2, rfl⟩) (Hs3.out.fr hF) (Sl.pre hF ⟨3, rfl⟩)).mono ?_; rintro _ _ ⟨rfl, hb⟩; replace hF := hF.call hb; clear hb; rw [Hck.out]) | (refine (checkL y _ _ _ Hyl.out (by have := H5.out; omega) (msg ++ [by_]) _ _ _ Hol.out (by omega) sg _ _ _ Hsl.out (by have := H1.out; omega) (Sl.pre hF ⟨2, rfl⟩) (by rw [Hoe.out]; exact Sl.pre hF ⟨4, rfl⟩) (Sl.pre hF ⟨3, rfl⟩)).mono ?_; rintro _ _ ⟨rfl, hb⟩; replace hF := hF.call hb; clear hb; rw [He1.out]) | (refine (checkL y _ _ _ Hyl.out (by have := H5.out; omega) msg a3 len3 cap3 Hm.out (by omega) sg2 _ _ _ Hsl2.out (by have := H6.out; omega) (Sl.pre hF ⟨2, rfl⟩) (Hs3.out.fr hF) (Sl.pre hF ⟨5, rfl⟩)).mono ?_; rintro _ _ ⟨rfl, hb⟩; replace hF := hF.call hb; clear hb; rw [He2.out])) | (go_at_call 27; first | (refine (checkR y _ _ _ Hyl.out (by have := H5.out; omega) (msg ++ [by_]) _ _ _ Hol.out (by omega) sg _ _ _ Hsl.out (by have := H1.out; omega) (Sl.pre hF ⟨2, rfl⟩) (by rw [Hoe.out]; exact Sl.pre hF ⟨4, rfl⟩) (Sl.pre hF ⟨3, rfl⟩)).mono ?_; rintro _ _ ⟨rfl, hb⟩; replace hF := hF.call hb; clear hb; rw [He1.out]) | (refine (checkR y _ _ _ Hyl.out (by have := H5.out; omega) msg a3 len3 cap3 Hm.out (by omega) sg2 _ _ _ Hsl2.out (by have := H6.out; omega) (Sl.pre hF ⟨2, rfl⟩) (Hs3.out.fr hF) (Sl.pre hF ⟨5, rfl⟩)).mono ?_; rintro _ _ ⟨rfl, hb⟩; replace hF := hF.call hb; clear hb; rw [He2.out])))
      go_ret
      exact ⟨rfl, hF.below⟩

set_option maxRecDepth 100000 in
theorem LmsOthers_lifted (os : Os) (started : os.Started) (H : Type) (enc : TypeId × Value → H) :
    ReturnsInHanded {} Try.checked os 11 .any (Rows.lmsOthersSpec.pre6 enc Try.prog Try.f11 Rows.lmsOthersRow.domain false) (Rows.lmsOthersSpec.post enc Try.prog Try.f11 false true false false) := by
  refine returnsInHanded_of_change_sized (C := Try.checked) own started (by kernel_rfl) Try.func11
    (ChangeSpec.witness6 (enc := enc) (C := Try.checked) false ⟨#[], #[.agg (Array.replicate 16 (.int .u8 0)), .agg (Array.replicate 32 (.int .u8 0)), .int .i64 0, .slice none 0 0, .int .u8 0], []⟩ 8 (by kernel_rfl) (by kernel_rfl) (by kernel_rfl) (by kernel_rfl)) ?_
  intro W base args ds gs before hval0 hW hcnd hsz0 _
  have hsz : (DataW.weightsEach Try.prog (Try.f11.params.toList ++ Rows.lmsOthersSpec.plain.varTypes Try.prog) (ds ++ gs)).all (· ≤ reachBytes) = true := hsz0
  have hval : ∀ (j : Nat) t v, Try.f11.params[j]? = some t → args[j]? = some v → Value.okWide Try.prog W .any base t v := hval0
  have hW' := hW
  obtain ⟨p, q, hA0, hV, rfl, hfz, hnd⟩ := hW
  have hA : DataW.TrodAll enc Try.prog W 0 (fun _ => true) true Try.f11.params.toList args.toList ds p := hA0
  rw [Try.params11] at hA hval hsz
  obtain ⟨v0, vs0, d0, ds0, p0, q0, hargs, rfl, rfl, h0, r0⟩ := trodAll_cons hA
  obtain ⟨v1, vs1, d1, ds1, p1, q1, rfl, rfl, rfl, h1, r1⟩ := trodAll_cons r0
  obtain ⟨v2, vs2, d2, ds2, p2, q2, rfl, rfl, rfl, h2, r2⟩ := trodAll_cons r1
  obtain ⟨v3, vs3, d3, ds3, p3, q3, rfl, rfl, rfl, h3, r3⟩ := trodAll_cons r2
  obtain ⟨v4, vs4, d4, ds4, p4, q4, rfl, rfl, rfl, h4, r4⟩ := trodAll_cons r3
  obtain ⟨rfl, rfl, rfl⟩ := trodAll_nil r4
  obtain rfl : args = #[v0, v1, v2, v3, v4] := by cases args; simp_all
  obtain ⟨rfl, rfl⟩ := trodVars_none hV
  have k0 := h0
  have lt0 : ∀ x ∈ p0, x.block < W.heap.size := by obtain ⟨m, hm⟩ := k0; exact DataW.trod_lt m _ _ _ hm
  obtain ⟨l0, n0, rfl⟩ := okWide_bytes Try.underlying22 Try.underlying5 (by kernel_rfl) (by kernel_rfl) (hval 0 22 v0 rfl rfl)
  have k1 := h1
  have lt1 : ∀ x ∈ p1, x.block < W.heap.size := by obtain ⟨m, hm⟩ := k1; exact DataW.trod_lt m _ _ _ hm
  obtain ⟨l1, n1, rfl⟩ := okWide_bytes Try.underlying24 Try.underlying5 (by kernel_rfl) (by kernel_rfl) (hval 1 24 v1 rfl rfl)
  have k2 := h2
  have lt2 : ∀ x ∈ p2, x.block < W.heap.size := by obtain ⟨m, hm⟩ := k2; exact DataW.trod_lt m _ _ _ hm
  obtain ⟨l2, rfl, n2⟩ := okWide_i64 Try.underlying3 (hval 2 3 v2 rfl rfl)
  have k3 := h3
  have lt3 : ∀ x ∈ p3, x.block < W.heap.size := by obtain ⟨m, hm⟩ := k3; exact DataW.trod_lt m _ _ _ hm
  obtain ⟨a3, len3, cap3, rfl⟩ := okWide_slice Try.underlying28 (hval 3 28 v3 rfl rfl)
  obtain ⟨z3, n3⟩ : ∃ zs, IsB W a3 len3 cap3 zs := by obtain ⟨fuel, hf⟩ := h3; exact isB_of 3 Try.underlying28 Try.underlying5 (by kernel_rfl) (by kernel_rfl) hf hsz rfl rfl
  have k4 := h4
  have lt4 : ∀ x ∈ p4, x.block < W.heap.size := by obtain ⟨m, hm⟩ := k4; exact DataW.trod_lt m _ _ _ hm
  obtain ⟨l4, rfl⟩ := okWide_u8 Try.underlying5 (hval 4 5 v4 rfl rfl)
  clear hA0 hval0 hcnd hsz hsz0
  refine (LmsOthers_walk l0 l1 l2 a3 len3 cap3 z3 l4 n0 n1 n2.1 n2.2 n3 ).mono fun e W' ⟨he, bel⟩ => ?_
  subst he
  exact ⟨_, rfl, _, _, _, [], _, [], hW', trodAll_mk1 (shut_bool Try.underlying4 _), (trodAll_cons_mk (Below.trod laidOut (by kernel_rfl) (of_decide_eq_true (by kernel_rfl)) k0 bel lt0) (trodAll_cons_mk (Below.trod laidOut (by kernel_rfl) (of_decide_eq_true (by kernel_rfl)) k1 bel lt1) (trodAll_cons_mk (Below.trod laidOut (by kernel_rfl) (of_decide_eq_true (by kernel_rfl)) k2 bel lt2) (trodAll_cons_mk (Below.trod laidOut (by kernel_rfl) (of_decide_eq_true (by kernel_rfl)) k3 bel lt3) (trodAll_cons_mk (Below.trod laidOut (by kernel_rfl) (of_decide_eq_true (by kernel_rfl)) k4 bel lt4) trodAll_mk0))))), rfl, bel.frame _, fun h => by cases h⟩

theorem LmsOthers_over : Rows.lmsOthersRow.holds Try.pinned (OpenSpec.ofChange Rows.lmsOthersSpec) :=
  OpenClaim.holds_of_wide 11 Try.f11 rfl rfl rfl rfl rfl rfl rfl ⟨rfl, rfl, rfl, rfl, rfl⟩ rfl rfl rfl rfl rfl (by kernel_rfl) Try.func11 (by kernel_rfl)
    (of_decide_eq_true (by kernel_rfl)) (by unfold Func.isWrapper; first | (rw [if_pos (by decide +kernel)]; kernel_rfl) | (rw [if_neg (by decide +kernel)]; exact ⟨rfl, rfl⟩))
    (fun os started H enc _ => LmsOthers_lifted os started H enc)

theorem LmsOthers_holds : Rows.LmsOthersSaid := LmsOthers_over
#print axioms LmsOthers_holds
end Go.Proofs.Ytbnjgldilckhpaa
