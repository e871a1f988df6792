/-
  LmsLeaves: for any name, seed, height (1 or 2) and text of at most 50 bytes each leaf of the tree signs, right by the one public key; behind the last there is none; a leaf's signature with another leaf's number is right or not as the document says. No conditions.
-/
import Derived.Test.YtbnjgldilckhpaaLmsCheck
namespace Go.Proofs.Ytbnjgldilckhpaa
set_option linter.unusedSimpArgs false
set_option linter.unusedVariables false
open Go.ChangeShapes Go.WideShapes Go.ChangeAt Go.RowKit
attribute [local irreducible] wpQuiet Calls wpLine wpSeq
set_option maxRecDepth 4000

@[go_sem high] theorem binOp_xor_B1 (t : TypeId) (x : UInt8) : binOp .xor t (B x) (.int .u8 1) = pure (B (x ^^^ 1)) := binOp_xor_B t x 1

set_option maxHeartbeats 8000000 in
theorem LmsLeaves_walk (nm seed : List UInt8) (h : Int) (a3 : Option Addr) (len3 cap3 : Nat) (msg : List UInt8) {w : World} (hnm : nm.length = 16) (hs : seed.length = 32) (h0 : -9223372036854775808 ≤ h) (h1 : h ≤ 9223372036854775807) (n3 : IsB w a3 len3 cap3 msg) :
    Calls Try.prog 12 #[agg nm, agg seed, .int .i64 h, .slice a3 len3 cap3] w fun e w' => e = .returned (.bool true) ∧ Below w.heap.size w w' := by
  have hF := Fr.start w
  obtain ⟨m1, c4, r4, s4⟩ := n3
  have Hnm := Lib.hid hnm
  have Hs := Lib.hid hs
  have Hm := Lib.hid m1
  have Hs3 := Lib.hid s4
  have Hh := Lib.hid (And.intro h0 h1)
  clear hnm hs m1 s4 h0 h1
  by_cases hb : len3 > 50
  · have hb' : (50 : Int) < (len3 : Int) := by omega
    go_enter Try.func12, Try.ntmps12
    go_wp2_with (first | ((with_reducible apply wpl_box (x := Operand.tmp 0) hF); exact rfl; clear hF; intro bn _ hF) | ((with_reducible apply wpl_box (x := Operand.tmp 1) hF); exact rfl; clear hF; intro bd _ hF) | (go_at_call 19; refine (known6 _).mono ?_; rintro _ _ ⟨rfl, hb⟩; replace hF := hF.call hb; clear hb))
    go_ret
    exact ⟨rfl, hF.below⟩
  · have hb' : ¬ (50 : Int) < (len3 : Int) := by omega
    have hl50 : len3 ≤ 50 := by omega
    have Hl50 := Lib.hid hl50
    clear hb hl50
    rcases (show h % 2 = 0 ∨ h % 2 = 1 by omega) with hk | hk
    · have Hk := Lib.hid hk
      clear hk
      obtain ⟨y, hy⟩ : ∃ y, lpub nm seed 1 = y := ⟨_, rfl⟩
      have Hy := Lib.hid hy
      have Hyl := Lib.hid (show y.length = 56 by rw [← hy]; exact lpub_length Hnm.out 1)
      clear hy
      go_enter Try.func12, Try.ntmps12
      go_wp2_with (first | ((with_reducible apply wpl_box (x := Operand.tmp 0) hF); exact rfl; clear hF; intro bn _ hF) | ((with_reducible apply wpl_box (x := Operand.tmp 1) hF); exact rfl; clear hF; intro bd _ hF) | (go_at_call 19; refine (known6 _).mono ?_; rintro _ _ ⟨rfl, hb⟩; replace hF := hF.call hb; clear hb) | (go_at_call 25; refine (within6 _ _ (by omega) (by omega) Hh.out.1 Hh.out.2 _).mono ?_; rintro _ _ ⟨rfl, hww⟩; rw [Hk.out]; subst hww) | ((with_reducible apply wpl_load hF (T := 22) (hu := Try.underlying22)); exact rfl; (first | exact ⟨0, rfl⟩ | exact ⟨1, rfl⟩ | exact ⟨2, rfl⟩ | exact ⟨3, rfl⟩ | exact ⟨4, rfl⟩ | exact ⟨5, rfl⟩ | exact ⟨6, rfl⟩ | exact ⟨7, rfl⟩ | exact ⟨8, rfl⟩ | exact ⟨9, rfl⟩ | exact ⟨10, rfl⟩ | exact ⟨11, rfl⟩); exact info_nm Hnm.out) | ((with_reducible apply wpl_load hF (T := 24) (hu := Try.underlying24)); exact rfl; (first | exact ⟨0, rfl⟩ | exact ⟨1, rfl⟩ | exact ⟨2, rfl⟩ | exact ⟨3, rfl⟩ | exact ⟨4, rfl⟩ | exact ⟨5, rfl⟩ | exact ⟨6, rfl⟩ | exact ⟨7, rfl⟩ | exact ⟨8, rfl⟩ | exact ⟨9, rfl⟩ | exact ⟨10, rfl⟩ | exact ⟨11, rfl⟩); exact info_idl Hs.out) | (go_at_call 20; (refine (pubL nm Hnm.out seed Hs.out 1 (by omega) (by omega) _).mono ?_; rintro _ _ ⟨b5, c5, t5, rfl, hc5, hm⟩; rw [Hy.out] at hm; replace hF := hF.took hm; clear hm; have H5 := Lib.hid hc5; clear hc5)))
      have hF0 : Fr w _ [⟨bn, bs nm, 22⟩, ⟨bd, bs seed, 24⟩, ⟨b5, bs y ++ t5, 5⟩] := hF
      clear hF
      go_loopw [11] (fun v wr => ∃ i : Nat, i ≤ 2 ∧ v = .int .i64 i ∧ Fr w wr [⟨bn, bs nm, 22⟩, ⟨bd, bs seed, 24⟩, ⟨b5, bs y ++ t5, 5⟩]) (fun v _ => 2 - (intOf v).toNat)
      case atStart => exact ⟨0, by omega, rfl, hF0⟩
      case round =>
        clear hF0
        obtain ⟨i, hi, rfl, hF⟩ := hrel
        by_cases hlt : i < 2
        · have d1 : (0 : Int) ≤ (i : Int) := by omega
          have d2 : (i : Int) ≤ 2 := by omega
          have d3 : ((i : Int) == 2) = false := by simp; omega
          have d4 : decide ((i : Int) = 2) = false := by simp; omega
          have d5 : ¬ (i : Int) = 2 := by omega
          obtain ⟨sg, hsg⟩ : ∃ s, lsig nm seed 1 i msg = s := ⟨_, rfl⟩
          have Hsg := Lib.hid hsg
          have Hsl := Lib.hid (show sg.length = 4332 by rw [← hsg]; exact lsig_length hlt)
          have Hck := Lib.hid (show lcheck y msg sg = 0 by rw [← Hy.out, ← hsg]; exact lcheck_sign Hnm.out (by omega) (by omega) hlt)
          obtain ⟨g, hg⟩ : ∃ g, gb sg 3 = g := ⟨_, rfl⟩
          have Hg := Lib.hid (show ∀ t : List Value, (bs sg ++ t)[3]? = some (B g) by
            intro t
            rw [List.getElem?_append_left (by rw [bs_length, Hsl.out]; omega), bs_get (by rw [Hsl.out]; omega), hg])
          obtain ⟨sg2, hs2⟩ : ∃ x, x = sg.set 3 (g ^^^ 1) := ⟨_, rfl⟩
          have Hsl2 := Lib.hid (show sg2.length = 4332 by rw [hs2, List.length_set]; exact Hsl.out)
          have Hset := Lib.hid (show ∀ t : List Value, (bs sg ++ t).set 3 (B (g ^^^ 1)) = bs sg2 ++ t by
            intro t
            rw [List.set_append_left _ _ (by rw [bs_length, Hsl.out]; omega), bs_set, hs2])
          obtain ⟨e2, he2⟩ : ∃ e, lcheck y msg sg2 = e := ⟨_, rfl⟩
          have He2 := Lib.hid he2
          have hz2 : (e2 != e2) = false := by simp
          clear hsg hg hs2 he2
          go_wp2_with (first | ((with_reducible apply wpl_load hF (T := 22) (hu := Try.underlying22)); exact rfl; (first | exact ⟨0, rfl⟩ | exact ⟨1, rfl⟩ | exact ⟨2, rfl⟩ | exact ⟨3, rfl⟩ | exact ⟨4, rfl⟩ | exact ⟨5, rfl⟩ | exact ⟨6, rfl⟩ | exact ⟨7, rfl⟩ | exact ⟨8, rfl⟩ | exact ⟨9, rfl⟩ | exact ⟨10, rfl⟩ | exact ⟨11, rfl⟩); exact info_nm Hnm.out) | ((with_reducible apply wpl_load hF (T := 24) (hu := Try.underlying24)); exact rfl; (first | exact ⟨0, rfl⟩ | exact ⟨1, rfl⟩ | exact ⟨2, rfl⟩ | exact ⟨3, rfl⟩ | exact ⟨4, rfl⟩ | exact ⟨5, rfl⟩ | exact ⟨6, rfl⟩ | exact ⟨7, rfl⟩ | exact ⟨8, rfl⟩ | exact ⟨9, rfl⟩ | exact ⟨10, rfl⟩ | exact ⟨11, rfl⟩); exact info_idl Hs.out) | (go_at_call 28; refine (signL6 nm Hnm.out seed Hs.out 1 2 rfl (by omega) (by omega) i hlt msg a3 len3 cap3 Hm.out (by have := Hl50.out; omega) (Hs3.out.fr hF)).mono ?_; rintro _ _ ⟨b1, c1, t1, rfl, hc1, hm⟩; rw [Hsg.out] at hm; replace hF := hF.took hm; clear hm; have H1 := Lib.hid hc1; clear hc1) | (go_at_call 26; first | (refine (checkL y _ _ _ Hyl.out (by have := H5.out; omega) msg a3 len3 cap3 Hm.out (by have := Hl50.out; omega) sg _ _ _ Hsl.out (by have := H1.out; omega) (Sl.pre hF ⟨2, rfl⟩) (Hs3.out.fr hF) (Sl.pre hF ⟨3, rfl⟩)).mono ?_; rintro _ _ ⟨rfl, hb⟩; replace hF := hF.call hb; clear hb; rw [Hck.out]) | (refine (checkL y _ _ _ Hyl.out (by have := H5.out; omega) msg a3 len3 cap3 Hm.out (by have := Hl50.out; omega) sg2 _ _ _ Hsl2.out (by have := H1.out; omega) (Sl.pre hF ⟨2, rfl⟩) (Hs3.out.fr hF) (Sl.pre hF ⟨3, rfl⟩)).mono ?_; rintro _ _ ⟨rfl, hb⟩; replace hF := hF.call hb; clear hb; rw [He2.out])) | (go_at_call 27; refine (checkR y _ _ _ Hyl.out (by have := H5.out; omega) msg a3 len3 cap3 Hm.out (by have := Hl50.out; omega) sg2 _ _ _ Hsl2.out (by have := H1.out; omega) (Sl.pre hF ⟨2, rfl⟩) (Hs3.out.fr hF) (Sl.pre hF ⟨3, rfl⟩)).mono ?_; rintro _ _ ⟨rfl, hb⟩; replace hF := hF.call hb; clear hb; rw [He2.out]) | ((with_reducible apply wpl_idxS (T := 28) (hu := Try.underlying28) (he := info_u8_)); exact rfl; exact rfl; (focus omega); (focus omega); rw [show 0 + (3 : Int).toNat = 3 from rfl]) | ((with_reducible apply wpl_loadV hF (T := 5) (hu := Try.underlying5)); exact rfl; (first | exact ⟨0, rfl⟩ | exact ⟨1, rfl⟩ | exact ⟨2, rfl⟩ | exact ⟨3, rfl⟩ | exact ⟨4, rfl⟩ | exact ⟨5, rfl⟩ | exact ⟨6, rfl⟩ | exact ⟨7, rfl⟩ | exact ⟨8, rfl⟩ | exact ⟨9, rfl⟩ | exact ⟨10, rfl⟩ | exact ⟨11, rfl⟩); exact Hg.out _) | ((with_reducible apply wpl_storeV hF 3 (T := 5) (u := B (g ^^^ 1))); exact rfl; exact rfl; exact rfl; exact info_u8_; exact Hg.out _; exact rfl; clear hF; intro _ hF; rw [Hset.out] at hF) | go_skip | ((with_reducible refine wpl_unguard ?_ ?_); (focus (go_simp; done))))
          go_roundw
          case rel => exact ⟨i + 1, by omega, by go_num, hF.sub (List.sublist_append_left [_, _, _] _)⟩
          case measure => simp [intOf]; omega
        · obtain rfl : i = 2 := by omega
          clear hlt
          go_wp2_with (first | ((with_reducible apply wpl_load hF (T := 22) (hu := Try.underlying22)); exact rfl; (first | exact ⟨0, rfl⟩ | exact ⟨1, rfl⟩ | exact ⟨2, rfl⟩ | exact ⟨3, rfl⟩ | exact ⟨4, rfl⟩ | exact ⟨5, rfl⟩ | exact ⟨6, rfl⟩ | exact ⟨7, rfl⟩ | exact ⟨8, rfl⟩ | exact ⟨9, rfl⟩ | exact ⟨10, rfl⟩ | exact ⟨11, rfl⟩); exact info_nm Hnm.out) | ((with_reducible apply wpl_load hF (T := 24) (hu := Try.underlying24)); exact rfl; (first | exact ⟨0, rfl⟩ | exact ⟨1, rfl⟩ | exact ⟨2, rfl⟩ | exact ⟨3, rfl⟩ | exact ⟨4, rfl⟩ | exact ⟨5, rfl⟩ | exact ⟨6, rfl⟩ | exact ⟨7, rfl⟩ | exact ⟨8, rfl⟩ | exact ⟨9, rfl⟩ | exact ⟨10, rfl⟩ | exact ⟨11, rfl⟩); exact info_idl Hs.out) | (go_at_call 28; refine (signBadL nm Hnm.out seed Hs.out 1 2 rfl (by omega) (by omega) 2 (by omega) a3 len3 cap3 _).mono ?_; rintro _ _ ⟨rfl, hb⟩; replace hF := hF.call hb; clear hb) | go_skip | ((with_reducible refine wpl_unguard ?_ ?_); (focus (go_simp; done))))
          go_ret
          exact ⟨rfl, hF.below⟩
    · have Hk := Lib.hid hk
      clear hk
      obtain ⟨y, hy⟩ : ∃ y, lpub nm seed 2 = y := ⟨_, rfl⟩
      have Hy := Lib.hid hy
      have Hyl := Lib.hid (show y.length = 56 by rw [← hy]; exact lpub_length Hnm.out 2)
      clear hy
      go_enter Try.func12, Try.ntmps12
      go_wp2_with (first | ((with_reducible apply wpl_box (x := Operand.tmp 0) hF); exact rfl; clear hF; intro bn _ hF) | ((with_reducible apply wpl_box (x := Operand.tmp 1) hF); exact rfl; clear hF; intro bd _ hF) | (go_at_call 19; refine (known6 _).mono ?_; rintro _ _ ⟨rfl, hb⟩; replace hF := hF.call hb; clear hb) | (go_at_call 25; refine (within6 _ _ (by omega) (by omega) Hh.out.1 Hh.out.2 _).mono ?_; rintro _ _ ⟨rfl, hww⟩; rw [Hk.out]; subst hww) | ((with_reducible apply wpl_load hF (T := 22) (hu := Try.underlying22)); exact rfl; (first | exact ⟨0, rfl⟩ | exact ⟨1, rfl⟩ | exact ⟨2, rfl⟩ | exact ⟨3, rfl⟩ | exact ⟨4, rfl⟩ | exact ⟨5, rfl⟩ | exact ⟨6, rfl⟩ | exact ⟨7, rfl⟩ | exact ⟨8, rfl⟩ | exact ⟨9, rfl⟩ | exact ⟨10, rfl⟩ | exact ⟨11, rfl⟩); exact info_nm Hnm.out) | ((with_reducible apply wpl_load hF (T := 24) (hu := Try.underlying24)); exact rfl; (first | exact ⟨0, rfl⟩ | exact ⟨1, rfl⟩ | exact ⟨2, rfl⟩ | exact ⟨3, rfl⟩ | exact ⟨4, rfl⟩ | exact ⟨5, rfl⟩ | exact ⟨6, rfl⟩ | exact ⟨7, rfl⟩ | exact ⟨8, rfl⟩ | exact ⟨9, rfl⟩ | exact ⟨10, rfl⟩ | exact ⟨11, rfl⟩); exact info_idl Hs.out) | (go_at_call 20; (refine (pubL nm Hnm.out seed Hs.out 2 (by omega) (by omega) _).mono ?_; rintro _ _ ⟨b5, c5, t5, rfl, hc5, hm⟩; rw [Hy.out] at hm; replace hF := hF.took hm; clear hm; have H5 := Lib.hid hc5; clear hc5)))
      have hF0 : Fr w _ [⟨bn, bs nm, 22⟩, ⟨bd, bs seed, 24⟩, ⟨b5, bs y ++ t5, 5⟩] := hF
      clear hF
      go_loopw [11] (fun v wr => ∃ i : Nat, i ≤ 4 ∧ v = .int .i64 i ∧ Fr w wr [⟨bn, bs nm, 22⟩, ⟨bd, bs seed, 24⟩, ⟨b5, bs y ++ t5, 5⟩]) (fun v _ => 4 - (intOf v).toNat)
      case atStart => exact ⟨0, by omega, rfl, hF0⟩
      case round =>
        clear hF0
        obtain ⟨i, hi, rfl, hF⟩ := hrel
        by_cases hlt : i < 4
        · have d1 : (0 : Int) ≤ (i : Int) := by omega
          have d2 : (i : Int) ≤ 4 := by omega
          have d3 : ((i : Int) == 4) = false := by simp; omega
          have d4 : decide ((i : Int) = 4) = false := by simp; omega
          have d5 : ¬ (i : Int) = 4 := by omega
          obtain ⟨sg, hsg⟩ : ∃ s, lsig nm seed 2 i msg = s := ⟨_, rfl⟩
          have Hsg := Lib.hid hsg
          have Hsl := Lib.hid (show sg.length = 4364 by rw [← hsg]; exact lsig_length hlt)
          have Hck := Lib.hid (show lcheck y msg sg = 0 by rw [← Hy.out, ← hsg]; exact lcheck_sign Hnm.out (by omega) (by omega) hlt)
          obtain ⟨g, hg⟩ : ∃ g, gb sg 3 = g := ⟨_, rfl⟩
          have Hg := Lib.hid (show ∀ t : List Value, (bs sg ++ t)[3]? = some (B g) by
            intro t
            rw [List.getElem?_append_left (by rw [bs_length, Hsl.out]; omega), bs_get (by rw [Hsl.out]; omega), hg])
          obtain ⟨sg2, hs2⟩ : ∃ x, x = sg.set 3 (g ^^^ 1) := ⟨_, rfl⟩
          have Hsl2 := Lib.hid (show sg2.length = 4364 by rw [hs2, List.length_set]; exact Hsl.out)
          have Hset := Lib.hid (show ∀ t : List Value, (bs sg ++ t).set 3 (B (g ^^^ 1)) = bs sg2 ++ t by
            intro t
            rw [List.set_append_left _ _ (by rw [bs_length, Hsl.out]; omega), bs_set, hs2])
          obtain ⟨e2, he2⟩ : ∃ e, lcheck y msg sg2 = e := ⟨_, rfl⟩
          have He2 := Lib.hid he2
          have hz2 : (e2 != e2) = false := by simp
          clear hsg hg hs2 he2
          go_wp2_with (first | ((with_reducible apply wpl_load hF (T := 22) (hu := Try.underlying22)); exact rfl; (first | exact ⟨0, rfl⟩ | exact ⟨1, rfl⟩ | exact ⟨2, rfl⟩ | exact ⟨3, rfl⟩ | exact ⟨4, rfl⟩ | exact ⟨5, rfl⟩ | exact ⟨6, rfl⟩ | exact ⟨7, rfl⟩ | exact ⟨8, rfl⟩ | exact ⟨9, rfl⟩ | exact ⟨10, rfl⟩ | exact ⟨11, rfl⟩); exact info_nm Hnm.out) | ((with_reducible apply wpl_load hF (T := 24) (hu := Try.underlying24)); exact rfl; (first | exact ⟨0, rfl⟩ | exact ⟨1, rfl⟩ | exact ⟨2, rfl⟩ | exact ⟨3, rfl⟩ | exact ⟨4, rfl⟩ | exact ⟨5, rfl⟩ | exact ⟨6, rfl⟩ | exact ⟨7, rfl⟩ | exact ⟨8, rfl⟩ | exact ⟨9, rfl⟩ | exact ⟨10, rfl⟩ | exact ⟨11, rfl⟩); exact info_idl Hs.out) | (go_at_call 28; refine (signL6 nm Hnm.out seed Hs.out 2 4 rfl (by omega) (by omega) i hlt msg a3 len3 cap3 Hm.out (by have := Hl50.out; omega) (Hs3.out.fr hF)).mono ?_; rintro _ _ ⟨b1, c1, t1, rfl, hc1, hm⟩; rw [Hsg.out] at hm; replace hF := hF.took hm; clear hm; have H1 := Lib.hid hc1; clear hc1) | (go_at_call 26; first | (refine (checkL y _ _ _ Hyl.out (by have := H5.out; omega) msg a3 len3 cap3 Hm.out (by have := Hl50.out; omega) sg _ _ _ Hsl.out (by have := H1.out; omega) (Sl.pre hF ⟨2, rfl⟩) (Hs3.out.fr hF) (Sl.pre hF ⟨3, rfl⟩)).mono ?_; rintro _ _ ⟨rfl, hb⟩; replace hF := hF.call hb; clear hb; rw [Hck.out]) | (refine (checkL y _ _ _ Hyl.out (by have := H5.out; omega) msg a3 len3 cap3 Hm.out (by have := Hl50.out; omega) sg2 _ _ _ Hsl2.out (by have := H1.out; omega) (Sl.pre hF ⟨2, rfl⟩) (Hs3.out.fr hF) (Sl.pre hF ⟨3, rfl⟩)).mono ?_; rintro _ _ ⟨rfl, hb⟩; replace hF := hF.call hb; clear hb; rw [He2.out])) | (go_at_call 27; refine (checkR y _ _ _ Hyl.out (by have := H5.out; omega) msg a3 len3 cap3 Hm.out (by have := Hl50.out; omega) sg2 _ _ _ Hsl2.out (by have := H1.out; omega) (Sl.pre hF ⟨2, rfl⟩) (Hs3.out.fr hF) (Sl.pre hF ⟨3, rfl⟩)).mono ?_; rintro _ _ ⟨rfl, hb⟩; replace hF := hF.call hb; clear hb; rw [He2.out]) | ((with_reducible apply wpl_idxS (T := 28) (hu := Try.underlying28) (he := info_u8_)); exact rfl; exact rfl; (focus omega); (focus omega); rw [show 0 + (3 : Int).toNat = 3 from rfl]) | ((with_reducible apply wpl_loadV hF (T := 5) (hu := Try.underlying5)); exact rfl; (first | exact ⟨0, rfl⟩ | exact ⟨1, rfl⟩ | exact ⟨2, rfl⟩ | exact ⟨3, rfl⟩ | exact ⟨4, rfl⟩ | exact ⟨5, rfl⟩ | exact ⟨6, rfl⟩ | exact ⟨7, rfl⟩ | exact ⟨8, rfl⟩ | exact ⟨9, rfl⟩ | exact ⟨10, rfl⟩ | exact ⟨11, rfl⟩); exact Hg.out _) | ((with_reducible apply wpl_storeV hF 3 (T := 5) (u := B (g ^^^ 1))); exact rfl; exact rfl; exact rfl; exact info_u8_; exact Hg.out _; exact rfl; clear hF; intro _ hF; rw [Hset.out] at hF) | go_skip | ((with_reducible refine wpl_unguard ?_ ?_); (focus (go_simp; done))))
          go_roundw
          case rel => exact ⟨i + 1, by omega, by go_num, hF.sub (List.sublist_append_left [_, _, _] _)⟩
          case measure => simp [intOf]; omega
        · obtain rfl : i = 4 := by omega
          clear hlt
          go_wp2_with (first | ((with_reducible apply wpl_load hF (T := 22) (hu := Try.underlying22)); exact rfl; (first | exact ⟨0, rfl⟩ | exact ⟨1, rfl⟩ | exact ⟨2, rfl⟩ | exact ⟨3, rfl⟩ | exact ⟨4, rfl⟩ | exact ⟨5, rfl⟩ | exact ⟨6, rfl⟩ | exact ⟨7, rfl⟩ | exact ⟨8, rfl⟩ | exact ⟨9, rfl⟩ | exact ⟨10, rfl⟩ | exact ⟨11, rfl⟩); exact info_nm Hnm.out) | ((with_reducible apply wpl_load hF (T := 24) (hu := Try.underlying24)); exact rfl; (first | exact ⟨0, rfl⟩ | exact ⟨1, rfl⟩ | exact ⟨2, rfl⟩ | exact ⟨3, rfl⟩ | exact ⟨4, rfl⟩ | exact ⟨5, rfl⟩ | exact ⟨6, rfl⟩ | exact ⟨7, rfl⟩ | exact ⟨8, rfl⟩ | exact ⟨9, rfl⟩ | exact ⟨10, rfl⟩ | exact ⟨11, rfl⟩); exact info_idl Hs.out) | (go_at_call 28; refine (signBadL nm Hnm.out seed Hs.out 2 4 rfl (by omega) (by omega) 4 (by omega) a3 len3 cap3 _).mono ?_; rintro _ _ ⟨rfl, hb⟩; replace hF := hF.call hb; clear hb) | go_skip | ((with_reducible refine wpl_unguard ?_ ?_); (focus (go_simp; done))))
          go_ret
          exact ⟨rfl, hF.below⟩

set_option maxRecDepth 100000 in
theorem LmsLeaves_lifted (os : Os) (started : os.Started) (H : Type) (enc : TypeId × Value → H) :
    ReturnsInHanded {} Try.checked os 12 .any (Rows.lmsLeavesSpec.pre6 enc Try.prog Try.f12 Rows.lmsLeavesRow.domain false) (Rows.lmsLeavesSpec.post enc Try.prog Try.f12 false true false false) := by
  refine returnsInHanded_of_change_sized (C := Try.checked) own started (by kernel_rfl) Try.func12
    (ChangeSpec.witness6 (enc := enc) (C := Try.checked) false ⟨#[], #[.agg (Array.replicate 16 (.int .u8 0)), .agg (Array.replicate 32 (.int .u8 0)), .int .i64 0, .slice none 0 0], []⟩ 8 (by kernel_rfl) (by kernel_rfl) (by kernel_rfl) (by kernel_rfl)) ?_
  intro W base args ds gs before hval0 hW hcnd hsz0 _
  have hsz : (DataW.weightsEach Try.prog (Try.f12.params.toList ++ Rows.lmsLeavesSpec.plain.varTypes Try.prog) (ds ++ gs)).all (· ≤ reachBytes) = true := hsz0
  have hval : ∀ (j : Nat) t v, Try.f12.params[j]? = some t → args[j]? = some v → Value.okWide Try.prog W .any base t v := hval0
  have hW' := hW
  obtain ⟨p, q, hA0, hV, rfl, hfz, hnd⟩ := hW
  have hA : DataW.TrodAll enc Try.prog W 0 (fun _ => true) true Try.f12.params.toList args.toList ds p := hA0
  rw [Try.params12] at hA hval hsz
  obtain ⟨v0, vs0, d0, ds0, p0, q0, hargs, rfl, rfl, h0, r0⟩ := trodAll_cons hA
  obtain ⟨v1, vs1, d1, ds1, p1, q1, rfl, rfl, rfl, h1, r1⟩ := trodAll_cons r0
  obtain ⟨v2, vs2, d2, ds2, p2, q2, rfl, rfl, rfl, h2, r2⟩ := trodAll_cons r1
  obtain ⟨v3, vs3, d3, ds3, p3, q3, rfl, rfl, rfl, h3, r3⟩ := trodAll_cons r2
  obtain ⟨rfl, rfl, rfl⟩ := trodAll_nil r3
  obtain rfl : args = #[v0, v1, v2, v3] := by cases args; simp_all
  obtain ⟨rfl, rfl⟩ := trodVars_none hV
  have k0 := h0
  have lt0 : ∀ x ∈ p0, x.block < W.heap.size := by obtain ⟨m, hm⟩ := k0; exact DataW.trod_lt m _ _ _ hm
  obtain ⟨l0, n0, rfl⟩ := okWide_bytes Try.underlying22 Try.underlying5 (by kernel_rfl) (by kernel_rfl) (hval 0 22 v0 rfl rfl)
  have k1 := h1
  have lt1 : ∀ x ∈ p1, x.block < W.heap.size := by obtain ⟨m, hm⟩ := k1; exact DataW.trod_lt m _ _ _ hm
  obtain ⟨l1, n1, rfl⟩ := okWide_bytes Try.underlying24 Try.underlying5 (by kernel_rfl) (by kernel_rfl) (hval 1 24 v1 rfl rfl)
  have k2 := h2
  have lt2 : ∀ x ∈ p2, x.block < W.heap.size := by obtain ⟨m, hm⟩ := k2; exact DataW.trod_lt m _ _ _ hm
  obtain ⟨l2, rfl, n2⟩ := okWide_i64 Try.underlying3 (hval 2 3 v2 rfl rfl)
  have k3 := h3
  have lt3 : ∀ x ∈ p3, x.block < W.heap.size := by obtain ⟨m, hm⟩ := k3; exact DataW.trod_lt m _ _ _ hm
  obtain ⟨a3, len3, cap3, rfl⟩ := okWide_slice Try.underlying28 (hval 3 28 v3 rfl rfl)
  obtain ⟨z3, n3⟩ : ∃ zs, IsB W a3 len3 cap3 zs := by obtain ⟨fuel, hf⟩ := h3; exact isB_of 3 Try.underlying28 Try.underlying5 (by kernel_rfl) (by kernel_rfl) hf hsz rfl rfl
  clear hA0 hval0 hcnd hsz hsz0
  refine (LmsLeaves_walk l0 l1 l2 a3 len3 cap3 z3 n0 n1 n2.1 n2.2 n3).mono fun e W' ⟨he, bel⟩ => ?_
  subst he
  exact ⟨_, rfl, _, _, _, [], _, [], hW', trodAll_mk1 (shut_bool Try.underlying4 _), (trodAll_cons_mk (Below.trod laidOut (by kernel_rfl) (of_decide_eq_true (by kernel_rfl)) k0 bel lt0) (trodAll_cons_mk (Below.trod laidOut (by kernel_rfl) (of_decide_eq_true (by kernel_rfl)) k1 bel lt1) (trodAll_cons_mk (Below.trod laidOut (by kernel_rfl) (of_decide_eq_true (by kernel_rfl)) k2 bel lt2) (trodAll_cons_mk (Below.trod laidOut (by kernel_rfl) (of_decide_eq_true (by kernel_rfl)) k3 bel lt3) trodAll_mk0)))), rfl, bel.frame _, fun h => by cases h⟩

theorem LmsLeaves_over : Rows.lmsLeavesRow.holds Try.pinned (OpenSpec.ofChange Rows.lmsLeavesSpec) :=
  OpenClaim.holds_of_wide 12 Try.f12 rfl rfl rfl rfl rfl rfl rfl ⟨rfl, rfl, rfl, rfl, rfl⟩ rfl rfl rfl rfl rfl (by kernel_rfl) Try.func12 (by kernel_rfl)
    (of_decide_eq_true (by kernel_rfl)) (by unfold Func.isWrapper; first | (rw [if_pos (by decide +kernel)]; kernel_rfl) | (rw [if_neg (by decide +kernel)]; exact ⟨rfl, rfl⟩))
    (fun os started H enc _ => LmsLeaves_lifted os started H enc)

theorem LmsLeaves_holds : Rows.LmsLeavesSaid := LmsLeaves_over
#print axioms LmsLeaves_holds
end Go.Proofs.Ytbnjgldilckhpaa
