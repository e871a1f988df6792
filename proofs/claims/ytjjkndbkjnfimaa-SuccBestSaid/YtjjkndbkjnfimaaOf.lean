/-
  THE WALKS of ident.Of and latticeref2.Of: both come to the hash of "node" and the node's byte.
-/
import Derived.Test.YtjjkndbkjnfimaaNodes
import Derived.Test.YtjjkndbkjnfimaaRefSum
import Derived.Test.YtjjkndbkjnfimaaConst
namespace Go.Proofs.Ytjjkndbkjnfimaa
set_option linter.unusedSimpArgs false
set_option linter.unusedVariables false
open Go.RowKit
attribute [local irreducible] wpQuiet Calls
set_option maxRecDepth 4000

theorem wpl_eqbytes2 {P : Program} {ops : Array Oper} {rest : List Oper} {Q : Exit → Act → World → Prop} {a : Act} {w : World} {dst : Option Tmp} {x y : Operand} {T ty T' : TypeId} {pos : String} {after : Array Edge} {t u : List UInt8} (hx : a.eval x = .agg (bs t).toArray) (hy : a.eval y = .agg (bs u).toArray)
    (hg : P.eqGuardType P.depth T = false) (hq : ∀ w, (Op.equalIn 10000 T (.agg (bs t).toArray) (.agg (bs u).toArray)).run P w = .ok (decide (t = u)) w)
    (h : wpList P ops Q rest (a.put dst (.bool (decide (t = u)))) w) :
    wpList P ops Q (⟨dst, .binOp .eql T x y T', ty, pos, after, none⟩ :: rest) a w :=
  wpl_pure (fun w => by simp [execOp, hx, hy, run_eqGuard_agg w _ T _ _ _ _ hg, run_eql_struct, hq]) h

set_option maxHeartbeats 1000000 in
theorem refOf (n : Int) (w : World) : Calls Try.prog 13 #[.int .i64 n] w fun e w' => e = .returned (agg (nodeId (b8 n))) ∧ Below w.heap.size w w' := by
  have hF := Fr.start w
  have Hn := Lib.hid (nodeId_length (b8 n))
  go_enter Try.func13, Try.ntmps13
  go_wp2_with (first | ((with_reducible refine wpl_alloc (dst := some 2) hF (bs zeros) (T := 30) (hz := Try.zeroValue30) ?_ ?_); exact rfl; clear hF; intro bo _ hF) | ((with_reducible apply wpl_const hF (bs [110, 111, 100, 101]) (ht := Try.underlying43) (he := byteElem) (hu := Try.underlying5)); (focus (intro _; exact rfl)); (focus (first | exact rfl | kernel_rfl)); (focus omega); clear hF; intro bc _ hF hsl) | ((with_reducible apply wpl_pushFrom hF (bs [110, 111, 100, 101]) (bs [b8 n]) (ht := Try.underlying43) (he := byteElem)); (focus (intro _; exact rfl)); (focus (intro _; exact rfl)); exact rfl; exact hsl; (focus (first | exact rfl | kernel_rfl)); exact rfl; (focus omega); (focus omega); exact bs_oneCell _; (focus omega); (focus (unfold maxLen; omega)); clear hF hsl; intro bt ct tt _ _ hct hF; clear hct) | (go_at_call 26; refine (refSum [110, 111, 100, 101, b8 n] _ 5 _ rfl _ (Sl.pre hF (cs := bs [110, 111, 100, 101, b8 n]) (t := 5) ⟨1, rfl⟩) (by omega)).mono ?_; rintro _ _ ⟨rfl, hb⟩; rw [show hash [110, 111, 100, 101, b8 n] = nodeId (b8 n) from rfl]; replace hF := hF.call hb; clear hb) | ((with_reducible apply wpl_store hF 0 (T := 30)); exact rfl; exact rfl; exact rfl; exact info_idl Hn.out; (focus (first | (with_reducible rfl) | (rw [bs_length, bs_length, Hn.out]; rfl))); exact bs_oneCell _; clear hF; intro _ hF))
  exact post_row hF rfl rfl rfl ⟨0, rfl⟩ Try.underlying30 (info_idl Hn.out) ⟨rfl, hF.below⟩

theorem lt10 (b : UInt8) (h : b.toNat < 10) : b = 0 ∨ b = 1 ∨ b = 2 ∨ b = 3 ∨ b = 4 ∨ b = 5 ∨ b = 6 ∨ b = 7 ∨ b = 8 ∨ b = 9 := by
  have key : ∀ k : Fin 256, k.val < 10 → (UInt8.ofNat k.val = 0 ∨ UInt8.ofNat k.val = 1 ∨ UInt8.ofNat k.val = 2 ∨ UInt8.ofNat k.val = 3 ∨ UInt8.ofNat k.val = 4 ∨ UInt8.ofNat k.val = 5 ∨ UInt8.ofNat k.val = 6 ∨ UInt8.ofNat k.val = 7 ∨ UInt8.ofNat k.val = 8 ∨ UInt8.ofNat k.val = 9) := by decide
  have := key ⟨b.toNat, b.toNat_lt⟩ h
  simpa using this
theorem info_u8_some_ : (Try.prog.info? 5).isSome = true := by kernel_rfl

set_option maxHeartbeats 4000000 in
theorem identFirstYes (b : UInt8) (h : b.toNat < 10) (w : World) : Calls Try.prog 29 #[B b] w fun e w' => e = .returned (.tuple #[agg (nodeId b), .bool true]) ∧ Below w.heap.size w w' := by
  have hF := Fr.start w
  rcases lt10 b h with rfl | rfl | rfl | rfl | rfl | rfl | rfl | rfl | rfl | rfl
  · have hk : (((0 : UInt8).toNat : Nat) : Int) = 0 := rfl
    have Hn := Lib.hid (nodeId_length 0)
    rw [tab0_eq] at Hn ⊢
    go_enter Try.func29, Try.ntmps29
    go_wp2_with (first | ((with_reducible refine wpl_alloc (dst := some 2) hF (bs zeros) (T := 30) (hz := Try.zeroValue30) ?_ ?_); exact rfl; clear hF; intro bo _ hF) | ((with_reducible refine wpl_build (agg tab0) ?_ ?_); (focus (intro w; kernel_rfl))) | ((with_reducible apply wpl_store hF 0 (T := 30)); exact rfl; exact rfl; exact rfl; exact info_idl Hn.out; (focus (first | (with_reducible rfl) | (rw [bs_length, bs_length, Hn.out]; rfl))); exact bs_oneCell _; clear hF; intro _ hF))
    exact post_row_tmp hF rfl rfl rfl rfl ⟨0, rfl⟩ Try.underlying30 (info_idl Hn.out) ⟨rfl, hF.below⟩
  · have hk : (((1 : UInt8).toNat : Nat) : Int) = 1 := rfl
    have Hn := Lib.hid (nodeId_length 1)
    rw [tab1_eq] at Hn ⊢
    go_enter Try.func29, Try.ntmps29
    go_wp2_with (first | ((with_reducible refine wpl_alloc (dst := some 2) hF (bs zeros) (T := 30) (hz := Try.zeroValue30) ?_ ?_); exact rfl; clear hF; intro bo _ hF) | ((with_reducible refine wpl_build (agg tab1) ?_ ?_); (focus (intro w; kernel_rfl))) | ((with_reducible apply wpl_store hF 0 (T := 30)); exact rfl; exact rfl; exact rfl; exact info_idl Hn.out; (focus (first | (with_reducible rfl) | (rw [bs_length, bs_length, Hn.out]; rfl))); exact bs_oneCell _; clear hF; intro _ hF))
    exact post_row_tmp hF rfl rfl rfl rfl ⟨0, rfl⟩ Try.underlying30 (info_idl Hn.out) ⟨rfl, hF.below⟩
  · have hk : (((2 : UInt8).toNat : Nat) : Int) = 2 := rfl
    have Hn := Lib.hid (nodeId_length 2)
    rw [tab2_eq] at Hn ⊢
    go_enter Try.func29, Try.ntmps29
    go_wp2_with (first | ((with_reducible refine wpl_alloc (dst := some 2) hF (bs zeros) (T := 30) (hz := Try.zeroValue30) ?_ ?_); exact rfl; clear hF; intro bo _ hF) | ((with_reducible refine wpl_build (agg tab2) ?_ ?_); (focus (intro w; kernel_rfl))) | ((with_reducible apply wpl_store hF 0 (T := 30)); exact rfl; exact rfl; exact rfl; exact info_idl Hn.out; (focus (first | (with_reducible rfl) | (rw [bs_length, bs_length, Hn.out]; rfl))); exact bs_oneCell _; clear hF; intro _ hF))
    exact post_row_tmp hF rfl rfl rfl rfl ⟨0, rfl⟩ Try.underlying30 (info_idl Hn.out) ⟨rfl, hF.below⟩
  · have hk : (((3 : UInt8).toNat : Nat) : Int) = 3 := rfl
    have Hn := Lib.hid (nodeId_length 3)
    rw [tab3_eq] at Hn ⊢
    go_enter Try.func29, Try.ntmps29
    go_wp2_with (first | ((with_reducible refine wpl_alloc (dst := some 2) hF (bs zeros) (T := 30) (hz := Try.zeroValue30) ?_ ?_); exact rfl; clear hF; intro bo _ hF) | ((with_reducible refine wpl_build (agg tab3) ?_ ?_); (focus (intro w; kernel_rfl))) | ((with_reducible apply wpl_store hF 0 (T := 30)); exact rfl; exact rfl; exact rfl; exact info_idl Hn.out; (focus (first | (with_reducible rfl) | (rw [bs_length, bs_length, Hn.out]; rfl))); exact bs_oneCell _; clear hF; intro _ hF))
    exact post_row_tmp hF rfl rfl rfl rfl ⟨0, rfl⟩ Try.underlying30 (info_idl Hn.out) ⟨rfl, hF.below⟩
  · have hk : (((4 : UInt8).toNat : Nat) : Int) = 4 := rfl
    have Hn := Lib.hid (nodeId_length 4)
    rw [tab4_eq] at Hn ⊢
    go_enter Try.func29, Try.ntmps29
    go_wp2_with (first | ((with_reducible refine wpl_alloc (dst := some 2) hF (bs zeros) (T := 30) (hz := Try.zeroValue30) ?_ ?_); exact rfl; clear hF; intro bo _ hF) | ((with_reducible refine wpl_build (agg tab4) ?_ ?_); (focus (intro w; kernel_rfl))) | ((with_reducible apply wpl_store hF 0 (T := 30)); exact rfl; exact rfl; exact rfl; exact info_idl Hn.out; (focus (first | (with_reducible rfl) | (rw [bs_length, bs_length, Hn.out]; rfl))); exact bs_oneCell _; clear hF; intro _ hF))
    exact post_row_tmp hF rfl rfl rfl rfl ⟨0, rfl⟩ Try.underlying30 (info_idl Hn.out) ⟨rfl, hF.below⟩
  · have hk : (((5 : UInt8).toNat : Nat) : Int) = 5 := rfl
    have Hn := Lib.hid (nodeId_length 5)
    rw [tab5_eq] at Hn ⊢
    go_enter Try.func29, Try.ntmps29
    go_wp2_with (first | ((with_reducible refine wpl_alloc (dst := some 2) hF (bs zeros) (T := 30) (hz := Try.zeroValue30) ?_ ?_); exact rfl; clear hF; intro bo _ hF) | ((with_reducible refine wpl_build (agg tab5) ?_ ?_); (focus (intro w; kernel_rfl))) | ((with_reducible apply wpl_store hF 0 (T := 30)); exact rfl; exact rfl; exact rfl; exact info_idl Hn.out; (focus (first | (with_reducible rfl) | (rw [bs_length, bs_length, Hn.out]; rfl))); exact bs_oneCell _; clear hF; intro _ hF))
    exact post_row_tmp hF rfl rfl rfl rfl ⟨0, rfl⟩ Try.underlying30 (info_idl Hn.out) ⟨rfl, hF.below⟩
  · have hk : (((6 : UInt8).toNat : Nat) : Int) = 6 := rfl
    have Hn := Lib.hid (nodeId_length 6)
    rw [tab6_eq] at Hn ⊢
    go_enter Try.func29, Try.ntmps29
    go_wp2_with (first | ((with_reducible refine wpl_alloc (dst := some 2) hF (bs zeros) (T := 30) (hz := Try.zeroValue30) ?_ ?_); exact rfl; clear hF; intro bo _ hF) | ((with_reducible refine wpl_build (agg tab6) ?_ ?_); (focus (intro w; kernel_rfl))) | ((with_reducible apply wpl_store hF 0 (T := 30)); exact rfl; exact rfl; exact rfl; exact info_idl Hn.out; (focus (first | (with_reducible rfl) | (rw [bs_length, bs_length, Hn.out]; rfl))); exact bs_oneCell _; clear hF; intro _ hF))
    exact post_row_tmp hF rfl rfl rfl rfl ⟨0, rfl⟩ Try.underlying30 (info_idl Hn.out) ⟨rfl, hF.below⟩
  · have hk : (((7 : UInt8).toNat : Nat) : Int) = 7 := rfl
    have Hn := Lib.hid (nodeId_length 7)
    rw [tab7_eq] at Hn ⊢
    go_enter Try.func29, Try.ntmps29
    go_wp2_with (first | ((with_reducible refine wpl_alloc (dst := some 2) hF (bs zeros) (T := 30) (hz := Try.zeroValue30) ?_ ?_); exact rfl; clear hF; intro bo _ hF) | ((with_reducible refine wpl_build (agg tab7) ?_ ?_); (focus (intro w; kernel_rfl))) | ((with_reducible apply wpl_store hF 0 (T := 30)); exact rfl; exact rfl; exact rfl; exact info_idl Hn.out; (focus (first | (with_reducible rfl) | (rw [bs_length, bs_length, Hn.out]; rfl))); exact bs_oneCell _; clear hF; intro _ hF))
    exact post_row_tmp hF rfl rfl rfl rfl ⟨0, rfl⟩ Try.underlying30 (info_idl Hn.out) ⟨rfl, hF.below⟩
  · have hk : (((8 : UInt8).toNat : Nat) : Int) = 8 := rfl
    have Hn := Lib.hid (nodeId_length 8)
    rw [tab8_eq] at Hn ⊢
    go_enter Try.func29, Try.ntmps29
    go_wp2_with (first | ((with_reducible refine wpl_alloc (dst := some 2) hF (bs zeros) (T := 30) (hz := Try.zeroValue30) ?_ ?_); exact rfl; clear hF; intro bo _ hF) | ((with_reducible refine wpl_build (agg tab8) ?_ ?_); (focus (intro w; kernel_rfl))) | ((with_reducible apply wpl_store hF 0 (T := 30)); exact rfl; exact rfl; exact rfl; exact info_idl Hn.out; (focus (first | (with_reducible rfl) | (rw [bs_length, bs_length, Hn.out]; rfl))); exact bs_oneCell _; clear hF; intro _ hF))
    exact post_row_tmp hF rfl rfl rfl rfl ⟨0, rfl⟩ Try.underlying30 (info_idl Hn.out) ⟨rfl, hF.below⟩
  · have hk : (((9 : UInt8).toNat : Nat) : Int) = 9 := rfl
    have Hn := Lib.hid (nodeId_length 9)
    rw [tab9_eq] at Hn ⊢
    go_enter Try.func29, Try.ntmps29
    go_wp2_with (first | ((with_reducible refine wpl_alloc (dst := some 2) hF (bs zeros) (T := 30) (hz := Try.zeroValue30) ?_ ?_); exact rfl; clear hF; intro bo _ hF) | ((with_reducible refine wpl_build (agg tab9) ?_ ?_); (focus (intro w; kernel_rfl))) | ((with_reducible apply wpl_store hF 0 (T := 30)); exact rfl; exact rfl; exact rfl; exact info_idl Hn.out; (focus (first | (with_reducible rfl) | (rw [bs_length, bs_length, Hn.out]; rfl))); exact bs_oneCell _; clear hF; intro _ hF))
    exact post_row_tmp hF rfl rfl rfl rfl ⟨0, rfl⟩ Try.underlying30 (info_idl Hn.out) ⟨rfl, hF.below⟩

set_option maxHeartbeats 2000000 in
theorem identFirstNo (b : UInt8) (h : ¬ b.toNat < 10) (w : World) : Calls Try.prog 29 #[B b] w fun e w' => e = .returned (.tuple #[agg zeros, .bool false]) ∧ Below w.heap.size w w' := by
  have hF := Fr.start w
  have hz := Lib.hid zeros_length
  have k0 : ((b.toNat : Int) = 0) = False := by simp; omega
  have j0 : (b.toNat = 0) = False := by simp; omega
  have k1 : ((b.toNat : Int) = 1) = False := by simp; omega
  have j1 : (b.toNat = 1) = False := by simp; omega
  have k2 : ((b.toNat : Int) = 2) = False := by simp; omega
  have j2 : (b.toNat = 2) = False := by simp; omega
  have k3 : ((b.toNat : Int) = 3) = False := by simp; omega
  have j3 : (b.toNat = 3) = False := by simp; omega
  have k4 : ((b.toNat : Int) = 4) = False := by simp; omega
  have j4 : (b.toNat = 4) = False := by simp; omega
  have k5 : ((b.toNat : Int) = 5) = False := by simp; omega
  have j5 : (b.toNat = 5) = False := by simp; omega
  have k6 : ((b.toNat : Int) = 6) = False := by simp; omega
  have j6 : (b.toNat = 6) = False := by simp; omega
  have k7 : ((b.toNat : Int) = 7) = False := by simp; omega
  have j7 : (b.toNat = 7) = False := by simp; omega
  have k8 : ((b.toNat : Int) = 8) = False := by simp; omega
  have j8 : (b.toNat = 8) = False := by simp; omega
  have k9 : ((b.toNat : Int) = 9) = False := by simp; omega
  have j9 : (b.toNat = 9) = False := by simp; omega
  clear h
  go_enter Try.func29, Try.ntmps29
  go_wp2_with (first | ((with_reducible refine wpl_alloc (dst := some 2) hF (bs zeros) (T := 30) (hz := Try.zeroValue30) ?_ ?_); exact rfl; clear hF; intro bo _ hF) | ((with_reducible refine wpl_build0 (bs zeros) Try.underlying30 ?_ ?_ ?_); exact info_u8_some_; exact Try.zeroValue30) | ((with_reducible apply wpl_store hF 0 (T := 30)); exact rfl; exact rfl; exact rfl; exact info_idl hz.out; (focus (first | (with_reducible rfl) | (rw [bs_length, bs_length, hz.out]; rfl))); exact bs_oneCell _; clear hF; intro _ hF))
  exact post_row_tmp hF rfl rfl rfl rfl ⟨0, rfl⟩ Try.underlying30 (info_idl hz.out) ⟨rfl, hF.below⟩

set_option maxHeartbeats 2000000 in
theorem identOf (n : Int) (w : World) : Calls Try.prog 22 #[.int .i64 n] w fun e w' => e = .returned (agg (nodeId (b8 n))) ∧ Below w.heap.size w w' := by
  have hF := Fr.start w
  have Hn := Lib.hid (nodeId_length (b8 n))
  by_cases h : (b8 n).toNat < 10
  · go_enter Try.func22, Try.ntmps22
    go_wp2_with (first | ((with_reducible refine wpl_alloc (dst := some 2) hF (bs zeros) (T := 30) (hz := Try.zeroValue30) ?_ ?_); exact rfl; clear hF; intro bo _ hF) | ((with_reducible refine wpl_alloc (dst := some 3) hF (bs zeros) (T := 30) (hz := Try.zeroValue30) ?_ ?_); exact rfl; clear hF; intro bi _ hF) | (go_at_call 29; refine (identFirstYes _ h _).mono ?_; rintro _ _ ⟨rfl, hb⟩; replace hF := hF.call hb; clear hb) | ((with_reducible apply wpl_store hF 1 (T := 30)); exact rfl; exact rfl; exact rfl; exact info_idl Hn.out; (focus (rw [bs_length, bs_length, Hn.out]; rfl)); exact bs_oneCell _; clear hF; intro _ hF) | ((with_reducible apply wpl_load hF (T := 30) (hu := Try.underlying30)); exact rfl; (first | exact ⟨0, rfl⟩ | exact ⟨1, rfl⟩ | exact ⟨2, rfl⟩ | exact ⟨3, rfl⟩ | exact ⟨4, rfl⟩ | exact ⟨5, rfl⟩ | exact ⟨6, rfl⟩ | exact ⟨7, rfl⟩ | exact ⟨8, rfl⟩ | exact ⟨9, rfl⟩ | exact ⟨10, rfl⟩ | exact ⟨11, rfl⟩); exact info_idl Hn.out) | ((with_reducible apply wpl_store hF 0 (T := 30)); exact rfl; exact rfl; exact rfl; exact info_idl Hn.out; (focus (first | (with_reducible rfl) | (rw [bs_length, bs_length, Hn.out]; rfl))); exact bs_oneCell _; clear hF; intro _ hF))
    refine post_row (b := bo) (cs := bs (nodeId (b8 n))) (T := 30) (p := 2) (T' := 30) hF ?_ ?_ ?_ ?_ Try.underlying30 (info_idl Hn.out) ?_
    · exact rfl
    · exact rfl
    · exact rfl
    · exact ⟨0, rfl⟩
    · exact ⟨rfl, hF.below⟩
  · have hz := Lib.hid zeros_length
    go_enter Try.func22, Try.ntmps22
    go_wp2_with (first | ((with_reducible refine wpl_alloc (dst := some 2) hF (bs zeros) (T := 30) (hz := Try.zeroValue30) ?_ ?_); exact rfl; clear hF; intro bo _ hF) | ((with_reducible refine wpl_alloc (dst := some 3) hF (bs zeros) (T := 30) (hz := Try.zeroValue30) ?_ ?_); exact rfl; clear hF; intro bi _ hF) | (go_at_call 29; refine (identFirstNo _ h _).mono ?_; rintro _ _ ⟨rfl, hb⟩; replace hF := hF.call hb; clear hb) | ((with_reducible apply wpl_store hF 1 (T := 30)); exact rfl; exact rfl; exact rfl; exact info_idl hz.out; (focus (first | (with_reducible rfl) | (rw [bs_length, bs_length, hz.out]; rfl))); exact bs_oneCell _; clear hF; intro _ hF) | ((with_reducible apply wpl_buildSlice hF (ht := Try.underlying43) (he := byteElem) (bs [110, 111, 100, 101, b8 n])); (focus omega); (focus (first | exact rfl | kernel_rfl)); clear hF; intro bt _ hF) | (go_at_call 30; refine (shaSum [110, 111, 100, 101, b8 n] _ 5 _ rfl _ (Sl.whole hF (t := 5) ⟨2, rfl⟩) (by omega)).mono ?_; rintro _ _ ⟨rfl, hb⟩; rw [show hash [110, 111, 100, 101, b8 n] = nodeId (b8 n) from rfl]; replace hF := hF.call hb; clear hb) | ((with_reducible apply wpl_store hF 0 (T := 30)); exact rfl; exact rfl; exact rfl; exact info_idl Hn.out; (focus (first | (with_reducible rfl) | (rw [bs_length, bs_length, Hn.out]; rfl))); exact bs_oneCell _; clear hF; intro _ hF))
    exact post_row hF rfl rfl rfl ⟨0, rfl⟩ Try.underlying30 (info_idl Hn.out) ⟨rfl, hF.below⟩
end Go.Proofs.Ytjjkndbkjnfimaa
