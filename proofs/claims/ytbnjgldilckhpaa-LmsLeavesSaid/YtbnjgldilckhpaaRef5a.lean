/-
  THE WALKS of latticeref5.four, two, head.
-/
import Derived.Test.YtbnjgldilckhpaaLine
import Derived.Test.YtbnjgldilckhpaaOtsSpec
import Derived.Test.YtbnjgldilckhpaaRefSum
import Derived.Test.YtbnjgldilckhpaaCut
namespace Go.Proofs.Ytbnjgldilckhpaa
set_option linter.unusedSimpArgs false
set_option linter.unusedVariables false
open Go.RowKit
attribute [local irreducible] wpQuiet Calls
set_option maxRecDepth 4000

/-- A row of the caller's has grown. -/
def Grown (w0 : World) (L : List Blk) (k : Nat) (xs news : List Value) (n : Nat) (e : Ending) (w' : World) : Prop := ∃ b' cap' tail', e = .returned (.slice (some ⟨b', 0, none⟩) n cap') ∧ cap' = n + List.length tail' ∧ Fr w0 w' (L.set k ⟨b', xs ++ news ++ tail', 5⟩)

section
variable (t : TypeId) (x : Int) (n : Int) (yk : IntKind)
theorem shr_i64 (hx : -9223372036854775808 ≤ x) (hx2 : x ≤ 9223372036854775807) (h : 0 ≤ n) (h2 : n ≤ 63) : binOp .shr t (.int .i64 x) (.int yk n) = pure (.int .i64 (x / 2 ^ n.toNat)) := by
  rw [binOp_shr, shift_shr_any _ _ _ _ h]
  congr 2
  show x / 2 ^ min n.toNat 64 = _
  rw [Nat.min_eq_left (by omega)]
end
section
variable {P : Program} {ops : Array Oper} {rest : List Oper} {Q : Exit → Act → World → Prop} {a : Act} {w : World}
theorem wpl_shrI {dst : Option Tmp} {x y : Operand} {T ty T' : TypeId} {pos : String} {after : Array Edge} {u n : Int} {k : IntKind} (hx : a.eval x = .int .i64 u) (hy : a.eval y = .int k n) (h0 : -9223372036854775808 ≤ u) (h1 : u ≤ 9223372036854775807) (hn : 0 ≤ n) (hn2 : n ≤ 63)
    (h : wpList P ops Q rest (a.put dst (.int .i64 (u / 2 ^ n.toNat))) w) :
    wpList P ops Q (⟨dst, .binOp .shr T x y T', ty, pos, after, none⟩ :: rest) a w :=
  wpl_pure (fun w => by simp only [execOp, hx, hy, Sem.run_bind, Sem.run_pure, Result.andThen_ok, shr_i64 T u n k h0 h1 hn hn2, show eqGuard .shr T x y (.int .i64 u) (.int k n) = pure () from rfl]) h
end

set_option maxHeartbeats 2000000 in
theorem four5 (q : Int) (h0 : -9223372036854775808 ≤ q) (h1 : q ≤ 9223372036854775807) {w0 w : World} {L : List Blk} (hF : Fr w0 w L) (k : Nat) {b n cap : Nat} {xs tail : List Value} (hk : L[k]? = some ⟨b, xs ++ tail, 5⟩) (hn : xs.length = n) (hcap : cap = n + tail.length) (hlim : n ≤ 1099511627776) :
    Calls Try.prog 40 #[.slice (some ⟨b, 0, none⟩) n cap, .int .i64 q] w (Grown w0 L k xs (bs (four q)) (n + 4)) := by
  have Hq := Lib.hid (And.intro h0 h1)
  have Hn := Lib.hid hn
  have Hcap := Lib.hid hcap
  clear h0 h1 hn hcap
  go_enter Try.func40, Try.ntmps40
  go_wp2_with (first | ((with_reducible apply wpl_push hF k (xs) (tail) (bs (four q)) (ht := Try.underlying28) (he := byteElem)); (focus (intro _; exact rfl)); (focus exact hk); (focus (intro _; exact rfl)); (focus exact Hn.out); (focus exact Hcap.out); (focus (first | exact rfl | kernel_rfl)); exact rfl; (focus omega); exact bs_oneCell _; (focus omega); (focus (unfold maxLen; omega)); clear hF; intro bt ct tt _ _ hct hF; have Hct := Lib.hid hct; clear hct))
  go_ret
  exact ⟨bt, ct, tt, rfl, Hct.out, hF⟩

set_option maxHeartbeats 2000000 in
theorem four5nil (q : Int) (h0 : -9223372036854775808 ≤ q) (h1 : q ≤ 9223372036854775807) (w : World) :
    Calls Try.prog 40 #[.slice none 0 0, .int .i64 q] w fun e w' => ∃ b cap tail, e = .returned (.slice (some ⟨b, 0, none⟩) 4 cap) ∧ cap = 4 + List.length tail ∧ Made w w' ⟨b, bs (four q) ++ tail, 5⟩ := by
  have hF := Fr.start w
  have Hq := Lib.hid (And.intro h0 h1)
  clear h0 h1
  go_enter Try.func40, Try.ntmps40
  go_wp2_with (first | ((with_reducible apply wpl_push_nil hF (bs (four q)) (ht := Try.underlying28) (he := byteElem)); (focus (intro _; exact rfl)); (focus (intro _; exact rfl)); (focus (first | exact rfl | kernel_rfl)); exact rfl; (focus omega); (focus omega); exact bs_oneCell _; (focus omega); clear hF; intro bt ct tt _ _ hct hF; have Hct := Lib.hid hct; clear hct))
  go_ret
  exact ⟨bt, ct, tt, rfl, Hct.out, hF.made (by simp)⟩

set_option maxHeartbeats 2000000 in
theorem two5 (q : Int) (h0 : -9223372036854775808 ≤ q) (h1 : q ≤ 9223372036854775807) {w0 w : World} {L : List Blk} (hF : Fr w0 w L) (k : Nat) {b n cap : Nat} {xs tail : List Value} (hk : L[k]? = some ⟨b, xs ++ tail, 5⟩) (hn : xs.length = n) (hcap : cap = n + tail.length) (hlim : n ≤ 1099511627776) :
    Calls Try.prog 38 #[.slice (some ⟨b, 0, none⟩) n cap, .int .i64 q] w (Grown w0 L k xs (bs (two q)) (n + 2)) := by
  have Hq := Lib.hid (And.intro h0 h1)
  have Hn := Lib.hid hn
  have Hcap := Lib.hid hcap
  clear h0 h1 hn hcap
  go_enter Try.func38, Try.ntmps38
  go_wp2_with (first | ((with_reducible apply wpl_push hF k (xs) (tail) (bs (two q)) (ht := Try.underlying28) (he := byteElem)); (focus (intro _; exact rfl)); (focus exact hk); (focus (intro _; exact rfl)); (focus exact Hn.out); (focus exact Hcap.out); (focus (first | exact rfl | kernel_rfl)); exact rfl; (focus omega); exact bs_oneCell _; (focus omega); (focus (unfold maxLen; omega)); clear hF; intro bt ct tt _ _ hct hF; have Hct := Lib.hid hct; clear hct))
  go_ret
  exact ⟨bt, ct, tt, rfl, Hct.out, hF⟩

theorem info_nm {l : List UInt8} (h : l.length = 16) : (Try.prog.info? 22).map (·.size) = some (bs l).length := by
  rw [bs_length, h]
  kernel_rfl

set_option maxHeartbeats 2000000 in
theorem head5 (nm : List UInt8) (hnm : nm.length = 16) (q : Int) (h0 : -9223372036854775808 ≤ q) (h1 : q ≤ 9223372036854775807) (w : World) :
    Calls Try.prog 33 #[agg nm, .int .i64 q] w fun e w' => ∃ b cap tail, e = .returned (.slice (some ⟨b, 0, none⟩) 20 cap) ∧ cap = 20 + List.length tail ∧ Made w w' ⟨b, bs (headOf nm q) ++ tail, 5⟩ := by
  have hF := Fr.start w
  have Hq := Lib.hid (And.intro h0 h1)
  have Hnm := Lib.hid hnm
  have Hnl := Lib.hid (show (bs nm).length = 16 by rw [bs_length]; exact hnm)
  clear h0 h1 hnm
  go_enter Try.func33, Try.ntmps33
  go_wp2_with (first | ((with_reducible apply wpl_box (x := Operand.tmp 0) hF); exact rfl; clear hF; intro bn _ hF) | ((with_reducible apply wpl_buildSlice hF (ht := Try.underlying28) (he := byteElem) ([])); (focus omega); (focus (first | exact rfl | kernel_rfl)); clear hF; intro bt _ hF) | ((with_reducible apply wpl_append (dst := some 7) hF 1 [] [] (bs nm) (ht := Try.underlying28) (he := byteElem)); exact rfl; (focus (first | exact rfl | kernel_rfl)); exact rfl; exact rfl; exact rfl; (focus exact Hnl.out); (focus exact Sl.whole hF ⟨0, rfl⟩); exact bs_oneCell _; (focus omega); (focus (unfold maxLen; omega)); clear hF; intro bu cu tu _ hcu hF; have Hcu := Lib.hid hcu; clear hcu) | (go_at_call 40; refine (four5 q Hq.out.1 Hq.out.2 hF 1 (xs := [] ++ bs nm) (tail := tu) rfl (by rw [List.nil_append]; exact Hnl.out) (by have := Hcu.out; omega) (by omega)).mono ?_; clear hF; rintro _ _ ⟨b2, c2, t2, rfl, hc2, hF⟩; have Hc2 := Lib.hid hc2; clear hc2))
  go_ret
  refine ⟨b2, c2, t2, rfl, Hc2.out, hF.made ?_⟩
  simp [headOf, bs_append]
end Go.Proofs.Ytbnjgldilckhpaa
