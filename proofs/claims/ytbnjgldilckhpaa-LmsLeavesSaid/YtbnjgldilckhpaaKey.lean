/-
  THE WALKS of ots' key: head, hash, steps.
-/
import Derived.Test.YtbnjgldilckhpaaRow
import Derived.Test.YtbnjgldilckhpaaOtsSpec
import Derived.Test.YtbnjgldilckhpaaPair
namespace Go.Proofs.Ytbnjgldilckhpaa
set_option linter.unusedSimpArgs false
set_option linter.unusedVariables false
open Go.RowKit
attribute [local irreducible] wpQuiet Calls wpLine
set_option maxRecDepth 4000

/-- A key's cells: a name and a number. -/
def keyc (nm : List UInt8) (q : Int) : List Value := bs nm ++ [.int .i64 q]
abbrev keyv (nm : List UInt8) (q : Int) : Value := .agg (keyc nm q).toArray
theorem keyc_length {nm : List UInt8} (h : nm.length = 16) (q : Int) : (keyc nm q).length = 17 := by simp [keyc, bs_length, h]
theorem keyc_q {nm : List UInt8} (h : nm.length = 16) (q : Int) : (keyc nm q)[16]? = some (.int .i64 q) := by
  rw [keyc, List.getElem?_append_right (by rw [bs_length]; omega), bs_length, h]
  rfl
theorem keyc_one (nm : List UInt8) (q : Int) : ∀ v ∈ keyc nm q, v.oneCell' = true := by
  intro v hv
  rcases List.mem_append.1 hv with h | h
  · exact bs_oneCell _ v h
  · simp only [List.mem_singleton] at h
    subst h
    rfl
theorem info_key {nm : List UInt8} (h : nm.length = 16) (q : Int) : (Try.prog.info? 55).map (·.size) = some (keyc nm q).length := by
  rw [keyc_length h]
  kernel_rfl
theorem info_int_ : (Try.prog.info? 3).map (·.size) = some 1 := by kernel_rfl
theorem info_name : (Try.prog.info? 22).map (·.size) = some (15 + 1) := by kernel_rfl
theorem zero55 : ∀ w, (zeroValue 76).run Try.prog w = .ok (.agg (bs (List.replicate 55 0)).toArray) w := (zero_of_info (n := 55) (by kernel_rfl)).1

theorem sixteen {nm : List UInt8} (h : nm.length = 16) : ∃ a0 a1 a2 a3 a4 a5 a6 a7 a8 a9 a10 a11 a12 a13 a14 a15, nm = [a0, a1, a2, a3, a4, a5, a6, a7, a8, a9, a10, a11, a12, a13, a14, a15] := by
  rcases nm with _ | ⟨a0, _ | ⟨a1, _ | ⟨a2, _ | ⟨a3, _ | ⟨a4, _ | ⟨a5, _ | ⟨a6, _ | ⟨a7, _ | ⟨a8, _ | ⟨a9, _ | ⟨a10, _ | ⟨a11, _ | ⟨a12, _ | ⟨a13, _ | ⟨a14, _ | ⟨a15, _ | ⟨a16, t⟩⟩⟩⟩⟩⟩⟩⟩⟩⟩⟩⟩⟩⟩⟩⟩⟩ <;> simp at h
  exact ⟨a0, a1, a2, a3, a4, a5, a6, a7, a8, a9, a10, a11, a12, a13, a14, a15, rfl⟩
theorem build_key {nm : List UInt8} (h : nm.length = 16) (q : Int) (w : World) : (Instr.build 55 #[(0, agg nm), (1, .int .i64 q)]).run Try.prog w = .ok (keyv nm q) w := by
  obtain ⟨a0, a1, a2, a3, a4, a5, a6, a7, a8, a9, a10, a11, a12, a13, a14, a15, rfl⟩ := sixteen h
  kernel_rfl

def HeadK (nm : List UInt8) (q mark : Int) (w : World) (e : Ending) (w' : World) : Prop := ∃ b cap tail, e = .returned (.slice (some ⟨b, 0, none⟩) 22 cap) ∧ cap = 22 + List.length tail ∧ Made w w' ⟨b, bs (headOf nm q ++ two mark) ++ tail, 5⟩

section
variable {P : Program} {ops : Array Oper} {rest : List Oper} {Q : Exit → Act → World → Prop} {a : Act} {w0 w : World} {L : List Blk}
theorem wpl_fieldA {dst : Option Tmp} {S ty : TypeId} {x : Operand} {pos : String} {after : Array Edge} {fs : Array Field} {f : Field} {i b s : Nat} (hx : a.eval x = .pointer (some ⟨b, 0, none⟩)) (hu : P.underlying S = some (.struct fs)) (hf : fs[i]? = some f) (hi : (P.info? f.type).map (·.size) = some (s + 1))
    (h : wpList P ops Q rest (a.put dst (.pointer (some ⟨b, f.offset, none⟩))) w) :
    wpList P ops Q (⟨dst, .fieldAddr S x i, ty, pos, after, none⟩ :: rest) a w :=
  wpl_here (by simp only [execOp, hx, Sem.run_bind, run_fieldA hu hf hi, Result.andThen_ok, Sem.run_pure]) h
theorem wpl_sliceA {dst : Option Tmp} {T ty e : TypeId} {x : Operand} {pos : String} {after : Array Edge} {n b : Nat} (hx : a.eval x = .pointer (some ⟨b, 0, none⟩)) (hu : P.underlying T = some (.array n e)) (he : (P.info? e).map (·.size) = some 1)
    (h : wpList P ops Q rest (a.put dst (.slice (some ⟨b, 0, none⟩) n n)) w) :
    wpList P ops Q (⟨dst, .slice T x none none none, ty, pos, after, none⟩ :: rest) a w :=
  wpl_here (by simp only [execOp, hx, Option.map_none, Sem.run_bind, run_sliceA hu he, Result.andThen_ok, Sem.run_pure]) h
end

set_option maxHeartbeats 4000000 in
theorem headK (nm : List UInt8) (hnm : nm.length = 16) (q mark : Int) (h0 : -9223372036854775808 ≤ q) (h1 : q ≤ 9223372036854775807) (m0 : 0 ≤ mark) (m1 : mark ≤ 65535) (w : World) :
    Calls Try.prog 50 #[keyv nm q, .int .i64 mark] w (HeadK nm q mark w) := by
  have hF := Fr.start w
  have Hq := Lib.hid (And.intro h0 h1)
  have Hnm := Lib.hid hnm
  have Hnl := Lib.hid (show (bs nm).length = 16 by rw [bs_length]; exact hnm)
  have Hkl := Lib.hid (keyc_q hnm q)
  clear h0 h1 hnm
  go_enter Try.func50, Try.ntmps50
  go_wp2_with (first | ((with_reducible apply wpl_box (x := Operand.tmp 0) (cs := keyc nm q) hF); exact rfl; clear hF; intro bk _ hF) | ((with_reducible apply wpl_make hF (ht := Try.underlying28) (he := byteElem) (n := 0) (c := 4292)); exact rfl; exact rfl; (focus omega); (focus omega); (focus omega); (focus omega); clear hF; intro g _ hF; rw [bs_replicate] at hF; obtain ⟨tz, htz⟩ : ∃ tz : List Value, tz = bs (List.replicate (4292 : Int).toNat 0) := ⟨_, rfl⟩; rw [← htz] at hF; have Htz := Lib.hid (show tz.length = 4292 by rw [htz, bs_length, List.length_replicate]; rfl); clear htz) | ((with_reducible apply wpl_fieldA (hu := Try.underlying55)); exact rfl; exact rfl; exact info_name) | ((with_reducible apply wpl_fieldA (hu := Try.underlying55)); exact rfl; exact rfl; exact info_int_) | ((with_reducible apply wpl_loadV hF (T := 3) (hu := Try.underlying3)); exact rfl; (first | exact ⟨0, rfl⟩ | exact ⟨1, rfl⟩ | exact ⟨2, rfl⟩ | exact ⟨3, rfl⟩ | exact ⟨4, rfl⟩ | exact ⟨5, rfl⟩ | exact ⟨6, rfl⟩ | exact ⟨7, rfl⟩ | exact ⟨8, rfl⟩ | exact ⟨9, rfl⟩ | exact ⟨10, rfl⟩ | exact ⟨11, rfl⟩); exact Hkl.out) | ((with_reducible apply wpl_append (dst := some 10) hF 1 ([]) (tz) (bs nm) (ht := Try.underlying28) (he := byteElem)); exact rfl; (focus exact rfl); (focus (exact rfl)); (focus (have := Htz.out; omega)); exact rfl; (focus (exact Hnl.out)); (focus (exact Sl.pre hF ⟨0, rfl⟩)); exact bs_oneCell _; (focus omega); (focus (unfold maxLen; omega)); clear hF; intro b1 c1 t1 w1 hc1 hF; have H1 := Lib.hid hc1; clear hc1) | ((with_reducible apply wpl_push hF 1 ([] ++ bs nm) (t1) (bs (four q ++ two mark)) (ht := Try.underlying28) (he := byteElem)); (focus (intro _; exact rfl)); (focus exact rfl); (focus (intro _; exact rfl)); (focus (rw [List.nil_append]; exact Hnl.out)); (focus (have := H1.out; omega)); (focus (first | exact rfl | kernel_rfl)); exact rfl; (focus omega); exact bs_oneCell _; (focus omega); (focus (unfold maxLen; omega)); clear hF; intro b2 c2 t2 _ w2 hc2 hF; have H2 := Lib.hid hc2; clear hc2))
  go_ret
  refine ⟨b2, c2, t2, rfl, H2.out, hF.made ?_⟩
  simp [headOf, bs_append]

theorem three_splices {nm sv t : List UInt8} (h1 : nm.length = 16) (h2 : sv.length = 7) (h3 : t.length = 32) : splice (splice (splice (List.replicate 55 0) 0 nm) 16 sv) 23 t = nm ++ sv ++ t := by
  have e1 : splice (List.replicate 55 0) 0 nm = nm ++ List.replicate 39 0 := by simp [splice, h1]
  have e2 : splice (nm ++ List.replicate 39 0) 16 sv = nm ++ sv ++ List.replicate 32 0 := by
    have e : (nm ++ List.replicate 39 (0 : UInt8)).take 16 = nm := by rw [← h1]; simp
    have e' : (nm ++ List.replicate 39 (0 : UInt8)).drop (16 + sv.length) = List.replicate 32 0 := by rw [h2, List.drop_append, h1]; simp [h1]
    rw [splice, e, e', List.append_assoc]
  have e3 : splice (nm ++ sv ++ List.replicate 32 0) 23 t = nm ++ sv ++ t := by
    have hl : (nm ++ sv).length = 23 := by simp [h1, h2]
    have e : (nm ++ sv ++ List.replicate 32 (0 : UInt8)).take 23 = nm ++ sv := by rw [← hl, List.take_left']; rfl
    have e' : (nm ++ sv ++ List.replicate 32 (0 : UInt8)).drop (23 + t.length) = [] := by apply List.drop_eq_nil_of_le; simp [h1, h2, h3]
    rw [splice, e, e', List.append_nil]
  rw [e1, e2, e3]

set_option maxHeartbeats 4000000 in
theorem hashK (nm : List UInt8) (hnm : nm.length = 16) (q mark by_ : Int) (t : List UInt8) (ht : t.length = 32) (w : World) :
    Calls Try.prog 32 #[keyv nm q, .int .i64 mark, .int .i64 by_, agg t] w fun e w' => e = .returned (agg (hashOf nm q mark by_ t)) ∧ Below w.heap.size w w' := by
  have hF := Fr.start w
  have Hnm := Lib.hid hnm
  have Ht := Lib.hid ht
  have Hkl := Lib.hid (keyc_q hnm q)
  have Hk := Lib.hid (keyc_length hnm q)
  obtain ⟨z, hz⟩ : ∃ z, hashOf nm q mark by_ t = z := ⟨_, rfl⟩
  have Hz := Lib.hid (show hash (headOf nm q ++ two mark ++ [b8 by_] ++ t) = z from hz)
  have Hzl := Lib.hid (show z.length = 32 by rw [← hz]; exact hash_length _)
  rw [hz]
  clear hz
  clear hnm ht
  go_enter Try.func32, Try.ntmps32
  go_wp2_with (first | ((with_reducible apply wpl_box (x := Operand.tmp 0) (cs := keyc nm q) hF); exact rfl; clear hF; intro bk _ hF) | ((with_reducible apply wpl_box (x := Operand.tmp 3) hF); exact rfl; clear hF; intro bt _ hF) | ((with_reducible refine wpl_alloc (dst := some 8) hF (bs zeros) (T := 24) (hz := Try.zeroValue24) ?_ ?_); exact rfl; clear hF; intro bo _ hF) | ((with_reducible refine wpl_alloc (dst := some 9) hF (bs (List.replicate 55 0)) (T := 76) (hz := zero55) ?_ ?_); exact rfl; clear hF; intro bz _ hF))
  ((refine wp_region_line ([⟨bk, keyc nm q, 55⟩, ⟨bt, bs t, 24⟩]) ([⟨bo, bs zeros, 24⟩, ⟨bz, bs (List.replicate 55 0), 76⟩]) [0, 1, 2] ([ln 3, tk 4]) (by kernel_rfl) (by kernel_rfl) hF ?_); clear hF; (simp only [planOf, List.filterMap_cons, List.filterMap_nil, List.getElem?_toArray, List.getElem?_cons_succ, List.getElem?_cons_zero, Option.map_some]))
  repeat (first | ((with_reducible apply wq_sliceA (T := 76) (hu := Try.underlying76) (he := info_u8_)); exact rfl; simp only [Act.put, List.setIfInBounds_toArray, List.set_cons_succ, List.set_cons_zero]) | ((with_reducible apply wq_sliceA (T := 22) (hu := Try.underlying22) (he := info_u8_)); exact rfl; simp only [Act.put, List.setIfInBounds_toArray, List.set_cons_succ, List.set_cons_zero]) | ((with_reducible apply wq_fieldA (hu := Try.underlying55)); exact rfl; exact rfl; exact info_name; simp only [Act.put, List.setIfInBounds_toArray, List.set_cons_succ, List.set_cons_zero]) | ((with_reducible apply wq_fieldA (hu := Try.underlying55)); exact rfl; exact rfl; exact info_int_; simp only [Act.put, List.setIfInBounds_toArray, List.set_cons_succ, List.set_cons_zero]))
  refine wpQuiet_nil ?_
  (refine And.intro ?_ ?_; (focus (repeat (first | (with_reducible exact FOK.nil) | (with_reducible refine FOK.ln ?_) | (with_reducible refine FOK.tk ?_) | (with_reducible refine FOK.fl ?_ ?_; (focus fail))))))
  ((with_reducible apply wpLine_copy 1 0 (bs nm) (hu := Try.underlying28) (hsz := info_u8_)); exact wanted_plain; exact rfl; exact rfl; exact rfl; (focus (simp [bs_length, Hnm.out])); exact rfl; (focus (intro _ _ hw; exact Sl.pre hw ⟨0, rfl⟩)); (focus (simp [bs_length, splice_len, Hnm.out])); exact bs_oneCell _; exact (show (_ : Int) = (16 : Int) by simp [bs_length, Hnm.out]); (simp only [bs_splice]; (simp only [Act.put, List.setIfInBounds_toArray, List.set_cons_succ, List.set_cons_zero, List.cons_append, List.nil_append, ← bs_append])))
  ((refine wpLine_take rfl ?_); (first | ((with_reducible apply wq_move); (focus (simp only [Act.eval, Array.getD_eq_getD_getElem?, List.getElem?_toArray, List.getElem?_cons_succ, List.getElem?_cons_zero, Option.getD_some, List.map_toArray, List.map_cons, List.map_nil] <;> exact rfl)); simp only [Act.put, List.setIfInBounds_toArray, List.set_cons_succ, List.set_cons_zero]) | ((with_reducible apply wq_assign); (focus (simp only [Act.eval, Array.getD_eq_getD_getElem?, List.getElem?_toArray, List.getElem?_cons_succ, List.getElem?_cons_zero, Option.getD_some, List.map_toArray, List.map_cons, List.map_nil] <;> exact rfl)); simp only [Act.put, List.setIfInBounds_toArray, List.set_cons_succ, List.set_cons_zero]) | fail); (refine wpQuiet_nil ?_))
  ((refine wpLine_nil ?_); intro wl hF)
  go_wp2_with (first | fail)
  obtain ⟨X1, hX1⟩ : ∃ X, X = splice (List.replicate 55 0) 0 nm := ⟨_, rfl⟩
  have hl1 : X1.length = 55 := by rw [hX1]; simp [splice_len, Hnm.out]
  have HX1 := Lib.hid hX1
  have Hl1 := Lib.hid hl1
  rw [← hX1] at hF
  clear hX1 hl1
  ((refine wp_region_line ([⟨bk, keyc nm q, 55⟩, ⟨bt, bs t, 24⟩]) ([⟨bo, bs zeros, 24⟩, ⟨bz, bs X1, 76⟩]) [0, 1, 2, 3, 4, 5, 6, 7, 8, 9, 10, 11, 12, 13, 14, 15, 16, 17, 18, 19, 20, 21, 22, 23] ([fl 24 (bs (four q ++ two mark ++ [b8 by_])) 5 (fun b => .slice (some ⟨b, 0, none⟩) 7 7), ln 25]) (by kernel_rfl) (by kernel_rfl) hF ?_); clear hF; (simp only [planOf, List.filterMap_cons, List.filterMap_nil, List.getElem?_toArray, List.getElem?_cons_succ, List.getElem?_cons_zero, Option.map_some]))
  repeat (first | ((with_reducible apply wq_move); (focus (simp only [Act.eval, Array.getD_eq_getD_getElem?, List.getElem?_toArray, List.getElem?_cons_succ, List.getElem?_cons_zero, Option.getD_some, List.map_toArray, List.map_cons, List.map_nil] <;> exact rfl)); simp only [Act.put, List.setIfInBounds_toArray, List.set_cons_succ, List.set_cons_zero]) | ((with_reducible apply wq_sliceAl (T := 76) (hu := Try.underlying76) (he := info_u8_)); exact rfl; exact rfl; (focus omega); (focus omega); simp only [Act.put, List.setIfInBounds_toArray, List.set_cons_succ, List.set_cons_zero]) | ((with_reducible apply wq_fieldA (hu := Try.underlying55)); exact rfl; exact rfl; exact info_name; simp only [Act.put, List.setIfInBounds_toArray, List.set_cons_succ, List.set_cons_zero]) | ((with_reducible apply wq_fieldA (hu := Try.underlying55)); exact rfl; exact rfl; exact info_int_; simp only [Act.put, List.setIfInBounds_toArray, List.set_cons_succ, List.set_cons_zero]) | ((with_reducible apply wq_loadV (T := 3) (hu := Try.underlying3)); exact rfl; (first | exact ⟨0, rfl⟩ | exact ⟨1, rfl⟩ | exact ⟨2, rfl⟩ | exact ⟨3, rfl⟩ | exact ⟨4, rfl⟩ | exact ⟨5, rfl⟩ | exact ⟨6, rfl⟩ | exact ⟨7, rfl⟩ | exact ⟨8, rfl⟩ | exact ⟨9, rfl⟩ | exact ⟨10, rfl⟩ | exact ⟨11, rfl⟩); exact Hkl.out; simp only [Act.put, List.setIfInBounds_toArray, List.set_cons_succ, List.set_cons_zero]) | ((with_reducible apply wq_shrI); exact rfl; exact rfl; (focus omega); (focus omega); simp only [Act.put, List.setIfInBounds_toArray, List.set_cons_succ, List.set_cons_zero, pw24, pw16, pw8]) | ((with_reducible apply wq_cvIB); exact rfl; exact (by rw [Try.underlying3]; rfl); exact Try.underlying5; simp only [Act.put, List.setIfInBounds_toArray, List.set_cons_succ, List.set_cons_zero]))
  refine wpQuiet_nil ?_
  (refine And.intro ?_ ?_; (focus (repeat (first | (with_reducible exact FOK.nil) | (with_reducible refine FOK.ln ?_) | (with_reducible refine FOK.tk ?_) | (with_reducible refine FOK.fl ?_ ?_; (focus (exact fstep_build Try.underlying28 byteElem (by omega) (by kernel_rfl))))))))
  refine wpLine_float fun bf => ?_
  (simp only [Act.put, List.setIfInBounds_toArray, List.set_cons_succ, List.set_cons_zero, List.cons_append, List.nil_append, ← bs_append])
  ((with_reducible apply wpLine_copy 1 16 (bs (four q ++ two mark ++ [b8 by_])) (hu := Try.underlying28) (hsz := info_u8_)); exact wanted_plain; exact rfl; exact rfl; exact rfl; (focus (simp [bs_length, Hl1.out, four_length, two_length])); exact rfl; (focus (intro _ _ hw; exact Sl.whole hw ⟨4, rfl⟩)); (focus (simp [bs_length, splice_len, Hl1.out, four_length, two_length])); exact bs_oneCell _; exact (show (_ : Int) = (7 : Int) by simp [bs_length, Hl1.out, four_length, two_length]); (simp only [bs_splice]; (simp only [Act.put, List.setIfInBounds_toArray, List.set_cons_succ, List.set_cons_zero, List.cons_append, List.nil_append, ← bs_append])))
  ((refine wpLine_nil ?_); intro wl hF)
  go_wp2_with (first | fail)
  obtain ⟨X2, hX2⟩ : ∃ X, X = splice X1 16 (four q ++ two mark ++ [b8 by_]) := ⟨_, rfl⟩
  have hl2 : X2.length = 55 := by rw [hX2]; simp [splice_len, Hl1.out, four_length, two_length]
  have HX2 := Lib.hid hX2
  have Hl2 := Lib.hid hl2
  rw [← hX2] at hF
  clear hX2 hl2
  ((refine wp_region_line ([⟨bk, keyc nm q, 55⟩, ⟨bt, bs t, 24⟩]) ([⟨bo, bs zeros, 24⟩, ⟨bz, bs X2, 76⟩, ⟨bf, bs (four q ++ two mark ++ [b8 by_]), 5⟩]) [0, 1] ([ln 2]) (by kernel_rfl) (by kernel_rfl) hF ?_); clear hF; (simp only [planOf, List.filterMap_cons, List.filterMap_nil, List.getElem?_toArray, List.getElem?_cons_succ, List.getElem?_cons_zero, Option.map_some]))
  repeat (first | ((with_reducible apply wq_move); (focus (simp only [Act.eval, Array.getD_eq_getD_getElem?, List.getElem?_toArray, List.getElem?_cons_succ, List.getElem?_cons_zero, Option.getD_some, List.map_toArray, List.map_cons, List.map_nil] <;> exact rfl)); simp only [Act.put, List.setIfInBounds_toArray, List.set_cons_succ, List.set_cons_zero]) | ((with_reducible apply wq_sliceAl (T := 76) (hu := Try.underlying76) (he := info_u8_)); exact rfl; exact rfl; (focus omega); (focus omega); simp only [Act.put, List.setIfInBounds_toArray, List.set_cons_succ, List.set_cons_zero]) | ((with_reducible apply wq_sliceA (T := 24) (hu := Try.underlying24) (he := info_u8_)); exact rfl; simp only [Act.put, List.setIfInBounds_toArray, List.set_cons_succ, List.set_cons_zero]))
  refine wpQuiet_nil ?_
  (refine And.intro ?_ ?_; (focus (repeat (first | (with_reducible exact FOK.nil) | (with_reducible refine FOK.ln ?_) | (with_reducible refine FOK.tk ?_) | (with_reducible refine FOK.fl ?_ ?_; (focus fail))))))
  ((with_reducible apply wpLine_copy 1 23 (bs t) (hu := Try.underlying28) (hsz := info_u8_)); exact wanted_plain; exact rfl; exact rfl; exact rfl; (focus (simp [bs_length, Hl2.out, Ht.out])); exact rfl; (focus (intro _ _ hw; exact Sl.whole hw ⟨1, rfl⟩)); (focus (simp [bs_length, splice_len, Hl2.out, Ht.out])); exact bs_oneCell _; exact (show (_ : Int) = (32 : Int) by simp [bs_length, Hl2.out, Ht.out]); (simp only [bs_splice]; (simp only [Act.put, List.setIfInBounds_toArray, List.set_cons_succ, List.set_cons_zero, List.cons_append, List.nil_append, ← bs_append])))
  ((refine wpLine_nil ?_); intro wl hF)
  go_wp2_with (first | fail)
  have hX3 : splice X2 23 t = headOf nm q ++ two mark ++ [b8 by_] ++ t := by
    rw [HX2.out, HX1.out, three_splices Hnm.out (by simp [four_length, two_length]) Ht.out]
    simp [headOf]
  rw [hX3] at hF
  clear hX3
  go_wp2_with (first | ((with_reducible apply wpl_sliceA (T := 76) (hu := Try.underlying76) (he := info_u8_)); exact rfl) | (go_at_call 51; refine (shaSum (headOf nm q ++ two mark ++ [b8 by_] ++ t) _ _ _ (by simp [headOf_length Hnm.out, two_length, Ht.out]) _ (Sl.whole hF ⟨3, rfl⟩) (by omega)).mono ?_; rintro _ _ ⟨rfl, hb⟩; replace hF := hF.call hb; clear hb; rw [Hz.out]) | ((with_reducible apply wpl_store hF 2 (T := 24)); exact rfl; exact rfl; exact rfl; exact info_idl Hzl.out; (focus (first | (with_reducible rfl) | (rw [bs_length, bs_length, Hzl.out]; rfl))); exact bs_oneCell _; clear hF; intro _ hF))
  exact post_row hF rfl rfl rfl ⟨2, rfl⟩ Try.underlying24 (info_idl Hzl.out) ⟨rfl, hF.below⟩

set_option maxHeartbeats 4000000 in
theorem stepsK (nm : List UInt8) (hnm : nm.length = 16) (q i : Int) (j n : Nat) (to : Int) (hto : to = (j : Int) + (n : Int)) (hj : j + n ≤ 1000) (t : List UInt8) (ht : t.length = 32) (w : World) :
    Calls Try.prog 31 #[keyv nm q, .int .i64 i, .int .i64 j, .int .i64 to, agg t] w fun e w' => e = .returned (agg (chain nm q i j t n)) ∧ Below w.heap.size w w' := by
  have hF := Fr.start w
  have Hnm := Lib.hid hnm
  have Ht := Lib.hid ht
  have Hto := Lib.hid hto
  clear hnm ht hto
  go_enter Try.func31, Try.ntmps31
  go_wp2_with (first | ((with_reducible apply wpl_box (x := Operand.tmp 0) (cs := keyc nm q) hF); exact rfl; clear hF; intro bk _ hF) | ((with_reducible apply wpl_box (x := Operand.tmp 4) hF); exact rfl; clear hF; intro bt _ hF) | ((with_reducible refine wpl_alloc (dst := some 10) hF (bs zeros) (T := 24) (hz := Try.zeroValue24) ?_ ?_); exact rfl; clear hF; intro bo _ hF))
  go_loopw [11] (fun v wr => ∃ m : Nat, m ≤ n ∧ v = .int .i64 ((j : Int) + (m : Int)) ∧ Fr w wr [⟨bk, keyc nm q, 55⟩, ⟨bt, bs (chain nm q i j t m), 24⟩, ⟨bo, bs zeros, 24⟩]) (fun v _ => (to - intOf v).toNat)
  case atStart => exact ⟨0, by omega, by simp, hF⟩
  case round =>
    clear hF
    obtain ⟨m, hm, rfl, hF⟩ := hrel
    obtain ⟨u, hu⟩ : ∃ u, u = chain nm q i j t m := ⟨_, rfl⟩
    have Hu := Lib.hid hu
    have Hul := Lib.hid (show u.length = 32 by rw [hu]; exact chain_length Ht.out m)
    rw [← hu] at hF
    clear hu
    by_cases hlt : m < n
    · have d1 : (j : Int) + (m : Int) < to := by have := Hto.out; omega
      obtain ⟨z, hz⟩ : ∃ z, chain nm q i j t (m + 1) = z := ⟨_, rfl⟩
      have Hzz := Lib.hid hz
      have Hz := Lib.hid (show hashOf nm q i ((j : Int) + (m : Int)) u = z by rw [← hz, Hu.out]; rfl)
      have Hzl := Lib.hid (show z.length = 32 by rw [← hz]; exact hash_length _)
      clear hz
      go_wp2_with (first | ((with_reducible apply wpl_loadD hF (T := 55) (hu := Try.underlying55)); exact rfl; (first | exact ⟨0, rfl⟩ | exact ⟨1, rfl⟩ | exact ⟨2, rfl⟩ | exact ⟨3, rfl⟩ | exact ⟨4, rfl⟩ | exact ⟨5, rfl⟩ | exact ⟨6, rfl⟩ | exact ⟨7, rfl⟩ | exact ⟨8, rfl⟩ | exact ⟨9, rfl⟩ | exact ⟨10, rfl⟩ | exact ⟨11, rfl⟩); exact info_key Hnm.out q) | ((with_reducible apply wpl_load hF (T := 24) (hu := Try.underlying24)); exact rfl; (first | exact ⟨0, rfl⟩ | exact ⟨1, rfl⟩ | exact ⟨2, rfl⟩ | exact ⟨3, rfl⟩ | exact ⟨4, rfl⟩ | exact ⟨5, rfl⟩ | exact ⟨6, rfl⟩ | exact ⟨7, rfl⟩ | exact ⟨8, rfl⟩ | exact ⟨9, rfl⟩ | exact ⟨10, rfl⟩ | exact ⟨11, rfl⟩); exact info_idl Hul.out) | (go_at_call 32; refine (hashK nm Hnm.out q i ((j : Int) + (m : Int)) u Hul.out _).mono ?_; rintro _ _ ⟨rfl, hb⟩; replace hF := hF.call hb; clear hb; rw [Hz.out]) | ((with_reducible apply wpl_store hF 1 (T := 24)); exact rfl; exact rfl; exact rfl; exact info_idl Hzl.out; (focus (rw [bs_length, bs_length, Hzl.out, Hul.out])); exact bs_oneCell _; clear hF; intro _ hF))
      go_roundw
      case rel => exact ⟨m + 1, by omega, by go_num, by rw [Hzz.out]; exact hF⟩
      case measure => simp [intOf]; omega
    · obtain rfl : m = n := by omega
      have d1 : ¬ (j : Int) + (m : Int) < to := by have := Hto.out; omega
      go_wp2_with (first | ((with_reducible apply wpl_load hF (T := 24) (hu := Try.underlying24)); exact rfl; (first | exact ⟨0, rfl⟩ | exact ⟨1, rfl⟩ | exact ⟨2, rfl⟩ | exact ⟨3, rfl⟩ | exact ⟨4, rfl⟩ | exact ⟨5, rfl⟩ | exact ⟨6, rfl⟩ | exact ⟨7, rfl⟩ | exact ⟨8, rfl⟩ | exact ⟨9, rfl⟩ | exact ⟨10, rfl⟩ | exact ⟨11, rfl⟩); exact info_idl Hul.out) | ((with_reducible apply wpl_store hF 2 (T := 24)); exact rfl; exact rfl; exact rfl; exact info_idl Hul.out; (focus (first | (with_reducible rfl) | (rw [bs_length, bs_length, Hul.out]; rfl))); exact bs_oneCell _; clear hF; intro _ hF))
      exact post_row hF rfl rfl rfl ⟨2, rfl⟩ Try.underlying24 (info_idl Hul.out) ⟨by rw [Hu.out], hF.below⟩
end Go.Proofs.Ytbnjgldilckhpaa
