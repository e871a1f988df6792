/-
  SuccRounds: all nodes, going up from one, go round in order, and skip none; with two exchanged they do not; with one left out that one is skipped, if it is of the base. No conditions.
-/
import Derived.Test.YtjjkndbkjnfimaaSuccLaw1
import Derived.Test.YtjjkndbkjnfimaaStores3
import Derived.Test.YtjjkndbkjnfimaaArgs2
namespace Go.Proofs.Ytjjkndbkjnfimaa
set_option linter.unusedSimpArgs false
set_option linter.unusedVariables false
open Go.ChangeShapes Go.WideShapes Go.ChangeAt Go.RowKit
attribute [local irreducible] wpQuiet Calls
set_option maxRecDepth 4000

theorem run_loadE {P : Program} {w : World} {a : Act} {dst : Option Tmp} {T ty : TypeId} {x : Operand} {pos : String} {after : Array Edge} {g : Option (Nat × Bool)} {p : Addr} {kd : IntKind} {v : Value}
    (hx : a.eval x = .pointer (some p)) (hu : P.underlying T = some (.int kd)) (hc : w.cell? p = some v) : (execOp a.eval ⟨dst, .load T x, ty, pos, after, g⟩).run P w = .ok (.value v) w := by
  simp only [execOp, hx, Instr.loadAt, Instr.sureAddr, Sem.run_bind, Sem.run_pure, Result.andThen_ok, run_loadCell hu hc]
theorem roundBlk (node : Int) (n m : Nat) (hn : n ≤ 100) (hm : (roundTo node n).length = m) (h0 : 0 < m) (w : World) :
    Calls Try.prog 8 #[.int .i64 node, .int .i64 n] w fun e w' => ∃ b c tt, e = .returned (.slice (some ⟨b, 0, none⟩) m c) ∧ c = m + List.length tt ∧ Adds w w' ⟨b, is (roundTo node n) ++ tt, 3⟩ := by
  refine (round15 node n hn).mono ?_
  rintro e w' ⟨p, c, Bs, rfl, hbt, hF⟩
  rcases hbt with ⟨h1, _⟩ | ⟨b, tt, rfl, h2, rfl⟩
  · rw [h1] at hm; simp at hm; omega
  · exact ⟨b, c, tt, by rw [hm], by rw [h2, hm], hF.adds (List.mem_singleton.2 rfl)⟩
theorem swap_is (L : List Int) (k : Nat) (t1 : List Value) (h : k + 1 < L.length) :
    ((is L ++ t1).set k (.int .i64 (L.getD (k + 1) 0))).set (k + 1) (.int .i64 (L.getD k 0)) = is (swapL L k) ++ t1 := by
  rw [List.set_append_left _ _ (by rw [is_length]; omega), is_set, List.set_append_left _ _ (by rw [is_length, List.length_set]; omega), is_set]
  rfl
theorem swapL_length (L : List Int) (k : Nat) : (swapL L k).length = L.length := by simp [swapL]

set_option maxHeartbeats 4000000 in
theorem SuccRounds_walk (node n at_ base : Int) (a1 : -9223372036854775808 ≤ node) (a2 : node ≤ 9223372036854775807) (b1 : -9223372036854775808 ≤ n) (b2 : n ≤ 9223372036854775807) (c1 : -9223372036854775808 ≤ at_) (c2 : at_ ≤ 9223372036854775807) (d1 : -9223372036854775808 ≤ base) (d2 : base ≤ 9223372036854775807) (w : World) :
    Calls Try.prog 3 #[.int .i64 node, .int .i64 n, .int .i64 at_, .int .i64 base] w fun e w' => e = .returned (.bool true) ∧ Below w.heap.size w w' := by
  have hF := Fr.start w
  obtain ⟨N', hN'⟩ : ∃ m : Nat, n % 9 = (m : Int) := ⟨(n % 9).toNat, by omega⟩
  have n0 : N' ≤ 8 := by omega
  obtain ⟨N, hN⟩ : ∃ N : Nat, N = N' + 3 := ⟨_, rfl⟩
  have e3 : (3 : Int) + (N' : Int) = (N : Int) := by omega
  obtain ⟨nd, hnd⟩ : ∃ m : Nat, node % (N : Int) = (m : Int) := ⟨(node % (N : Int)).toNat, by have := Int.emod_nonneg node (b := (N : Int)) (by omega); omega⟩
  have hndN : nd < N := by have := Int.emod_lt_of_pos node (b := (N : Int)) (by omega); omega
  obtain ⟨bs_, hbs⟩ : ∃ m : Nat, base % ((N : Int) + 1) = (m : Int) := ⟨(base % ((N : Int) + 1)).toNat, by have := Int.emod_nonneg base (b := (N : Int) + 1) (by omega); omega⟩
  have hbsN : bs_ ≤ N := by have := Int.emod_lt_of_pos base (b := (N : Int) + 1) (by omega); omega
  obtain ⟨m, hm⟩ : ∃ m : Nat, m = N - 1 := ⟨_, rfl⟩
  obtain ⟨k, hk⟩ : ∃ k : Nat, at_ % ((m : Int) - 1) = (k : Int) := ⟨(at_ % ((m : Int) - 1)).toNat, by have := Int.emod_nonneg at_ (b := (m : Int) - 1) (by omega); omega⟩
  have hkN : k < N - 2 := by have := Int.emod_lt_of_pos at_ (b := (m : Int) - 1) (by omega); omega
  obtain ⟨L, hL⟩ : ∃ L, L = roundTo (nd : Int) N := ⟨_, rfl⟩
  have HL := Lib.hid hL.symm
  have law := roundLaw (n := N) (nd := nd) (by omega) (by omega) hndN
  rw [← hL] at law
  have Hlen := Lib.hid (law.len.trans hm.symm)
  have Hs := Lib.hid law.sorted
  have Hk := Lib.hid (law.skips bs_ hbsN)
  have Hx := Lib.hid (law.swap k hkN)
  have Hy := Lib.hid (law.cut k hkN)
  have Hz := Lib.hid (law.left k hkN bs_ hbsN)
  have hk1 : k + 1 < m := by omega
  have hm10 : m ≤ 10 := by omega
  have hm2 : 2 ≤ m := by omega
  have hN11 : N ≤ 11 := by omega
  have hN3 : 3 ≤ N := by omega
  have Hcl := Lib.hid (show (cutL L k).length = m - 1 by
    have := Hlen.out
    simp only [cutL, List.length_append, List.length_take, List.length_drop]
    omega)
  have g0 : (0 : Int) ≤ (k : Int) := by omega
  have g1 : (k : Int) < (m : Int) := by omega
  have g2 : (0 : Int) ≤ (k : Int) + 1 := by omega
  have g3 : (k : Int) + 1 < (m : Int) := by omega
  have g4 : ((k : Int) + 1).toNat = k + 1 := by omega
  clear hL law hm hN
  go_enter Try.func3, Try.ntmps3
  go_wp2_with (first | (go_at_call 6; refine (known15 _).mono ?_; rintro _ _ ⟨rfl, hb⟩; replace hF := hF.call hb; clear hb) | (go_at_call 7; refine (within15 _ _ (by omega) (by omega) (by omega) (by omega) _).mono ?_; rintro _ _ ⟨rfl, hww⟩; subst hww; first | rw [hN'] | rw [hnd] | rw [hbs] | rw [hk]) | (go_at_call 8; refine (roundBlk (nd : Int) N m (by omega) (by rw [HL.out]; exact Hlen.out) (by omega) _).mono ?_; rintro _ _ ⟨b, c, tt, rfl, hcc, ha⟩; rw [HL.out] at ha; replace hF := hF.adopt ha; clear ha; have hc1 := Nat.le_of_eq hcc; have hc2 := Nat.le_of_eq hcc.symm; clear hcc) | (go_at_call 9; refine (succSorted (nd : Int) L _ m _ Hlen.out (by omega) (Sl.pre hF ⟨0, rfl⟩)).mono ?_; rintro _ _ ⟨rfl, hb⟩; rw [Hs.out]; replace hF := hF.call hb; clear hb) | (go_at_call 10; refine (succSkips (nd : Int) L bs_ _ m _ Hlen.out (by omega) (by omega) (Sl.pre hF ⟨0, rfl⟩)).mono ?_; rintro _ _ ⟨rfl, hb⟩; rw [Hk.out]; replace hF := hF.call hb; clear hb) | ((with_reducible apply wpl_buildSlice hF (ht := Try.underlying24) (he := intElem) ([])); (focus omega); (focus (first | exact rfl | kernel_rfl)); clear hF; intro bx _ hF) | ((with_reducible apply wpl_append (dst := some 45) hF 1 [] [] (is L) (ht := Try.underlying24) (he := intElem)); exact rfl; (focus (first | exact rfl | kernel_rfl)); exact rfl; exact rfl; exact rfl; (focus (rw [is_length]; exact Hlen.out)); (focus (exact Sl.pre hF ⟨0, rfl⟩)); exact is_oneCell _; (focus omega); (focus (unfold maxLen; omega)); clear hF; intro bx cx t1 _ hct hF; have hx1 := Nat.le_of_eq hct; have hx2 := Nat.le_of_eq hct.symm; clear hct) | go_skip | ((with_reducible refine wpl_unguard ?_ ?_); (focus (go_simp; done))))
  have hF1 : Fr w _ [⟨b, is L ++ tt, 3⟩, ⟨bx, is L ++ t1, 3⟩] := hF
  clear hF
  have hFd := hF1.drew
  have hFs : Fr w _ [⟨b, is L ++ tt, 3⟩] := hFd.sub (List.sublist_append_left [_] [_])
  clear hF1
  have hg0 : (is L ++ t1)[k]? = some (.int .i64 (L.getD k 0)) := (List.getElem?_append_left (by rw [is_length, Hlen.out]; omega)).trans (is_get (by rw [Hlen.out]; omega))
  have hg1 : (is L ++ t1)[k + 1]? = some (.int .i64 (L.getD (k + 1) 0)) := (List.getElem?_append_left (by rw [is_length, Hlen.out]; omega)).trans (is_get (by rw [Hlen.out]; omega))
  have hg2 : ((is L ++ t1).set k (.int .i64 (L.getD (k + 1) 0)))[k + 1]? = some (.int .i64 (L.getD (k + 1) 0)) := by rw [List.getElem?_set_ne (by omega)]; exact hg1
  have hc0 := (hFd.cell (k := 1) rfl k).trans ((List.getElem?_append_left (by rw [is_length, Hlen.out]; omega)).trans (is_get (by rw [Hlen.out]; omega)))
  have hc3 := (hFd.cell (k := 1) rfl (k + 1)).trans ((List.getElem?_append_left (by rw [is_length, Hlen.out]; omega)).trans (is_get (by rw [Hlen.out]; omega)))
  refine wp_region_fork (fun w' => Fr w w' [⟨b, is L ++ tt, 3⟩]) [0, 1, 2, 3, 4, 5, 6, 7, 8, 10, 11, 12] 9 13 [14, 15, 16, 17] rfl rfl rfl rfl (by decide) rfl rfl (by kernel_rfl) (by kernel_rfl) hFs ?_
  (simp only [List.filterMap_cons, List.filterMap_nil, List.getElem?_toArray, List.getElem?_cons_succ, List.getElem?_cons_zero])
  repeat (first | ((with_reducible apply wq_move); (focus (simp only [Act.eval, Array.getD_eq_getD_getElem?, List.getElem?_toArray, List.getElem?_cons_succ, List.getElem?_cons_zero, Option.getD_some, List.map_toArray, List.map_cons, List.map_nil] <;> exact rfl)); simp only [Act.put, List.setIfInBounds_toArray, List.set_cons_succ, List.set_cons_zero, eq_self, decide_true, decide_false, Bool.not_true, Bool.not_false, eq_self, Addr.add_lit, Nat.zero_add, Int.toNat_natCast, g4]) | ((with_reducible apply wq_assign); (focus (simp only [Act.eval, Array.getD_eq_getD_getElem?, List.getElem?_toArray, List.getElem?_cons_succ, List.getElem?_cons_zero, Option.getD_some, List.map_toArray, List.map_cons, List.map_nil] <;> exact rfl)); simp only [Act.put, List.setIfInBounds_toArray, List.set_cons_succ, List.set_cons_zero, eq_self, decide_true, decide_false, Bool.not_true, Bool.not_false, eq_self, Addr.add_lit, Nat.zero_add, Int.toNat_natCast, g4]) | ((with_reducible apply wq_addI); exact rfl; exact rfl; (focus omega); simp only [Act.put, List.setIfInBounds_toArray, List.set_cons_succ, List.set_cons_zero, eq_self, decide_true, decide_false, Bool.not_true, Bool.not_false, eq_self, Addr.add_lit, Nat.zero_add, Int.toNat_natCast, g4]) | ((with_reducible apply wq_idxS (hu := Try.underlying24) (he := info_int)); exact rfl; exact rfl; (focus omega); (focus omega); simp only [Act.put, List.setIfInBounds_toArray, List.set_cons_succ, List.set_cons_zero, eq_self, decide_true, decide_false, Bool.not_true, Bool.not_false, eq_self, Addr.add_lit, Nat.zero_add, Int.toNat_natCast, g4]))
  refine wpQuiet_nil ?_
  refine ⟨.int .i64 (L.getD (k + 1) 0), .int .i64 (L.getD k 0), run_loadE rfl Try.underlying3 hc3, run_loadE rfl Try.underlying3 hc0, run_loadE rfl Try.underlying3 hc0, run_loadE rfl Try.underlying3 hc3, ?_⟩
  simp only [Act.put, List.setIfInBounds_toArray, List.set_cons_succ, List.set_cons_zero, eq_self, decide_true, decide_false, Bool.not_true, Bool.not_false, eq_self, Addr.add_lit, Nat.zero_add, Int.toNat_natCast, g4]
  refine wps_idxG hFs rfl rfl Try.underlying24 info_int (by omega) (by omega) ?_
  simp only [Act.put, List.setIfInBounds_toArray, List.set_cons_succ, List.set_cons_zero, eq_self, decide_true, decide_false, Bool.not_true, Bool.not_false, eq_self, Addr.add_lit, Nat.zero_add, Int.toNat_natCast, g4]
  refine wps_storeV hFd 1 (T := 3) rfl rfl rfl info_int rfl rfl hg0 (hS := fun w' h => Fr.sub h (List.sublist_append_left [_] [_])) ?_
  clear hFs hc0 hc3
  intro _ hF2
  have hFs : Fr w _ [⟨b, is L ++ tt, 3⟩] := hF2.sub (List.sublist_append_left [_] [_])
  refine wps_idxG hFs rfl rfl Try.underlying24 info_int (by omega) (by omega) ?_
  simp only [Act.put, List.setIfInBounds_toArray, List.set_cons_succ, List.set_cons_zero, eq_self, decide_true, decide_false, Bool.not_true, Bool.not_false, eq_self, Addr.add_lit, Nat.zero_add, Int.toNat_natCast, g4]
  refine wps_storeV hF2 1 (T := 3) rfl rfl rfl info_int rfl rfl hg2 (hS := fun w' h => Fr.sub h (List.sublist_append_left [_] [_])) ?_
  clear hFs
  intro _ hF3
  unfold wpStores
  have hF : Fr w _ [⟨b, is L ++ tt, 3⟩, ⟨bx, ((is L ++ t1).set k (.int .i64 (L.getD (k + 1) 0))).set (k + 1) (.int .i64 (L.getD k 0)), 3⟩] := hF3
  rw [swap_is L k t1 (by rw [Hlen.out]; exact hk1)] at hF
  clear hF3 hF2 hFd hg0 hg1 hg2
  go_wp2_with (first | fail)
  have hFd := hF.drew
  clear hF
  refine wp_region_stores (fun w' => Fr w w' [⟨b, is L ++ tt, 3⟩, ⟨bx, is (swapL L k) ++ t1, 3⟩]) [1, 2, 3, 5, 6, 7, 8] [0, 4, 9, 10] (by kernel_rfl) (by kernel_rfl) hFd ?_
  (simp only [List.filterMap_cons, List.filterMap_nil, List.getElem?_toArray, List.getElem?_cons_succ, List.getElem?_cons_zero])
  repeat (first | ((with_reducible apply wq_move); (focus (simp only [Act.eval, Array.getD_eq_getD_getElem?, List.getElem?_toArray, List.getElem?_cons_succ, List.getElem?_cons_zero, Option.getD_some, List.map_toArray, List.map_cons, List.map_nil] <;> exact rfl)); simp only [Act.put, List.setIfInBounds_toArray, List.set_cons_succ, List.set_cons_zero, eq_self, decide_true, decide_false, Bool.not_true, Bool.not_false, eq_self, Addr.add_lit, Nat.zero_add, Int.toNat_natCast, g4]) | ((with_reducible apply wq_assign); (focus (simp only [Act.eval, Array.getD_eq_getD_getElem?, List.getElem?_toArray, List.getElem?_cons_succ, List.getElem?_cons_zero, Option.getD_some, List.map_toArray, List.map_cons, List.map_nil] <;> exact rfl)); simp only [Act.put, List.setIfInBounds_toArray, List.set_cons_succ, List.set_cons_zero, eq_self, decide_true, decide_false, Bool.not_true, Bool.not_false, eq_self, Addr.add_lit, Nat.zero_add, Int.toNat_natCast, g4]) | ((with_reducible apply wq_addI); exact rfl; exact rfl; (focus omega); simp only [Act.put, List.setIfInBounds_toArray, List.set_cons_succ, List.set_cons_zero, eq_self, decide_true, decide_false, Bool.not_true, Bool.not_false, eq_self, Addr.add_lit, Nat.zero_add, Int.toNat_natCast, g4]) | ((with_reducible apply wq_cut_hi (hu := Try.underlying24) (he := info_int)); exact rfl; exact rfl; (focus omega); (focus omega); simp only [Act.put, List.setIfInBounds_toArray, List.set_cons_succ, List.set_cons_zero, eq_self, decide_true, decide_false, Bool.not_true, Bool.not_false, eq_self, Addr.add_lit, Nat.zero_add, Int.toNat_natCast, g4]) | ((with_reducible apply wq_cut_lo (hu := Try.underlying24) (he := info_int)); exact rfl; exact rfl; (focus omega); (focus omega); (focus omega); simp only [Act.put, List.setIfInBounds_toArray, List.set_cons_succ, List.set_cons_zero, eq_self, decide_true, decide_false, Bool.not_true, Bool.not_false, eq_self, Addr.add_lit, Nat.zero_add, Int.toNat_natCast, g4]))
  refine wpQuiet_nil ?_
  refine wps_build hFd [] Try.underlying24 intElem (by omega) (by first | exact rfl | kernel_rfl) (fun w' x h => h.sub (List.sublist_append_left _ _)) ?_
  clear hFd
  intro by_ _ hF
  simp only [Act.put, List.setIfInBounds_toArray, List.set_cons_succ, List.set_cons_zero, eq_self, decide_true, decide_false, Bool.not_true, Bool.not_false, eq_self, Addr.add_lit, Nat.zero_add, Int.toNat_natCast, g4]
  refine wps_append hF 2 [] [] (is (L.take k)) Try.underlying24 intElem rfl (by first | exact rfl | kernel_rfl) rfl rfl rfl (by rw [is_length, List.length_take, Hlen.out]; omega) (by rw [← is_take]; exact (Sl.pre hF ⟨0, rfl⟩).take k) (is_oneCell _) (by omega) (by unfold maxLen; omega) (fun w' x h => Fr.sub h (List.sublist_append_left [_, _] [_])) ?_
  clear hF
  intro by1 cy1 ty1 wy hcy hF
  have hy1 := Nat.le_of_eq hcy
  have hy2 := Nat.le_of_eq hcy.symm
  clear hcy
  simp only [Act.put, List.setIfInBounds_toArray, List.set_cons_succ, List.set_cons_zero, eq_self, decide_true, decide_false, Bool.not_true, Bool.not_false, eq_self, Addr.add_lit, Nat.zero_add, Int.toNat_natCast, g4]
  have hsl : Sl wy (some ⟨b, k + 1, none⟩) (is (L.drop (k + 1))) := by
    have h := Sl.own hF (k := 0) rfl (k + 1) (m - (k + 1))
    rw [List.drop_append_of_le_length (by rw [is_length, Hlen.out]; omega), List.take_append_of_le_length (by rw [List.length_drop, is_length, Hlen.out]; omega), List.take_of_length_le (by rw [List.length_drop, is_length, Hlen.out]; omega)] at h
    have e : is (L.drop (k + 1)) = (is L).drop (k + 1) := by simp [is, List.map_drop]
    rw [e]
    exact h
  refine wps_append hF 2 ([] ++ is (L.take k)) ty1 (is (L.drop (k + 1))) Try.underlying24 intElem rfl (by first | exact rfl | kernel_rfl) (by rw [List.nil_append, is_length, List.length_take, Hlen.out]; omega) (by omega) rfl (by rw [is_length, List.length_drop, Hlen.out]) hsl (is_oneCell _) (by omega) (by unfold maxLen; omega) (fun w' x h => Fr.sub h (List.sublist_append_left [_, _] [_])) ?_
  clear hF hsl hy1 hy2
  intro by2 cy2 ty2 wz hcy hF
  have hy1 := Nat.le_of_eq hcy
  have hy2 := Nat.le_of_eq hcy.symm
  clear hcy
  simp only [Act.put, List.setIfInBounds_toArray, List.set_cons_succ, List.set_cons_zero, eq_self, decide_true, decide_false, Bool.not_true, Bool.not_false, eq_self, Addr.add_lit, Nat.zero_add, Int.toNat_natCast, g4]
  refine wps_assign (Fr.sub hF (List.sublist_append_left [_, _] [_])) (v := .slice (some ⟨by2, 0, none⟩) _ cy2) rfl ?_
  unfold wpStores
  simp only [Act.put, List.setIfInBounds_toArray, List.set_cons_succ, List.set_cons_zero, eq_self, decide_true, decide_false, Bool.not_true, Bool.not_false, eq_self, Addr.add_lit, Nat.zero_add, Int.toNat_natCast, g4]
  have hF4 : Fr w wz [⟨b, is L ++ tt, 3⟩, ⟨bx, is (swapL L k) ++ t1, 3⟩, ⟨by2, is (cutL L k) ++ ty2, 3⟩] := by
    unfold cutL
    rw [is_append]
    exact hF
  clear hF
  have hF := hF4
  clear hF4
  obtain ⟨d, hd⟩ : ∃ d, decide (L.getD k 0 < (bs_ : Int)) = d := ⟨_, rfl⟩
  have hgL : (is L ++ tt)[k]? = some (.int .i64 (L.getD k 0)) := (List.getElem?_append_left (by rw [is_length, Hlen.out]; omega)).trans (is_get (by rw [Hlen.out]; omega))
  have HgL := Lib.hid hgL
  have Hd := Lib.hid hd
  clear hgL
  go_wp2_with (first | fail)
  ((refine wp_region_fr (by kernel_rfl) (by kernel_rfl) hF ?_); clear hF)
  repeat (first | ((with_reducible apply wq_move); (focus (simp only [Act.eval, Array.getD_eq_getD_getElem?, List.getElem?_toArray, List.getElem?_cons_succ, List.getElem?_cons_zero, Option.getD_some, List.map_toArray, List.map_cons, List.map_nil] <;> exact rfl)); simp only [Act.put, List.setIfInBounds_toArray, List.set_cons_succ, List.set_cons_zero, eq_self, decide_true, decide_false, Bool.not_true, Bool.not_false, eq_self, hd, beq_self_eq_true, Addr.add_lit, Nat.zero_add, Int.toNat_natCast]) | ((with_reducible apply wq_assign); (focus (simp only [Act.eval, Array.getD_eq_getD_getElem?, List.getElem?_toArray, List.getElem?_cons_succ, List.getElem?_cons_zero, Option.getD_some, List.map_toArray, List.map_cons, List.map_nil] <;> exact rfl)); simp only [Act.put, List.setIfInBounds_toArray, List.set_cons_succ, List.set_cons_zero, eq_self, decide_true, decide_false, Bool.not_true, Bool.not_false, eq_self, hd, beq_self_eq_true, Addr.add_lit, Nat.zero_add, Int.toNat_natCast]) | ((with_reducible apply wq_load (T := 30) (hu := Try.underlying30)); exact rfl; (first | exact ⟨0, rfl⟩ | exact ⟨1, rfl⟩ | exact ⟨2, rfl⟩ | exact ⟨3, rfl⟩ | exact ⟨4, rfl⟩ | exact ⟨5, rfl⟩ | exact ⟨6, rfl⟩ | exact ⟨7, rfl⟩ | exact ⟨8, rfl⟩ | exact ⟨9, rfl⟩ | exact ⟨10, rfl⟩ | exact ⟨11, rfl⟩); exact info_idl (by first | (with_reducible exact hash_length _) | (with_reducible exact zeros_length) | (with_reducible assumption) | exact Hxl.out); simp only [Act.put, List.setIfInBounds_toArray, List.set_cons_succ, List.set_cons_zero, eq_self, decide_true, decide_false, Bool.not_true, Bool.not_false, eq_self, hd, beq_self_eq_true, Addr.add_lit, Nat.zero_add, Int.toNat_natCast]) | ((with_reducible apply wq_call (dst := some 74) (f := 9) (v := .bool false) (hc := Try.call9)); (focus (simp only [Act.eval, Array.getD_eq_getD_getElem?, List.getElem?_toArray, List.getElem?_cons_succ, List.getElem?_cons_zero, Option.getD_some, List.map_toArray, List.map_cons, List.map_nil] <;> exact rfl)); exact (fun w hw => (succSorted (nd : Int) (swapL L k) _ m _ (by rw [swapL_length]; exact Hlen.out) (by omega) (Sl.pre hw ⟨1, rfl⟩)).mono (fun _ _ h => ⟨by rw [h.1, Hx.out], h.2⟩)); simp only [Act.put, List.setIfInBounds_toArray, List.set_cons_succ, List.set_cons_zero, eq_self, decide_true, decide_false, Bool.not_true, Bool.not_false, eq_self, Addr.add_lit, Nat.zero_add, Int.toNat_natCast, g4]) | ((with_reducible apply wq_call (dst := some 79) (f := 9) (v := .bool true) (hc := Try.call9)); (focus (simp only [Act.eval, Array.getD_eq_getD_getElem?, List.getElem?_toArray, List.getElem?_cons_succ, List.getElem?_cons_zero, Option.getD_some, List.map_toArray, List.map_cons, List.map_nil] <;> exact rfl)); exact (fun w hw => (succSorted (nd : Int) (cutL L k) _ _ _ (Hcl.out.trans (by omega)) (by omega) (Sl.pre hw ⟨2, rfl⟩)).mono (fun _ _ h => ⟨by rw [h.1, Hy.out], h.2⟩)); simp only [Act.put, List.setIfInBounds_toArray, List.set_cons_succ, List.set_cons_zero, eq_self, decide_true, decide_false, Bool.not_true, Bool.not_false, eq_self, Addr.add_lit, Nat.zero_add, Int.toNat_natCast, g4]) | ((with_reducible apply wq_call (dst := some 85) (f := 10) (v := .bool d) (hc := Try.call10)); (focus (simp only [Act.eval, Array.getD_eq_getD_getElem?, List.getElem?_toArray, List.getElem?_cons_succ, List.getElem?_cons_zero, Option.getD_some, List.map_toArray, List.map_cons, List.map_nil] <;> exact rfl)); exact (fun w hw => (succSkips (nd : Int) (cutL L k) bs_ _ _ _ (Hcl.out.trans (by omega)) (by omega) (by omega) (Sl.pre hw ⟨2, rfl⟩)).mono (fun _ _ h => ⟨by rw [h.1, Hz.out, Hd.out], h.2⟩)); simp only [Act.put, List.setIfInBounds_toArray, List.set_cons_succ, List.set_cons_zero, eq_self, decide_true, decide_false, Bool.not_true, Bool.not_false, eq_self, Addr.add_lit, Nat.zero_add, Int.toNat_natCast, g4]) | ((with_reducible apply wq_idxS (hu := Try.underlying24) (he := info_int)); exact rfl; exact rfl; (focus omega); (focus omega); simp only [Act.put, List.setIfInBounds_toArray, List.set_cons_succ, List.set_cons_zero, eq_self, decide_true, decide_false, Bool.not_true, Bool.not_false, eq_self, Addr.add_lit, Nat.zero_add, Int.toNat_natCast, g4]) | ((with_reducible apply wq_loadV (T := 3) (hu := Try.underlying3)); exact rfl; exact ⟨0, rfl⟩; exact HgL.out; simp only [Act.put, List.setIfInBounds_toArray, List.set_cons_succ, List.set_cons_zero, eq_self, decide_true, decide_false, Bool.not_true, Bool.not_false, eq_self, Addr.add_lit, Nat.zero_add, Int.toNat_natCast, g4]) | ((with_reducible apply wq_lssI); exact rfl; exact rfl; simp only [Act.put, List.setIfInBounds_toArray, List.set_cons_succ, List.set_cons_zero, eq_self, decide_true, decide_false, Bool.not_true, Bool.not_false, eq_self, hd]) | ((with_reducible apply wq_eqbool (hT := Try.underlying4)); exact rfl; exact rfl; simp only [Act.put, List.setIfInBounds_toArray, List.set_cons_succ, List.set_cons_zero, eq_self, decide_true, decide_false, Bool.not_true, Bool.not_false, eq_self, beq_self_eq_true]) | ((with_reducible apply wq_eqbytes (T := 30)); exact rfl; exact rfl; exact Try.eqGuardType30; exact (fun w => run_eqId w _ _ (by first | (with_reducible exact hash_length _) | (with_reducible exact zeros_length) | (with_reducible assumption) | exact Hxl.out) (by first | (with_reducible exact hash_length _) | (with_reducible exact zeros_length) | (with_reducible assumption) | exact Hxl.out)); simp only [Act.put, List.setIfInBounds_toArray, List.set_cons_succ, List.set_cons_zero, eq_self, decide_true, decide_false, Bool.not_true, Bool.not_false, eq_self, hd, beq_self_eq_true, Addr.add_lit, Nat.zero_add, Int.toNat_natCast]) | ((with_reducible apply wq_neqbytes (T := 30)); exact rfl; exact rfl; exact Try.eqGuardType30; exact (fun w => run_eqId w _ _ (by first | (with_reducible exact hash_length _) | (with_reducible exact zeros_length) | (with_reducible assumption) | exact Hxl.out) (by first | (with_reducible exact hash_length _) | (with_reducible exact zeros_length) | (with_reducible assumption) | exact Hxl.out)); simp only [Act.put, List.setIfInBounds_toArray, List.set_cons_succ, List.set_cons_zero, eq_self, decide_true, decide_false, Bool.not_true, Bool.not_false, eq_self, hd, beq_self_eq_true, Addr.add_lit, Nat.zero_add, Int.toNat_natCast]) | ((with_reducible apply wq_eqSt); exact rfl; exact rfl; simp only [Act.put, List.setIfInBounds_toArray, List.set_cons_succ, List.set_cons_zero, eq_self, decide_true, decide_false, Bool.not_true, Bool.not_false, eq_self, hd, beq_self_eq_true, Addr.add_lit, Nat.zero_add, Int.toNat_natCast]) | ((with_reducible apply wq_pick); exact rfl; (focus (simp only [Act.eval, Array.getD_eq_getD_getElem?, List.getElem?_toArray, List.getElem?_cons_succ, List.getElem?_cons_zero, Option.getD_some, List.map_toArray, List.map_cons, List.map_nil] <;> exact rfl)); simp only [Act.put, List.setIfInBounds_toArray, List.set_cons_succ, List.set_cons_zero, eq_self, decide_true, decide_false, Bool.not_true, Bool.not_false, eq_self, hd, beq_self_eq_true, Addr.add_lit, Nat.zero_add, Int.toNat_natCast]) | ((with_reducible apply wq_pick'); exact rfl; (focus (simp only [Act.eval, Array.getD_eq_getD_getElem?, List.getElem?_toArray, List.getElem?_cons_succ, List.getElem?_cons_zero, Option.getD_some, List.map_toArray, List.map_cons, List.map_nil] <;> exact rfl)); simp only [Act.put, List.setIfInBounds_toArray, List.set_cons_succ, List.set_cons_zero, eq_self, decide_true, decide_false, Bool.not_true, Bool.not_false, eq_self, hd, beq_self_eq_true, Addr.add_lit, Nat.zero_add, Int.toNat_natCast]) | ((with_reducible apply wq_not); exact rfl; simp only [Act.put, List.setIfInBounds_toArray, List.set_cons_succ, List.set_cons_zero, eq_self, decide_true, decide_false, Bool.not_true, Bool.not_false, eq_self, hd, beq_self_eq_true, Addr.add_lit, Nat.zero_add, Int.toNat_natCast]) | ((with_reducible refine wq_unguard ?_ ?_); (focus (go_simp; done))) | ((with_reducible refine wq_skip ?_ ?_); (focus (go_simp; done)); simp only [Act.put, List.setIfInBounds_toArray, List.set_cons_succ, List.set_cons_zero]) | ((with_reducible refine wq_skip_none ?_ ?_); (focus (first | (go_simp; done) | (go_simp; exact rfl))); simp only [Act.put, List.setIfInBounds_toArray, List.set_cons_succ, List.set_cons_zero]))
  ((refine wpQuiet_nil ?_); intro _ hF)
  go_wp2_with (first | fail)
  go_ret
  exact ⟨rfl, hF.below⟩

set_option maxRecDepth 100000 in
theorem SuccRounds_lifted (os : Os) (started : os.Started) (H : Type) (enc : TypeId × Value → H) :
    ReturnsInHanded {} Try.checked os 3 .any (Rows.succRoundsSpec.pre6 enc Try.prog Try.f3 Rows.succRoundsRow.domain false) (Rows.succRoundsSpec.post enc Try.prog Try.f3 false true false false) := by
  refine returnsInHanded_of_change (C := Try.checked) own started (by kernel_rfl) Try.func3
    (ChangeSpec.witness6 (enc := enc) (C := Try.checked) false ⟨#[], #[.int .i64 0, .int .i64 0, .int .i64 0, .int .i64 0], []⟩ 8 (by kernel_rfl) (by kernel_rfl) (by kernel_rfl) (by kernel_rfl)) ?_
  intro W base args ds gs before hval0 hW hcnd _
  have hval : ∀ (j : Nat) t v, Try.f3.params[j]? = some t → args[j]? = some v → Value.okWide Try.prog W .any base t v := hval0
  have hW' := hW
  obtain ⟨p, q, hA0, hV, rfl, hfz, hnd⟩ := hW
  have hA : DataW.TrodAll enc Try.prog W 0 (fun _ => true) true Try.f3.params.toList args.toList ds p := hA0
  rw [Try.params3] at hA hval
  obtain ⟨v0, vs0, d0, ds0, p0, q0, hargs, rfl, rfl, h0, r0⟩ := trodAll_cons hA
  obtain ⟨v1, vs1, d1, ds1, p1, q1, rfl, rfl, rfl, h1, r1⟩ := trodAll_cons r0
  obtain ⟨v2, vs2, d2, ds2, p2, q2, rfl, rfl, rfl, h2, r2⟩ := trodAll_cons r1
  obtain ⟨v3, vs3, d3, ds3, p3, q3, rfl, rfl, rfl, h3, r3⟩ := trodAll_cons r2
  obtain ⟨rfl, rfl, rfl⟩ := trodAll_nil r3
  obtain rfl : args = #[v0, v1, v2, v3] := by cases args; simp_all
  obtain ⟨rfl, rfl⟩ := trodVars_none hV
  have k0 := h0
  have lt0 : ∀ x ∈ p0, x.block < W.heap.size := by obtain ⟨m, hm⟩ := k0; exact DataW.trod_lt m _ _ _ hm
  obtain ⟨l0, rfl, n0⟩ := okWide_i64 Try.underlying3 (hval 0 3 v0 rfl rfl)
  have k1 := h1
  have lt1 : ∀ x ∈ p1, x.block < W.heap.size := by obtain ⟨m, hm⟩ := k1; exact DataW.trod_lt m _ _ _ hm
  obtain ⟨l1, rfl, n1⟩ := okWide_i64 Try.underlying3 (hval 1 3 v1 rfl rfl)
  have k2 := h2
  have lt2 : ∀ x ∈ p2, x.block < W.heap.size := by obtain ⟨m, hm⟩ := k2; exact DataW.trod_lt m _ _ _ hm
  obtain ⟨l2, rfl, n2⟩ := okWide_i64 Try.underlying3 (hval 2 3 v2 rfl rfl)
  have k3 := h3
  have lt3 : ∀ x ∈ p3, x.block < W.heap.size := by obtain ⟨m, hm⟩ := k3; exact DataW.trod_lt m _ _ _ hm
  obtain ⟨l3, rfl, n3⟩ := okWide_i64 Try.underlying3 (hval 3 3 v3 rfl rfl)
  clear hA0 hval0 hcnd
  refine (SuccRounds_walk l0 l1 l2 l3 n0.1 n0.2 n1.1 n1.2 n2.1 n2.2 n3.1 n3.2 W).mono fun e W' ⟨he, bel⟩ => ?_
  subst he
  exact ⟨_, rfl, _, _, _, [], _, [], hW', trodAll_mk1 (shut_bool Try.underlying4 _), (trodAll_cons_mk (Below.trod laidOut (by kernel_rfl) (of_decide_eq_true (by kernel_rfl)) k0 bel lt0) (trodAll_cons_mk (Below.trod laidOut (by kernel_rfl) (of_decide_eq_true (by kernel_rfl)) k1 bel lt1) (trodAll_cons_mk (Below.trod laidOut (by kernel_rfl) (of_decide_eq_true (by kernel_rfl)) k2 bel lt2) (trodAll_cons_mk (Below.trod laidOut (by kernel_rfl) (of_decide_eq_true (by kernel_rfl)) k3 bel lt3) trodAll_mk0)))), rfl, bel.frame _, fun h => by cases h⟩

theorem SuccRounds_over : Rows.succRoundsRow.holds Try.pinned (OpenSpec.ofChange Rows.succRoundsSpec) :=
  OpenClaim.holds_of_wide 3 Try.f3 rfl rfl rfl rfl rfl rfl rfl ⟨rfl, rfl, rfl, rfl, rfl⟩ rfl rfl rfl rfl rfl (by kernel_rfl) Try.func3 (by kernel_rfl)
    (of_decide_eq_true (by kernel_rfl)) (by unfold Func.isWrapper; first | (rw [if_pos (by decide +kernel)]; kernel_rfl) | (rw [if_neg (by decide +kernel)]; exact ⟨rfl, rfl⟩))
    (fun os started H enc _ => SuccRounds_lifted os started H enc)

theorem SuccRounds_holds : Rows.SuccRoundsSaid := SuccRounds_over
#print axioms SuccRounds_holds
end Go.Proofs.Ytjjkndbkjnfimaa
