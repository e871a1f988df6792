/-
  THE WALK of lms.tree.
-/
import Derived.Test.YtbnjgldilckhpaaLmsNode
namespace Go.Proofs.Ytbnjgldilckhpaa
set_option linter.unusedSimpArgs false
set_option linter.unusedVariables false
open Go.RowKit
attribute [local irreducible] wpQuiet Calls wpLine wpSeq
set_option maxRecDepth 4000

theorem idRows : IdRows Try.prog 24 := by
  have h : ((Try.prog.info? 24).bind fun i => i.zero) = some (.agg (bs zeros).toArray) ∧ (Try.prog.info? 24).map (·.size) = some 32 ∧ (Try.prog.info? 24).map (·.bytes) = some 32 := ⟨by kernel_rfl, by kernel_rfl, by kernel_rfl⟩
  cases hq : Try.prog.info? 24 with
  | none => rw [hq] at h; simp at h
  | some i =>
    rw [hq] at h
    simp only [Option.bind_some, Option.map_some, Option.some.injEq] at h
    exact ⟨i, hq, h.1, h.2.1, h.2.2⟩

/-- What a tree of n leaves leaves behind. -/
def TreePost (nm seed : List UInt8) (n : Nat) (w : World) (e : Ending) (w' : World) : Prop := ∃ (b : Nat) (xs : List (List UInt8)), e = .returned (.slice (some ⟨b, 0, none⟩) (2 * n) (2 * n)) ∧ xs.length = 2 * n ∧ (∀ x ∈ xs, x.length = 32) ∧ (∀ j, 0 < j → j < 2 * n → xs.getD j [] = tn nm seed n j) ∧ Made w w' ⟨b, bs xs.flatten, 24⟩

/-- What is true throughout the region that puts two nodes together. -/
def TreeS (w0 : World) (bn : Nat) (nm : List UInt8) (bt n i : Nat) (u v : List UInt8) (w : World) : Prop := ∃ (ys : List (List UInt8)), Fr w0 w [⟨bn, bs nm, 22⟩, ⟨bt, bs ys.flatten, 24⟩] ∧ ys.length = n ∧ (∀ x ∈ ys, x.length = 32) ∧ ys.getD (2 * i) [] = u ∧ ys.getD (2 * i + 1) [] = v

section
variable {P : Program} {ops : Array Oper} {rest : List Oper} {Q : Act → Prop} {a : Act} {S : World → Prop}
theorem wqS {o : Oper} {v : Value} (hg : o.guard = none) (hv : ∀ w, S w → (execOp a.eval o).run P w = .ok (.value v) w) (h : wpQuiet P ops S Q rest (a.put o.dst v)) : wpQuiet P ops S Q (o :: rest) a := by
  unfold wpQuiet
  rw [if_pos (by simp [Region.wanted, hg])]
  refine ⟨v, fun w hw => ?_, h⟩
  unfold Oper.quietAt
  rw [hv w hw]
  exact ⟨rfl, rfl⟩
theorem wqS_move {dst : Option Tmp} {x : Operand} {ty : TypeId} {pos : String} {after : Array Edge} {v : Value} (hx : a.eval x = v) (h : wpQuiet P ops S Q rest (a.put dst v)) :
    wpQuiet P ops S Q (⟨dst, .move x, ty, pos, after, none⟩ :: rest) a := by
  subst hx
  exact wqS rfl (fun w _ => by simp [execOp]) h
theorem wqS_addI {dst : Option Tmp} {x y : Operand} {T ty T' : TypeId} {pos : String} {after : Array Edge} {m n : Int} (hx : a.eval x = .int .i64 m) (hy : a.eval y = .int .i64 n)
    (hr : -9223372036854775808 ≤ m + n ∧ m + n ≤ 9223372036854775807)
    (h : wpQuiet P ops S Q rest (a.put dst (.int .i64 (m + n)))) : wpQuiet P ops S Q (⟨dst, .binOp .add T x y T', ty, pos, after, none⟩ :: rest) a :=
  wqS rfl (fun w _ => by
    have e : (binOp .add T (.int .i64 m) (.int .i64 n)).run P w = .ok (.int .i64 (m + n)) w := by
      show Result.ok (Value.int .i64 (IntKind.i64.wrap (m + n))) w = _
      rw [IntWalk.i64_in _ hr]
    simp only [execOp, hx, hy, show eqGuard .add T x y (.int .i64 m) (.int .i64 n) = pure () from rfl, Sem.run_bind, Sem.run_pure, Result.andThen_ok, e]) h
theorem wqS_mulI {dst : Option Tmp} {x y : Operand} {T ty T' : TypeId} {pos : String} {after : Array Edge} {m n : Int} (hx : a.eval x = .int .i64 m) (hy : a.eval y = .int .i64 n)
    (hr : -9223372036854775808 ≤ m * n ∧ m * n ≤ 9223372036854775807)
    (h : wpQuiet P ops S Q rest (a.put dst (.int .i64 (m * n)))) : wpQuiet P ops S Q (⟨dst, .binOp .mul T x y T', ty, pos, after, none⟩ :: rest) a :=
  wqS rfl (fun w _ => by
    have e : (binOp .mul T (.int .i64 m) (.int .i64 n)).run P w = .ok (.int .i64 (m * n)) w := by
      show Result.ok (Value.int .i64 (IntKind.i64.wrap (m * n))) w = _
      rw [IntWalk.i64_in _ hr]
    simp only [execOp, hx, hy, show eqGuard .mul T x y (.int .i64 m) (.int .i64 n) = pure () from rfl, Sem.run_bind, Sem.run_pure, Result.andThen_ok, e]) h
theorem wqS_idx32 {dst : Option Tmp} {T ty : TypeId} {x y : Operand} {pos : String} {after : Array Edge} {b n c : Nat} {e : TypeId} {k : Int}
    (hx : a.eval x = .slice (some ⟨b, 0, none⟩) n c) (hy : a.eval y = .int .i64 k) (hu : P.underlying T = some (.slice e)) (he : (P.info? e).map (·.size) = some 32) (h0 : 0 ≤ k) (h1 : k < n)
    (h : wpQuiet P ops S Q rest (a.put dst (.pointer (some ⟨b, k.toNat * 32, none⟩)))) :
    wpQuiet P ops S Q (⟨dst, .indexAddr T x y, ty, pos, after, none⟩ :: rest) a :=
  wqS rfl (fun w _ => by simp only [execOp, hx, hy, Sem.run_bind, run_idx32 hu he h0 h1, Result.andThen_ok, Sem.run_pure]) h
theorem wqS_loadA {dst : Option Tmp} {T T' ty : TypeId} {x : Operand} {pos : String} {after : Array Edge} {b n : Nat} {e : TypeId} {cs : List Value}
    (hx : a.eval x = .pointer (some ⟨b, 0, none⟩)) (hk : ∀ w, S w → w.heap[b]? = some (.cells cs.toArray T' (0, 0))) (hu : P.underlying T = some (.array n e)) (hi : (P.info? T).map (·.size) = some cs.length)
    (h : wpQuiet P ops S Q rest (a.put dst (.agg cs.toArray))) :
    wpQuiet P ops S Q (⟨dst, .load T x, ty, pos, after, none⟩ :: rest) a :=
  wqS rfl (fun w hw => by simp only [execOp, hx, Instr.loadAt, Instr.sureAddr, Sem.run_bind, Sem.run_pure, Result.andThen_ok, run_loadVar_row w b T' T cs.toArray (0, 0) (.array n e) (hk w hw) hu rfl (by simpa using hi)]) h
theorem wqS_loadRow (v : List UInt8) (hv : v.length = 32) {dst : Option Tmp} {T ty : TypeId} {x : Operand} {pos : String} {after : Array Edge} {b o n : Nat} {e : TypeId}
    (hx : a.eval x = .pointer (some ⟨b, o, none⟩)) (hr : ∀ w, S w → w.rangeAt b o (bs v)) (hu : P.underlying T = some (.array n e)) (hs : (P.info? T).map (·.size) = some 32)
    (h : wpQuiet P ops S Q rest (a.put dst (agg v))) :
    wpQuiet P ops S Q (⟨dst, .load T x, ty, pos, after, none⟩ :: rest) a :=
  wqS rfl (fun w hw => by simp only [execOp, hx, Sem.run_bind, run_loadAt_mid w b o T (bs v) (.array n e) (hr w hw) hu rfl (by rw [bs_length, hv]; exact hs), Result.andThen_ok, Sem.run_pure]) h
end
section
variable {P : Program} {rest : List Oper} {Q : Exit → Act → World → Prop} {S : World → Prop} {a : Act} {w0 w : World} {L : List Blk}
theorem wpSeq_nil (h : Q .normal a w) : wpSeq P Q S [] a w := by unfold wpSeq; exact h
theorem wpSeq_run {o : Oper} {v : Value} {w' : World} (hr : (execOp a.eval o).run P w = .ok (.value v) w') (hS : S w') (h : wpSeq P Q S rest (a.put o.dst v) w') : wpSeq P Q S (o :: rest) a w := by
  unfold wpSeq
  rw [hr]
  exact ⟨hS, h⟩
theorem wpSeq_skip {o : Oper} {w' : World} (hr : (execOp a.eval o).run P w = .ok .skip w') (hS : S w') (h : wpSeq P Q S rest (a.put o.dst undef) w') : wpSeq P Q S (o :: rest) a w := by
  unfold wpSeq
  rw [hr]
  exact ⟨hS, h⟩
theorem wpSeq_call {dst : Option Tmp} {f : FuncId} {xs : Array Operand} {ts : Array TypeId} {ty : TypeId} {pos : String} {after : Array Edge} {vals : Array Value} {v : Value}
    (hc : ∀ args w, (callFunc f args).run P w = .ok (.enter f args) w) (hx : xs.map a.eval = vals) (hF : Fr w0 w L)
    (hv : Calls P f vals w fun e w' => e = .returned v ∧ Below w.heap.size w w') (hS : ∀ w', Fr w0 w' L → S w') (h : ∀ w', Fr w0 w' L → wpSeq P Q S rest (a.put dst v) w') :
    wpSeq P Q S (⟨dst, .call { callee := .value (.func f), args := xs, argTypes := ts }, ty, pos, after, none⟩ :: rest) a w := by
  unfold wpSeq
  simp only [execOp, resolve, hx, Act.eval, Deferred.ofValue, Sem.run_bind, Sem.run_pure, Result.andThen_ok, invoke, Array.append_empty, Array.empty_append, hc]
  refine hv.mono ?_
  rintro e w' ⟨rfl, hb⟩
  exact ⟨v, rfl, hS _ (hF.call hb), h _ (hF.call hb)⟩
theorem wpSeq_rows (hF : Fr w0 w L) (xs : List (List UInt8)) {dst : Option Tmp} {t ty e : TypeId} {m : Nat} {pos : String} {after : Array Edge} {parts : Array (Nat × Operand)} (ht : P.underlying t = some (.slice e)) (he : Elem32 P e) (hm : xs.length = m) (h0 : 0 < m) (hx : ∀ x ∈ xs, x.length = 32) (hm' : m ≤ 4096)
    (hp : (parts.map fun (i, x) => (i, a.eval x)).toList = (xs.zipIdx 0).map fun p => (p.2, agg p.1))
    (hS : ∀ b' w', Fr w0 w' (L ++ [⟨b', bs xs.flatten, e⟩]) → S w') (h : ∀ b' w', Fr w0 w' (L ++ [⟨b', bs xs.flatten, e⟩]) → wpSeq P Q S rest (a.put dst (.slice (some ⟨b', 0, none⟩) m m)) w') :
    wpSeq P Q S (⟨dst, .buildSlice t m parts, ty, pos, after, none⟩ :: rest) a w := by
  subst hm
  have hr := run_buildSlice32 ht he xs h0 hx hm' hp w
  exact wpSeq_run (v := .slice (some ⟨w.heap.size, 0, none⟩) xs.length xs.length) (by simp only [execOp, Sem.run_bind, hr, Result.andThen_ok, Sem.run_pure]) (hS _ _ (hF.alloc _ e)) (h _ _ (hF.alloc _ e))
theorem wpSeq_idx32 {dst : Option Tmp} {T ty : TypeId} {x y : Operand} {pos : String} {after : Array Edge} {b n c : Nat} {e : TypeId} {k : Int}
    (hx : a.eval x = .slice (some ⟨b, 0, none⟩) n c) (hy : a.eval y = .int .i64 k) (hu : P.underlying T = some (.slice e)) (he : (P.info? e).map (·.size) = some 32) (h0 : 0 ≤ k) (h1 : k < n) (hS : S w)
    (h : wpSeq P Q S rest (a.put dst (.pointer (some ⟨b, k.toNat * 32, none⟩))) w) :
    wpSeq P Q S (⟨dst, .indexAddr T x y, ty, pos, after, none⟩ :: rest) a w :=
  wpSeq_run (by simp only [execOp, hx, hy, Sem.run_bind, run_idx32 hu he h0 h1, Result.andThen_ok, Sem.run_pure]) hS h
theorem wpSeq_storeRow (hF : Fr w0 w L) (k : Nat) {xs : List (List UInt8)} {v : List UInt8} {T T' ty : TypeId} {x y : Operand} {pos : String} {after : Array Edge} {b j : Nat}
    (hx : a.eval x = .pointer (some ⟨b, j * 32, none⟩)) (hy : a.eval y = agg v) (hk : L[k]? = some ⟨b, bs xs.flatten, T'⟩) (hxs : ∀ x ∈ xs, x.length = 32) (hj : j < xs.length) (hv : v.length = 32) (hs : (P.info? T).map (·.size) = some 32)
    (hS : ∀ w', Fr w0 w' (L.set k ⟨b, bs (xs.set j v).flatten, T'⟩) → S w') (h : ∀ w', Fr w0 w' (L.set k ⟨b, bs (xs.set j v).flatten, T'⟩) → wpSeq P Q S rest a w') :
    wpSeq P Q S (⟨none, .store T x y, ty, pos, after, none⟩ :: rest) a w := by
  obtain ⟨w', hr, hF'⟩ := run_storeRow (P := P) hF hk hxs hj hv hs
  refine wpSeq_skip (w' := w') ?_ (hS _ hF') (h _ hF')
  unfold execOp
  simp only [hx, hy, Instr.storeAt, Instr.sureAddr, Sem.run_bind, Sem.run_pure, Result.andThen_ok, hr]
end

theorem two_rows {u v : List UInt8} (hu : u.length = 32) (hv : v.length = 32) : ∀ x ∈ [u, v], x.length = 32 := by
  intro x hx
  simp only [List.mem_cons, List.not_mem_nil, or_false] at hx
  rcases hx with rfl | rfl
  · exact hu
  · exact hv
theorem one_row {u : List UInt8} (hu : u.length = 32) : ∀ x ∈ [u], x.length = 32 := by
  intro x hx
  simp only [List.mem_cons, List.not_mem_nil, or_false] at hx
  rw [hx, hu]

set_option maxHeartbeats 8000000 in
theorem treeL (nm : List UInt8) (hnm : nm.length = 16) (seed : List UInt8) (hs : seed.length = 32) (h n : Nat) (hn : n = 2 ^ h) (h1 : 1 ≤ h) (h5 : h ≤ 5) (w : World) :
    Calls Try.prog 41 #[agg nm, agg seed, .int .i64 (h : Int)] w (TreePost nm seed n w) := by
  have hF := Fr.start w
  have Hnm := Lib.hid hnm
  have Hs := Lib.hid hs
  have hn32 : n ≤ 32 := by rw [hn]; exact (Nat.pow_le_pow_right (n := 2) (by decide) h5 : 2 ^ h ≤ 2 ^ 5)
  have hn2 : 2 ≤ n := by rw [hn]; exact (Nat.pow_le_pow_right (n := 2) (by decide) h1 : 2 ^ 1 ≤ 2 ^ h)
  have Hp := Lib.hid (show (1 : Int) * 2 ^ ((h : Int)).toNat = (n : Int) by rw [hn, Int.toNat_natCast, Int.one_mul]; exact (Int.natCast_pow 2 h).symm)
  have e2 : (2 * (n : Int)).toNat = 2 * n := by omega
  have He2 := Lib.hid e2
  clear hn hnm hs e2
  go_enter Try.func41, Try.ntmps41
  go_wp2_with (first | ((with_reducible apply wpl_box (x := Operand.tmp 0) hF); exact rfl; clear hF; intro bn _ hF) | ((with_reducible apply wpl_box (x := Operand.tmp 1) hF); exact rfl; clear hF; intro bd _ hF) | ((with_reducible apply wpl_shlI); exact rfl; exact rfl; (focus omega); (focus omega); (focus (rw [Hp.out]; omega)); (focus (rw [Hp.out]; omega)); rw [Hp.out]) | ((with_reducible apply wpl_make32 hF (ht := Try.underlying68) (he := idRows)); exact rfl; exact rfl; (focus omega); (focus omega); clear hF; intro bt _ hF; rw [He2.out] at hF; rw [He2.out]))
  go_loopw [9] (fun v wr => ∃ (r : Nat) (xs : List (List UInt8)), r < 2 * n ∧ v = .int .i64 (r : Int) ∧ xs.length = 2 * n ∧ (∀ x ∈ xs, x.length = 32) ∧ (∀ j, r < j → j < 2 * n → xs.getD j [] = tn nm seed n j) ∧ Fr w wr [⟨bn, bs nm, 22⟩, ⟨bd, bs seed, 24⟩, ⟨bt, bs xs.flatten, 24⟩]) (fun v _ => (intOf v).toNat)
  case atStart => exact ⟨2 * n - 1, List.replicate (2 * n) zeros, by omega, by congr; omega, List.length_replicate, rep_rows _, fun j h1 h2 => by omega, hF⟩
  case round =>
    clear hF
    obtain ⟨r, xs, hr, rfl, hxl, hxs, hxt, hF⟩ := hrel
    have Hxl := Lib.hid hxl
    have Hxs := Lib.hid hxs
    have Hxt := Lib.hid hxt
    clear hxl hxs hxt
    by_cases hr0 : 0 < r
    · have d1 : (r : Int) > 0 := by omega
      by_cases hrn : n ≤ r
      · have d2 : (r : Int) ≥ (n : Int) := by omega
        obtain ⟨p, hp⟩ : ∃ p, pubOf nm ((r : Int) - (n : Int)) seed = p := ⟨_, rfl⟩
        have Hpp := Lib.hid hp
        have Hpl := Lib.hid (show p.length = 32 by rw [← hp]; exact pubOf_length _ _ _)
        obtain ⟨z, hz⟩ : ∃ z, tn nm seed n r = z := ⟨_, rfl⟩
        have Hzz := Lib.hid hz
        have Hz := Lib.hid (show nodeOf nm (r : Int) 130 [p].flatten = z by rw [← hz, tn_leaf hrn, hp]; simp)
        have Hzl := Lib.hid (show z.length = 32 by rw [← hz]; exact tn_length _ _ _ _)
        clear hp hz
        go_wp2_with (first | fail)
        ((refine wp_region_line ([⟨bn, bs nm, 22⟩, ⟨bd, bs seed, 24⟩]) ([⟨bt, bs xs.flatten, 24⟩]) [0, 1, 2, 3, 4, 5, 6, 7, 8] ([ln 9, ln 10, ln 11, tk 12, ln 13]) (by kernel_rfl) (by kernel_rfl) hF ?_); clear hF; (simp only [planOf, List.filterMap_cons, List.filterMap_nil, List.getElem?_toArray, List.getElem?_cons_succ, List.getElem?_cons_zero, Option.map_some]))
        repeat (first | ((with_reducible apply wq_move); (focus (simp only [Act.eval, Array.getD_eq_getD_getElem?, List.getElem?_toArray, List.getElem?_cons_succ, List.getElem?_cons_zero, Option.getD_some, List.map_toArray, List.map_cons, List.map_nil] <;> exact rfl)); simp only [Act.put, List.setIfInBounds_toArray, List.set_cons_succ, List.set_cons_zero]) | ((with_reducible apply wq_load (T := 22) (hu := Try.underlying22)); exact rfl; (first | exact ⟨0, rfl⟩ | exact ⟨1, rfl⟩ | exact ⟨2, rfl⟩ | exact ⟨3, rfl⟩ | exact ⟨4, rfl⟩ | exact ⟨5, rfl⟩ | exact ⟨6, rfl⟩ | exact ⟨7, rfl⟩ | exact ⟨8, rfl⟩ | exact ⟨9, rfl⟩ | exact ⟨10, rfl⟩ | exact ⟨11, rfl⟩); exact info_nm Hnm.out; simp only [Act.put, List.setIfInBounds_toArray, List.set_cons_succ, List.set_cons_zero]) | ((with_reducible apply wq_load (T := 24) (hu := Try.underlying24)); exact rfl; (first | exact ⟨0, rfl⟩ | exact ⟨1, rfl⟩ | exact ⟨2, rfl⟩ | exact ⟨3, rfl⟩ | exact ⟨4, rfl⟩ | exact ⟨5, rfl⟩ | exact ⟨6, rfl⟩ | exact ⟨7, rfl⟩ | exact ⟨8, rfl⟩ | exact ⟨9, rfl⟩ | exact ⟨10, rfl⟩ | exact ⟨11, rfl⟩); exact info_idl Hs.out; simp only [Act.put, List.setIfInBounds_toArray, List.set_cons_succ, List.set_cons_zero]) | ((with_reducible apply wq_subI); exact rfl; exact rfl; (focus omega); simp only [Act.put, List.setIfInBounds_toArray, List.set_cons_succ, List.set_cons_zero]))
        refine wpQuiet_nil ?_
        (refine And.intro ?_ ?_; (focus (repeat (first | (with_reducible exact FOK.nil) | (with_reducible refine FOK.ln ?_) | (with_reducible refine FOK.tk ?_) | (with_reducible refine FOK.fl ?_ ?_; (focus fail))))))
        ((with_reducible apply wpLine_callp (f := 15) (hc := Try.call15)); exact wanted_plain; (focus (simp only [Act.eval, Array.getD_eq_getD_getElem?, List.getElem?_toArray, List.getElem?_cons_succ, List.getElem?_cons_zero, Option.getD_some, List.map_toArray, List.map_cons, List.map_nil] <;> exact rfl)); (focus (intro _ _ hw; exact publicK nm Hnm.out ((r : Int) - (n : Int)) (by omega) (by omega) seed Hs.out _)); (simp only [Act.put, List.setIfInBounds_toArray, List.set_cons_succ, List.set_cons_zero, List.cons_append, List.nil_append, ← bs_append]))
        rw [Hpp.out]
        ((with_reducible apply wpLine_rows [p] (ht := Try.underlying68) (he := idRows.elem)); exact wanted_plain; exact rfl; (focus omega); exact one_row Hpl.out; (focus omega); (focus (simp only [List.map_toArray, List.map_cons, List.map_nil]; exact rfl)); intro br; (simp only [Act.put, List.setIfInBounds_toArray, List.set_cons_succ, List.set_cons_zero, List.cons_append, List.nil_append, ← bs_append]))
        ((with_reducible apply wpLine_callp (f := 47) (hc := Try.call47)); exact wanted_plain; (focus (simp only [Act.eval, Array.getD_eq_getD_getElem?, List.getElem?_toArray, List.getElem?_cons_succ, List.getElem?_cons_zero, Option.getD_some, List.map_toArray, List.map_cons, List.map_nil] <;> exact rfl)); (focus (intro _ _ hw; exact nodeL nm Hnm.out (r : Int) (by omega) (by omega) 130 [p] (one_row Hpl.out) 1 rfl (by omega) br (hw.isRow (k := 3) rfl))); (simp only [Act.put, List.setIfInBounds_toArray, List.set_cons_succ, List.set_cons_zero, List.cons_append, List.nil_append, ← bs_append]))
        rw [Hz.out]
        ((refine wpLine_take rfl ?_); (first | ((with_reducible apply wq_move); (focus (simp only [Act.eval, Array.getD_eq_getD_getElem?, List.getElem?_toArray, List.getElem?_cons_succ, List.getElem?_cons_zero, Option.getD_some, List.map_toArray, List.map_cons, List.map_nil] <;> exact rfl)); simp only [Act.put, List.setIfInBounds_toArray, List.set_cons_succ, List.set_cons_zero]) | ((with_reducible apply wq_assign); (focus (simp only [Act.eval, Array.getD_eq_getD_getElem?, List.getElem?_toArray, List.getElem?_cons_succ, List.getElem?_cons_zero, Option.getD_some, List.map_toArray, List.map_cons, List.map_nil] <;> exact rfl)); simp only [Act.put, List.setIfInBounds_toArray, List.set_cons_succ, List.set_cons_zero]) | ((with_reducible apply wq_idx32 (hu := Try.underlying68) (he := info_id_)); exact rfl; exact rfl; (focus omega); (focus omega); simp only [Act.put, List.setIfInBounds_toArray, List.set_cons_succ, List.set_cons_zero, Int.toNat_natCast])); (refine wpQuiet_nil ?_))
        ((with_reducible apply wpLine_storeRow 0 (T := 24) (xs := xs) (v := z) (j := r)); exact wanted_plain; exact rfl; exact rfl; exact rfl; exact Hxs.out; (focus (rw [Hxl.out]; exact hr)); exact Hzl.out; exact info_id_; (simp only [Act.put, List.setIfInBounds_toArray, List.set_cons_succ, List.set_cons_zero, List.cons_append, List.nil_append, ← bs_append]))
        ((refine wpLine_nil ?_); intro wl hF)
        go_wp2_with (first | fail)
        go_roundw
        case rel =>
          refine ⟨r - 1, xs.set r z, by omega, by congr; omega, by rw [List.length_set, Hxl.out], set_rows Hxs.out Hzl.out r, fun j h1 h2 => ?_, hF.sub (List.sublist_append_left [_, _, _] _)⟩
          by_cases hj : r = j
          · subst hj
            rw [getD_set_self (by rw [Hxl.out]; exact h2), Hzz.out]
          · rw [getD_set_other hj]
            exact Hxt.out j (by omega) h2
        case measure => simp [intOf]; omega
      · have d2 : ¬ (r : Int) ≥ (n : Int) := by omega
        have hr2 : 2 * r < 2 * n := by omega
        have hr3 : 2 * r + 1 < 2 * n := by omega
        obtain ⟨u, hu⟩ : ∃ u, xs.getD (2 * r) [] = u := ⟨_, rfl⟩
        obtain ⟨v, hv⟩ : ∃ v, xs.getD (2 * r + 1) [] = v := ⟨_, rfl⟩
        have Hu := Lib.hid hu
        have Hv := Lib.hid hv
        have Hul := Lib.hid (show u.length = 32 by rw [← hu]; exact getD_len Hxs.out (by rw [Hxl.out]; exact hr2))
        have Hvl := Lib.hid (show v.length = 32 by rw [← hv]; exact getD_len Hxs.out (by rw [Hxl.out]; exact hr3))
        obtain ⟨z, hz⟩ : ∃ z, tn nm seed n r = z := ⟨_, rfl⟩
        have Hzz := Lib.hid hz
        have Hz := Lib.hid (show nodeOf nm (r : Int) 131 [u, v].flatten = z by rw [← hz, tn_inner (by omega) hr0, ← Hxt.out (2 * r) (by omega) hr2, ← Hxt.out (2 * r + 1) (by omega) hr3, hu, hv]; simp)
        have Hzl := Lib.hid (show z.length = 32 by rw [← hz]; exact tn_length _ _ _ _)
        have q1 : ((2 : Int) * (r : Int)).toNat = 2 * r := by omega
        have q2 : ((2 : Int) * (r : Int) + 1).toNat = 2 * r + 1 := by omega
        have Q1 := Lib.hid q1
        have Q2 := Lib.hid q2
        clear hu hv hz q1 q2
        go_wp2_with (first | fail)
        have hS0 : ∀ (ys : List (List UInt8)) w' R, Fr w w' ([⟨bn, bs nm, 22⟩, ⟨bd, bs seed, 24⟩, ⟨bt, bs ys.flatten, 24⟩] ++ R) → ys.length = 2 * n → (∀ x ∈ ys, x.length = 32) → ys.getD (2 * r) [] = u → ys.getD (2 * r + 1) [] = v → TreeS w bn nm bt (2 * n) r u v w' := fun ys w' R hF' e1 e2 e3 e4 =>
          ⟨ys, (hF'.sub (List.sublist_append_left _ _)).sub (List.Sublist.cons_cons _ (List.Sublist.cons _ (List.Sublist.refl _))), e1, e2, e3, e4⟩
        have hSn : ∀ w', TreeS w bn nm bt (2 * n) r u v w' → w'.heap[bn]? = some (.cells (bs nm).toArray 22 (0, 0)) := fun w' ⟨ys, hF', _⟩ => hF'.row (k := 0) rfl
        have hSu : ∀ w', TreeS w bn nm bt (2 * n) r u v w' → w'.rangeAt bt (2 * r * 32) (bs u) := fun w' ⟨ys, hF', e1, e2, e3, e4⟩ => by
          rw [← e3]
          exact hF'.range (k := 1) rfl e2 (by rw [e1]; exact hr2)
        have hSv : ∀ w', TreeS w bn nm bt (2 * n) r u v w' → w'.rangeAt bt ((2 * r + 1) * 32) (bs v) := fun w' ⟨ys, hF', e1, e2, e3, e4⟩ => by
          rw [← e4]
          exact hF'.range (k := 1) rfl e2 (by rw [e1]; exact hr3)
        (refine wp_region_seq (TreeS w bn nm bt (2 * n) r u v) [0, 1, 2, 3, 4, 5, 6, 7, 8, 9, 10, 11, 12, 13, 14] [15, 16, 17, 18] (by kernel_rfl) (by kernel_rfl) (hS0 xs _ [] hF.drew Hxl.out Hxs.out Hu.out Hv.out) ?_; replace hF := hF.drew; simp only [List.filterMap_cons, List.filterMap_nil, List.getElem?_toArray, List.getElem?_cons_succ, List.getElem?_cons_zero])
        repeat (first | ((with_reducible apply wqS_move); (focus (simp only [Act.eval, Array.getD_eq_getD_getElem?, List.getElem?_toArray, List.getElem?_cons_succ, List.getElem?_cons_zero, Option.getD_some, List.map_toArray, List.map_cons, List.map_nil] <;> exact rfl)); simp only [Act.put, List.setIfInBounds_toArray, List.set_cons_succ, List.set_cons_zero]) | ((with_reducible apply wqS_loadA (T := 22) (hu := Try.underlying22)); exact rfl; exact hSn; exact info_nm Hnm.out; simp only [Act.put, List.setIfInBounds_toArray, List.set_cons_succ, List.set_cons_zero]) | ((with_reducible apply wqS_mulI); exact rfl; exact rfl; (focus omega); simp only [Act.put, List.setIfInBounds_toArray, List.set_cons_succ, List.set_cons_zero]) | ((with_reducible apply wqS_addI); exact rfl; exact rfl; (focus omega); simp only [Act.put, List.setIfInBounds_toArray, List.set_cons_succ, List.set_cons_zero]) | ((with_reducible apply wqS_idx32 (hu := Try.underlying68) (he := info_id_)); exact rfl; exact rfl; (focus omega); (focus omega); simp only [Act.put, List.setIfInBounds_toArray, List.set_cons_succ, List.set_cons_zero, Q1.out, Q2.out]) | ((with_reducible apply wqS_loadRow u Hul.out (T := 24) (hu := Try.underlying24)); exact rfl; exact hSu; exact info_id_; simp only [Act.put, List.setIfInBounds_toArray, List.set_cons_succ, List.set_cons_zero]) | ((with_reducible apply wqS_loadRow v Hvl.out (T := 24) (hu := Try.underlying24)); exact rfl; exact hSv; exact info_id_; simp only [Act.put, List.setIfInBounds_toArray, List.set_cons_succ, List.set_cons_zero]))
        refine wpQuiet_nil ?_
        ((with_reducible apply wpSeq_rows hF [u, v] (ht := Try.underlying68) (he := idRows.elem)); exact rfl; (focus omega); exact two_rows Hul.out Hvl.out; (focus omega); (focus (simp only [List.map_toArray, List.map_cons, List.map_nil]; exact rfl)); (focus (intro _ _ hF'; exact hS0 xs _ _ hF' Hxl.out Hxs.out Hu.out Hv.out)); clear hF; intro br _ hF; simp only [Act.put, List.setIfInBounds_toArray, List.set_cons_succ, List.set_cons_zero])
        ((with_reducible apply wpSeq_call (f := 47) (hc := Try.call47) (hF := hF)); (focus (simp only [Act.eval, Array.getD_eq_getD_getElem?, List.getElem?_toArray, List.getElem?_cons_succ, List.getElem?_cons_zero, Option.getD_some, List.map_toArray, List.map_cons, List.map_nil] <;> exact rfl)); exact nodeL nm Hnm.out (r : Int) (by omega) (by omega) 131 [u, v] (two_rows Hul.out Hvl.out) 2 rfl (by omega) br (hF.isRow (k := 3) rfl); (focus (intro _ hF'; exact hS0 xs _ _ hF' Hxl.out Hxs.out Hu.out Hv.out)); clear hF; intro _ hF; rw [Hz.out]; simp only [Act.put, List.setIfInBounds_toArray, List.set_cons_succ, List.set_cons_zero])
        ((with_reducible apply wpSeq_idx32 (hu := Try.underlying68) (he := info_id_)); exact rfl; exact rfl; (focus omega); (focus omega); exact hS0 xs _ _ hF Hxl.out Hxs.out Hu.out Hv.out; simp only [Act.put, List.setIfInBounds_toArray, List.set_cons_succ, List.set_cons_zero, Int.toNat_natCast])
        ((with_reducible apply wpSeq_storeRow hF 2 (T := 24) (xs := xs) (v := z) (j := r)); exact rfl; exact rfl; exact rfl; exact Hxs.out; (focus (rw [Hxl.out]; exact hr)); exact Hzl.out; exact info_id_; (focus (intro _ hF'; exact hS0 (xs.set r z) _ _ hF' (by rw [List.length_set, Hxl.out]) (set_rows Hxs.out Hzl.out r) (by rw [getD_set_other (by omega), Hu.out]) (by rw [getD_set_other (by omega), Hv.out]))); clear hF; intro _ hF)
        refine wpSeq_nil ?_
        go_wp2_with (first | fail)
        go_roundw
        case rel =>
          refine ⟨r - 1, xs.set r z, by omega, by congr; omega, by rw [List.length_set, Hxl.out], set_rows Hxs.out Hzl.out r, fun j h1 h2 => ?_, hF.sub (List.sublist_append_left [_, _, _] _)⟩
          by_cases hj : r = j
          · subst hj
            rw [getD_set_self (by rw [Hxl.out]; exact h2), Hzz.out]
          · rw [getD_set_other hj]
            exact Hxt.out j (by omega) h2
        case measure => simp [intOf]; omega
    · have d1 : ¬ (r : Int) > 0 := by omega
      go_wp2_with (first | fail)
      go_ret
      exact ⟨bt, xs, rfl, Hxl.out, Hxs.out, fun j h1 h2 => Hxt.out j (by omega) h2, hF.made (by simp)⟩
end Go.Proofs.Ytbnjgldilckhpaa
