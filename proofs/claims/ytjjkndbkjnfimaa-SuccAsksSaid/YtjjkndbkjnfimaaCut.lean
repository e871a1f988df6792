/-
  LAWS FOR CUTS of slices and for whole numbers of 64 bits, at the list of a region's operations, plain and drawn. No Go function is named here.
-/
import Derived.Test.YtjjkndbkjnfimaaOwn
namespace Go.Proofs.Ytjjkndbkjnfimaa
set_option linter.unusedSimpArgs false
set_option linter.unusedVariables false
open Go.RowKit

theorem elem_of {P : Program} {t e : TypeId} (hu : P.underlying t = some (.slice e)) : P.underlying t = some (.slice (P.elem t)) ∧ P.elem t = e := by
  have h : P.elem t = e := by simp [Program.elem, hu]
  exact ⟨by rw [h]; exact hu, h⟩

/-- 's[lo:hi]', lo below the capacity. -/
theorem run_cut {P : Program} {T e : TypeId} {g o n cap : Nat} {lo hi : Int} (hu : P.underlying T = some (.slice e)) (he : (P.info? e).map (·.size) = some 1) (h0 : 0 ≤ lo) (h1 : lo ≤ hi) (h2 : hi ≤ (cap : Int)) (h3 : lo < (cap : Int)) (w : World) :
    (Instr.sliceAt T (.slice (some ⟨g, o, none⟩) n cap) (some (.int .i64 lo)) (some (.int .i64 hi)) none).run P w = .ok (.slice (some ⟨g, o + lo.toNat, none⟩) (hi - lo).toNat (cap - lo.toNat)) w := by
  obtain ⟨hu', hel⟩ := elem_of hu
  rw [run_sliceAt_slice w T _ _ _ _ hu', run_slice_lh w T _ n cap hu' .i64 .i64 lo hi h0 h1 h2, hel]
  cases hq : P.info? e with
  | none => simp [hq] at he
  | some i =>
    have hs : i.size = 1 := by simpa [hq] using he
    have hne : ¬ (cap = lo.toNat) := by omega
    simp [sizeOf, typeInfo, hq, hs, sliced, hne, Addr.add_lit]
    omega
theorem run_cut_hi {P : Program} {T e : TypeId} {a : Option Addr} {n cap : Nat} {hi : Int} (hu : P.underlying T = some (.slice e)) (he : (P.info? e).map (·.size) = some 1) (h0 : 0 ≤ hi) (h2 : hi ≤ (cap : Int)) (w : World) :
    (Instr.sliceAt T (.slice a n cap) none (some (.int .i64 hi)) none).run P w = .ok (.slice a hi.toNat cap) w := by
  obtain ⟨hu', hel⟩ := elem_of hu
  rw [run_sliceAt_slice w T _ _ _ _ hu', run_slice_h w T _ n cap hu' .i64 hi h0 h2, hel]
  cases hq : P.info? e with
  | none => simp [hq] at he
  | some i =>
    have hs : i.size = 1 := by simpa [hq] using he
    cases a <;> simp [sizeOf, typeInfo, hq, hs, sliced, Addr.add]
theorem run_cut_lo {P : Program} {T e : TypeId} {x : Addr} {n cap : Nat} {lo : Int} (hu : P.underlying T = some (.slice e)) (he : (P.info? e).map (·.size) = some 1) (h0 : 0 ≤ lo) (h1 : lo ≤ (n : Int)) (h3 : lo < (cap : Int)) (w : World) :
    (Instr.sliceAt T (.slice (some x) n cap) (some (.int .i64 lo)) none none).run P w = .ok (.slice (some (x.add lo.toNat)) (n - lo.toNat) (cap - lo.toNat)) w := by
  obtain ⟨hu', hel⟩ := elem_of hu
  rw [run_sliceAt_slice w T _ _ _ _ hu', run_slice_l w T _ n cap hu' .i64 lo h0 h1, hel]
  cases hq : P.info? e with
  | none => simp [hq] at he
  | some i =>
    have hs : i.size = 1 := by simpa [hq] using he
    have hne : ¬ (cap = lo.toNat) := by omega
    simp [sizeOf, typeInfo, hq, hs, sliced, hne]

section
variable {P : Program} {ops : Array Oper} {rest : List Oper} {Q : Exit → Act → World → Prop} {a : Act} {w0 w : World} {L : List Blk}
theorem wpl_cut {dst : Option Tmp} {T ty e : TypeId} {x y z : Operand} {pos : String} {after : Array Edge} {g o n cap : Nat} {lo hi : Int} (hu : P.underlying T = some (.slice e)) (he : (P.info? e).map (·.size) = some 1)
    (hx : a.eval x = .slice (some ⟨g, o, none⟩) n cap) (hy : a.eval y = .int .i64 lo) (hz : a.eval z = .int .i64 hi) (h0 : 0 ≤ lo) (h1 : lo ≤ hi) (h2 : hi ≤ (cap : Int)) (h3 : lo < (cap : Int))
    (h : wpList P ops Q rest (a.put dst (.slice (some ⟨g, o + lo.toNat, none⟩) (hi - lo).toNat (cap - lo.toNat))) w) :
    wpList P ops Q (⟨dst, .slice T x (some y) (some z) none, ty, pos, after, none⟩ :: rest) a w :=
  wpl_here (by simp only [execOp, hx, hy, hz, Option.map_some, Option.map_none, Sem.run_bind, run_cut hu he h0 h1 h2 h3, Result.andThen_ok, Sem.run_pure]) h
theorem wpl_cut_hi {dst : Option Tmp} {T ty e : TypeId} {x z : Operand} {pos : String} {after : Array Edge} {p : Option Addr} {n cap : Nat} {hi : Int} (hu : P.underlying T = some (.slice e)) (he : (P.info? e).map (·.size) = some 1)
    (hx : a.eval x = .slice p n cap) (hz : a.eval z = .int .i64 hi) (h0 : 0 ≤ hi) (h2 : hi ≤ (cap : Int))
    (h : wpList P ops Q rest (a.put dst (.slice p hi.toNat cap)) w) :
    wpList P ops Q (⟨dst, .slice T x none (some z) none, ty, pos, after, none⟩ :: rest) a w :=
  wpl_here (by simp only [execOp, hx, hz, Option.map_some, Option.map_none, Sem.run_bind, run_cut_hi hu he h0 h2, Result.andThen_ok, Sem.run_pure]) h
theorem wpl_cut_lo {dst : Option Tmp} {T ty e : TypeId} {x y : Operand} {pos : String} {after : Array Edge} {p : Addr} {n cap : Nat} {lo : Int} (hu : P.underlying T = some (.slice e)) (he : (P.info? e).map (·.size) = some 1)
    (hx : a.eval x = .slice (some p) n cap) (hy : a.eval y = .int .i64 lo) (h0 : 0 ≤ lo) (h1 : lo ≤ (n : Int)) (h3 : lo < (cap : Int))
    (h : wpList P ops Q rest (a.put dst (.slice (some (p.add lo.toNat)) (n - lo.toNat) (cap - lo.toNat))) w) :
    wpList P ops Q (⟨dst, .slice T x (some y) none none, ty, pos, after, none⟩ :: rest) a w :=
  wpl_here (by simp only [execOp, hx, hy, Option.map_some, Option.map_none, Sem.run_bind, run_cut_lo hu he h0 h1 h3, Result.andThen_ok, Sem.run_pure]) h
/-- A byte is stored at a place that is reckoned. -/
theorem wpl_idxS' {dst : Option Tmp} {T ty : TypeId} {x y : Operand} {pos : String} {after : Array Edge} {p : Addr} {n c : Nat} {e : TypeId} {k : Int}
    (hx : a.eval x = .slice (some p) n c) (hy : a.eval y = .int .i64 k) (hu : P.underlying T = some (.slice e)) (he : (P.info? e).map (·.size) = some 1) (h0 : 0 ≤ k) (h1 : k < n)
    (h : wpList P ops Q rest (a.put dst (.pointer (some (p.add k.toNat)))) w) :
    wpList P ops Q (⟨dst, .indexAddr T x y, ty, pos, after, none⟩ :: rest) a w := by
  refine wpl_here (v := .pointer (some (p.add k.toNat))) ?_ h
  cases hq : P.info? e with
  | none => simp [hq] at he
  | some inf =>
    have hs : inf.size = 1 := by simpa [hq] using he
    simp [execOp, hx, hy, Instr.indexAt, run_underlying hu, asIntOf, h0, h1, sizeOf, typeInfo, hq, hs]
/-- A cell that came in, or that lies in a block, is read. -/
theorem wpl_loadC {dst : Option Tmp} {T ty : TypeId} {x : Operand} {pos : String} {after : Array Edge} {p : Addr} {kd : IntKind} {v : Value}
    (hx : a.eval x = .pointer (some p)) (hu : P.underlying T = some (.int kd)) (hi : w.cell? p = some v)
    (h : wpList P ops Q rest (a.put dst v) w) :
    wpList P ops Q (⟨dst, .load T x, ty, pos, after, none⟩ :: rest) a w :=
  wpl_here (by simp only [execOp, hx, Instr.loadAt, Instr.sureAddr, Sem.run_bind, Sem.run_pure, Result.andThen_ok, run_loadCell hu hi]) h
end
section
variable {P : Program} {ops : Array Oper} {rest : List Oper} {Q : Act → Prop} {a : Act} {w0 : World} {L : List Blk}
theorem wq_cut {dst : Option Tmp} {T ty e : TypeId} {x y z : Operand} {pos : String} {after : Array Edge} {g o n cap : Nat} {lo hi : Int} (hu : P.underlying T = some (.slice e)) (he : (P.info? e).map (·.size) = some 1)
    (hx : a.eval x = .slice (some ⟨g, o, none⟩) n cap) (hy : a.eval y = .int .i64 lo) (hz : a.eval z = .int .i64 hi) (h0 : 0 ≤ lo) (h1 : lo ≤ hi) (h2 : hi ≤ (cap : Int)) (h3 : lo < (cap : Int))
    (h : wpQuiet P ops (fun w' => Fr w0 w' L) Q rest (a.put dst (.slice (some ⟨g, o + lo.toNat, none⟩) (hi - lo).toNat (cap - lo.toNat)))) :
    wpQuiet P ops (fun w' => Fr w0 w' L) Q (⟨dst, .slice T x (some y) (some z) none, ty, pos, after, none⟩ :: rest) a :=
  wq_pure (fun w => by simp only [execOp, hx, hy, hz, Option.map_some, Option.map_none, Sem.run_bind, run_cut hu he h0 h1 h2 h3, Result.andThen_ok, Sem.run_pure]) h
theorem wq_cut_hi {dst : Option Tmp} {T ty e : TypeId} {x z : Operand} {pos : String} {after : Array Edge} {p : Option Addr} {n cap : Nat} {hi : Int} (hu : P.underlying T = some (.slice e)) (he : (P.info? e).map (·.size) = some 1)
    (hx : a.eval x = .slice p n cap) (hz : a.eval z = .int .i64 hi) (h0 : 0 ≤ hi) (h2 : hi ≤ (cap : Int))
    (h : wpQuiet P ops (fun w' => Fr w0 w' L) Q rest (a.put dst (.slice p hi.toNat cap))) :
    wpQuiet P ops (fun w' => Fr w0 w' L) Q (⟨dst, .slice T x none (some z) none, ty, pos, after, none⟩ :: rest) a :=
  wq_pure (fun w => by simp only [execOp, hx, hz, Option.map_some, Option.map_none, Sem.run_bind, run_cut_hi hu he h0 h2, Result.andThen_ok, Sem.run_pure]) h
theorem wq_cut_lo {dst : Option Tmp} {T ty e : TypeId} {x y : Operand} {pos : String} {after : Array Edge} {p : Addr} {n cap : Nat} {lo : Int} (hu : P.underlying T = some (.slice e)) (he : (P.info? e).map (·.size) = some 1)
    (hx : a.eval x = .slice (some p) n cap) (hy : a.eval y = .int .i64 lo) (h0 : 0 ≤ lo) (h1 : lo ≤ (n : Int)) (h3 : lo < (cap : Int))
    (h : wpQuiet P ops (fun w' => Fr w0 w' L) Q rest (a.put dst (.slice (some (p.add lo.toNat)) (n - lo.toNat) (cap - lo.toNat)))) :
    wpQuiet P ops (fun w' => Fr w0 w' L) Q (⟨dst, .slice T x (some y) none none, ty, pos, after, none⟩ :: rest) a :=
  wq_pure (fun w => by simp only [execOp, hx, hy, Option.map_some, Option.map_none, Sem.run_bind, run_cut_lo hu he h0 h1 h3, Result.andThen_ok, Sem.run_pure]) h
/-- A call whose contract leans on the frame. -/
theorem wq_callF {dst : Option Tmp} {f : FuncId} {xs : Array Operand} {ts : Array TypeId} {ty : TypeId} {pos : String} {after : Array Edge} {vals : Array Value} {v : Value}
    (hc : ∀ args w, (callFunc f args).run P w = .ok (.enter f args) w) (hx : xs.map a.eval = vals) (hv : ∀ w, Fr w0 w L → Calls P f vals w fun e w' => e = .returned v ∧ Below w.heap.size w w')
    (h : wpQuiet P ops (fun w' => Fr w0 w' L) Q rest (a.put dst v)) :
    wpQuiet P ops (fun w' => Fr w0 w' L) Q (⟨dst, .call { callee := .value (.func f), args := xs, argTypes := ts }, ty, pos, after, none⟩ :: rest) a := wq_call hc hx hv h
end

/-! ### Whole numbers -/
section
variable (t : TypeId) (x : Int) (n : Int) (yk : IntKind)
theorem shr_u64 (hx : 0 ≤ x) (hx2 : x < 18446744073709551616) (h : 0 ≤ n) : binOp .shr t (.int .u64 x) (.int yk n) = pure (.int .u64 (x / 2 ^ n.toNat)) := by
  rw [binOp_shr, shift_shr_any _ _ _ _ h]
  congr 2
  show x / 2 ^ min n.toNat 64 = _
  generalize n.toNat = k
  rcases Nat.le_total k 64 with hk | hk
  · rw [Nat.min_eq_left hk]
  · rw [Nat.min_eq_right hk, Int.ediv_eq_zero_of_lt hx (by omega), Int.ediv_eq_zero_of_lt hx ?_]
    refine Int.lt_of_lt_of_le hx2 ?_
    have h2 : (2 : Nat) ^ 64 ≤ 2 ^ k := Nat.pow_le_pow_right (by omega) hk
    have : ((2 ^ 64 : Nat) : Int) ≤ ((2 ^ k : Nat) : Int) := by exact_mod_cast h2
    simpa using this
end
section
variable {P : Program} {ops : Array Oper} {rest : List Oper} {Q : Exit → Act → World → Prop} {a : Act} {w : World}
theorem wpl_shr64 {dst : Option Tmp} {x y : Operand} {T ty T' : TypeId} {pos : String} {after : Array Edge} {u n : Int} {k : IntKind} (hx : a.eval x = .int .u64 u) (hy : a.eval y = .int k n) (h0 : 0 ≤ u) (h1 : u < 18446744073709551616) (hn : 0 ≤ n)
    (h : wpList P ops Q rest (a.put dst (.int .u64 (u / 2 ^ n.toNat))) w) :
    wpList P ops Q (⟨dst, .binOp .shr T x y T', ty, pos, after, none⟩ :: rest) a w :=
  wpl_pure (fun w => by simp only [execOp, hx, hy, Sem.run_bind, Sem.run_pure, Result.andThen_ok, shr_u64 T u n k h0 h1 hn, show eqGuard .shr T x y (.int .u64 u) (.int k n) = pure () from rfl]) h
theorem wpl_shrW {dst : Option Tmp} {x y : Operand} {T ty T' : TypeId} {pos : String} {after : Array Edge} {p : UInt32} {n : Int} {k : IntKind} (hx : a.eval x = W p) (hy : a.eval y = .int k n) (hn : 0 ≤ n)
    (h : wpList P ops Q rest (a.put dst (W (sr p n.toNat))) w) :
    wpList P ops Q (⟨dst, .binOp .shr T x y T', ty, pos, after, none⟩ :: rest) a w :=
  wpl_pure (fun w => by simp only [execOp, hx, hy, Sem.run_bind, Sem.run_pure, Result.andThen_ok, binOp_shr_W T p n k hn, show eqGuard .shr T x y (W p) (.int k n) = pure () from rfl]) h
end
end Go.Proofs.Ytjjkndbkjnfimaa
