/-
  MORE LAWS FOR READS: of a slice that lies in a cell, of a cut from lo to hi, of bytes as a text, of a length. No Go function is named here.
-/
import Derived.Test.YtjjkndbkjnfimaaRow
import Derived.Test.YtjjkndbkjnfimaaStr
namespace Go.Proofs.Ytjjkndbkjnfimaa
set_option linter.unusedSimpArgs false
set_option linter.unusedVariables false
open Go.RowKit

section
variable {P : Program}
theorem run_loadCellS {T e : TypeId} {w : World} {p : Addr} {v : Value} (hu : P.underlying T = some (.slice e)) (hc : w.cell? p = some v) : (loadVar T p).run P w = .ok v w := by
  have hagg : (isAgg T).run P w = .ok false w := by
    unfold isAgg
    rw [Sem.run_bind, run_underlying hu w]
    rfl
  simp only [loadVar, Sem.run_bind, hagg, Result.andThen_ok, Bool.false_eq_true, if_false, run_load, hc]
theorem run_cutG {T e : TypeId} {x : Addr} {n cap : Nat} {lo hi : Int} (hu : P.underlying T = some (.slice e)) (he : (P.info? e).map (·.size) = some 1) (h0 : 0 ≤ lo) (h1 : lo ≤ hi) (h2 : hi ≤ (cap : Int)) (h3 : lo < (cap : Int)) (w : World) :
    (Instr.sliceAt T (.slice (some x) n cap) (some (.int .i64 lo)) (some (.int .i64 hi)) none).run P w = .ok (.slice (some (x.add lo.toNat)) (hi - lo).toNat (cap - lo.toNat)) w := by
  obtain ⟨hu', hel⟩ := elem_of hu
  rw [run_sliceAt_slice w T _ _ _ _ hu', run_slice_lh w T _ n cap hu' .i64 .i64 lo hi h0 h1 h2, hel]
  cases hq : P.info? e with
  | none => simp [hq] at he
  | some i =>
    have hs : i.size = 1 := by simpa [hq] using he
    have hne : ¬ (cap = lo.toNat) := by omega
    simp [sizeOf, typeInfo, hq, hs, sliced, hne]
    omega
end
section
variable {P : Program} {ops : Array Oper} {rest : List Oper} {Q : Exit → Act → World → Prop} {a : Act} {w0 w : World} {L : List Blk}
theorem wpl_load1 (hF : Fr w0 w L) {dst : Option Tmp} {T T' ty e : TypeId} {x : Operand} {pos : String} {after : Array Edge} {b i : Nat} {cs : List Value} {v : Value}
    (hx : a.eval x = .pointer (some ⟨b, i, none⟩)) (hk : ∃ k : Nat, L[k]? = some ⟨b, cs, T'⟩) (hu : P.underlying T = some (.slice e)) (hi : cs[i]? = some v)
    (h : wpList P ops Q rest (a.put dst v) w) :
    wpList P ops Q (⟨dst, .load T x, ty, pos, after, none⟩ :: rest) a w := by
  obtain ⟨k, hk⟩ := hk
  exact wpl_here (by simp only [execOp, hx, Instr.loadAt, Instr.sureAddr, Sem.run_bind, Sem.run_pure, Result.andThen_ok, run_loadCellS hu (show w.cell? ⟨b, i, none⟩ = some v by rw [hF.cell hk]; exact hi)]) h
/-- A value of one cell is laid in a new block. -/
theorem wpl_box1 (hF : Fr w0 w L) {dst : Option Tmp} {T ty : TypeId} {x : Operand} {pos : String} {after : Array Edge} {v : Value}
    (hx : a.eval x = v) (hc : v.cells = #[v]) (h : ∀ b w', Fr w0 w' (L ++ [⟨b, [v], T⟩]) → wpList P ops Q rest (a.put dst (.pointer (some ⟨b, 0, none⟩))) w') :
    wpList P ops Q (⟨dst, .box T x, ty, pos, after, none⟩ :: rest) a w := by
  refine wpList_plain rfl fun K hK => ?_
  unfold Oper.wp
  simp [execOp, hx, Instr.box, newVar, newRow, hc, Oper.upon]
  exact hK _ _ (h _ _ (hF.alloc [v] T))
theorem wpl_cutG {dst : Option Tmp} {T ty e : TypeId} {x y z : Operand} {pos : String} {after : Array Edge} {p : Addr} {n cap : Nat} {lo hi : Int} (hu : P.underlying T = some (.slice e)) (he : (P.info? e).map (·.size) = some 1)
    (hx : a.eval x = .slice (some p) n cap) (hy : a.eval y = .int .i64 lo) (hz : a.eval z = .int .i64 hi) (h0 : 0 ≤ lo) (h1 : lo ≤ hi) (h2 : hi ≤ (cap : Int)) (h3 : lo < (cap : Int))
    (h : wpList P ops Q rest (a.put dst (.slice (some (p.add lo.toNat)) (hi - lo).toNat (cap - lo.toNat))) w) :
    wpList P ops Q (⟨dst, .slice T x (some y) (some z) none, ty, pos, after, none⟩ :: rest) a w :=
  wpl_here (by simp only [execOp, hx, hy, hz, Option.map_some, Option.map_none, Sem.run_bind, run_cutG hu he h0 h1 h2 h3, Result.andThen_ok, Sem.run_pure]) h
end
section
variable {P : Program} {ops : Array Oper} {rest : List Oper} {Q : Act → Prop} {a : Act} {w0 : World} {L : List Blk}
theorem wq_load1 {dst : Option Tmp} {T ty e : TypeId} {x : Operand} {pos : String} {after : Array Edge} {p : Addr} {v : Value}
    (hx : a.eval x = .pointer (some p)) (hu : P.underlying T = some (.slice e)) (hi : ∀ w, Fr w0 w L → w.cell? p = some v)
    (h : wpQuiet P ops (fun w' => Fr w0 w' L) Q rest (a.put dst v)) :
    wpQuiet P ops (fun w' => Fr w0 w' L) Q (⟨dst, .load T x, ty, pos, after, none⟩ :: rest) a := by
  refine wq_step rfl (fun w hF => ?_) h
  unfold Oper.quietAt execOp
  simp only [hx, Instr.loadAt, Instr.sureAddr, Sem.run_bind, Sem.run_pure, Result.andThen_ok, run_loadCellS hu (hi w hF)]
  exact ⟨rfl, rfl⟩
theorem wq_loadK {dst : Option Tmp} {T ty : TypeId} {x : Operand} {pos : String} {after : Array Edge} {p : Addr} {kd : IntKind} {v : Value}
    (hx : a.eval x = .pointer (some p)) (hu : P.underlying T = some (.int kd)) (hi : ∀ w, Fr w0 w L → w.cell? p = some v)
    (h : wpQuiet P ops (fun w' => Fr w0 w' L) Q rest (a.put dst v)) :
    wpQuiet P ops (fun w' => Fr w0 w' L) Q (⟨dst, .load T x, ty, pos, after, none⟩ :: rest) a := by
  refine wq_step rfl (fun w hF => ?_) h
  unfold Oper.quietAt execOp
  simp only [hx, Instr.loadAt, Instr.sureAddr, Sem.run_bind, Sem.run_pure, Result.andThen_ok, run_loadCell hu (hi w hF)]
  exact ⟨rfl, rfl⟩
theorem wq_cutG {dst : Option Tmp} {T ty e : TypeId} {x y z : Operand} {pos : String} {after : Array Edge} {p : Addr} {n cap : Nat} {lo hi : Int} (hu : P.underlying T = some (.slice e)) (he : (P.info? e).map (·.size) = some 1)
    (hx : a.eval x = .slice (some p) n cap) (hy : a.eval y = .int .i64 lo) (hz : a.eval z = .int .i64 hi) (h0 : 0 ≤ lo) (h1 : lo ≤ hi) (h2 : hi ≤ (cap : Int)) (h3 : lo < (cap : Int))
    (h : wpQuiet P ops (fun w' => Fr w0 w' L) Q rest (a.put dst (.slice (some (p.add lo.toNat)) (hi - lo).toNat (cap - lo.toNat)))) :
    wpQuiet P ops (fun w' => Fr w0 w' L) Q (⟨dst, .slice T x (some y) (some z) none, ty, pos, after, none⟩ :: rest) a :=
  wq_pure (fun w => by simp only [execOp, hx, hy, hz, Option.map_some, Option.map_none, Sem.run_bind, run_cutG hu he h0 h1 h2 h3, Result.andThen_ok, Sem.run_pure]) h
theorem wq_toSt {dst : Option Tmp} {S T ty e : TypeId} {x : Operand} {pos : String} {after : Array Edge} (l : List UInt8) (hS : P.underlying S = some (.slice e)) (he : P.underlying e = some (.int .u8)) (hT : P.underlying T = some .string)
    {p : Option Addr} {n c : Nat} (hx : a.eval x = .slice p n c) (hn : l.length = n) (hl : ∀ w, Fr w0 w L → Sl w p (bs l))
    (h : wpQuiet P ops (fun w' => Fr w0 w' L) Q rest (a.put dst (St l))) :
    wpQuiet P ops (fun w' => Fr w0 w' L) Q (⟨dst, .convert S T x, ty, pos, after, none⟩ :: rest) a := by
  subst hn
  refine wq_step rfl (fun w hF => ?_) h
  unfold Oper.quietAt
  simp only [execOp, hx, Sem.run_bind, run_string_fr hS he hT (hl w hF), Result.andThen_ok, Sem.run_pure]
  exact ⟨rfl, rfl⟩
theorem wq_neqSt {dst : Option Tmp} {T ty T' : TypeId} {x y : Operand} {pos : String} {after : Array Edge} {l m : List UInt8} (hx : a.eval x = St l) (hy : a.eval y = St m)
    (h : wpQuiet P ops (fun w' => Fr w0 w' L) Q rest (a.put dst (.bool (!decide (l = m))))) :
    wpQuiet P ops (fun w' => Fr w0 w' L) Q (⟨dst, .binOp .neq T x y T', ty, pos, after, none⟩ :: rest) a :=
  wq_bin hx hy rfl (fun w => run_neqSt w) h
theorem wq_lenB {dst : Option Tmp} {x : Operand} {T ty e : TypeId} {pos : String} {after : Array Edge} {p : Option Addr} {n c : Nat} (hT : P.underlying T = some (.slice e)) (hx : a.eval x = .slice p n c)
    (h : wpQuiet P ops (fun w' => Fr w0 w' L) Q rest (a.put dst (.int .i64 n))) :
    wpQuiet P ops (fun w' => Fr w0 w' L) Q (⟨dst, .call { callee := .builtin .len, args := #[x], argTypes := #[T] }, ty, pos, after, none⟩ :: rest) a := by
  refine wq_step rfl (fun w _ => ?_) h
  unfold Oper.quietAt execOp
  simp [resolve, invoke, builtin, Sem.run_bind, Sem.run_pure, Builtin.len_, hx, run_underlying hT, goInt]
  exact ⟨rfl, rfl⟩
theorem wq_neqInt {dst : Option Tmp} {x y : Operand} {T ty T' : TypeId} {pos : String} {after : Array Edge} {m n : Int} (hx : a.eval x = .int .i64 m) (hy : a.eval y = .int .i64 n)
    (h : wpQuiet P ops (fun w' => Fr w0 w' L) Q rest (a.put dst (.bool (m != n)))) : wpQuiet P ops (fun w' => Fr w0 w' L) Q (⟨dst, .binOp .neq T x y T', ty, pos, after, none⟩ :: rest) a :=
  wq_bin hx hy rfl (fun w => rfl) h
end
section
variable {P : Program} {ops : Array Oper} {rest : List (LE × Oper)} {Q : Act → World → Prop} {a : Act} {w0 : World} {K M : List Blk} {i : Nat}
theorem wpLine_lenB {dst : Option Tmp} {x : Operand} {T ty e : TypeId} {pos : String} {after : Array Edge} {g : Option (Nat × Bool)} {p : Option Addr} {n c : Nat} (hT : P.underlying T = some (.slice e))
    (hw : Region.wanted ⟨dst, .call { callee := .builtin .len, args := #[x], argTypes := #[T] }, ty, pos, after, g⟩ (yielded ops a.tmps) = true) (hx : a.eval x = .slice p n c)
    (h : wpLine P ops w0 Q rest (a.put dst (.int .i64 n)) K M) :
    wpLine P ops w0 Q ((ln i, ⟨dst, .call { callee := .builtin .len, args := #[x], argTypes := #[T] }, ty, pos, after, g⟩) :: rest) a K M := by
  refine wpLine_run hw fun w R hF => ⟨.int .i64 n, w, [], M, .inl ?_, by simpa using hF, by simpa using h⟩
  simp [execOp, resolve, invoke, builtin, Sem.run_bind, Sem.run_pure, Builtin.len_, hx, run_underlying hT, goInt]
end
theorem bs_cut (l : List UInt8) (o m : Nat) : ((bs l).drop o).take m = bs ((l.drop o).take m) := by simp [bs, List.map_drop, List.map_take]
end Go.Proofs.Ytjjkndbkjnfimaa
