/-
  LAWS FOR READS in a region that draws its order: cuts of arrays, fields' addresses, shifts, conversions. No Go function is named here.
-/
import Derived.Test.YtjjkndbkjnfimaaLine
import Derived.Test.YtjjkndbkjnfimaaCut
namespace Go.Proofs.Ytjjkndbkjnfimaa
set_option linter.unusedSimpArgs false
set_option linter.unusedVariables false
open Go.RowKit

section
variable {P : Program}
theorem arr_of {t e : TypeId} {n : Nat} (hu : P.underlying t = some (.array n e)) : P.underlying t = some (.array (P.arrayLen t) (P.elem t)) ∧ P.arrayLen t = n ∧ P.elem t = e := by
  have h1 : P.elem t = e := by simp [Program.elem, hu]
  have h2 : P.arrayLen t = n := by simp [Program.arrayLen, hu]
  exact ⟨by rw [h1, h2]; exact hu, h2, h1⟩
/-- 'x[:]' of an array. -/
theorem run_sliceA {T e : TypeId} {n b : Nat} (hu : P.underlying T = some (.array n e)) (he : (P.info? e).map (·.size) = some 1) (w : World) :
    (Instr.sliceAt T (.pointer (some ⟨b, 0, none⟩)) none none none).run P w = .ok (.slice (some ⟨b, 0, none⟩) n n) w := by
  obtain ⟨hu', h2, h1⟩ := arr_of hu
  rw [run_sliceAt_array_all w T _ hu', h1, h2]
  cases hq : P.info? e with
  | none => simp [hq] at he
  | some i =>
    have hs : i.size = 1 := by simpa [hq] using he
    simp [sizeOf, typeInfo, hq, hs, slicedAt, Addr.add]
/-- 'x[lo:]' of an array. -/
theorem run_sliceAl {T e : TypeId} {n b : Nat} {lo : Int} (hu : P.underlying T = some (.array n e)) (he : (P.info? e).map (·.size) = some 1) (h0 : 0 ≤ lo) (h1 : lo < (n : Int)) (w : World) :
    (Instr.sliceAt T (.pointer (some ⟨b, 0, none⟩)) (some (.int .i64 lo)) none none).run P w = .ok (.slice (some ⟨b, lo.toNat, none⟩) (n - lo.toNat) (n - lo.toNat)) w := by
  obtain ⟨hu', h3, h4⟩ := arr_of hu
  rw [run_sliceAt_array_l w T _ hu' .i64 lo h0 (by rw [h3]; omega), h3, h4]
  cases hq : P.info? e with
  | none => simp [hq] at he
  | some i =>
    have hs : i.size = 1 := by simpa [hq] using he
    have hne : ¬ (n = lo.toNat) := by omega
    simp [sizeOf, typeInfo, hq, hs, slicedAt, Addr.add, hne]
    omega
theorem run_fieldA {S : TypeId} {fs : Array Field} {f : Field} {i b s : Nat} (hu : P.underlying S = some (.struct fs)) (hf : fs[i]? = some f) (hi : (P.info? f.type).map (·.size) = some (s + 1)) (w : World) :
    (Instr.fieldAt S (.pointer (some ⟨b, 0, none⟩)) i).run P w = .ok (.pointer (some ⟨b, f.offset, none⟩)) w := by
  cases hq : P.info? f.type with
  | none => simp [hq] at hi
  | some inf =>
    have hs : inf.size = s + 1 := by simpa [hq] using hi
    simp [Instr.fieldAt, run_underlying hu, hf, Instr.sureAddr, fieldPlace, sizeOf, typeInfo, hq, hs, Addr.add]
    exact fun h => h.symm
end

section
variable {P : Program} {ops : Array Oper} {rest : List Oper} {Q : Act → Prop} {a : Act} {w0 : World} {L : List Blk}
theorem wq_sliceA {dst : Option Tmp} {T ty e : TypeId} {x : Operand} {pos : String} {after : Array Edge} {n b : Nat} (hx : a.eval x = .pointer (some ⟨b, 0, none⟩)) (hu : P.underlying T = some (.array n e)) (he : (P.info? e).map (·.size) = some 1)
    (h : wpQuiet P ops (fun w' => Fr w0 w' L) Q rest (a.put dst (.slice (some ⟨b, 0, none⟩) n n))) :
    wpQuiet P ops (fun w' => Fr w0 w' L) Q (⟨dst, .slice T x none none none, ty, pos, after, none⟩ :: rest) a :=
  wq_pure (fun w => by simp only [execOp, hx, Option.map_none, Sem.run_bind, run_sliceA hu he, Result.andThen_ok, Sem.run_pure]) h
theorem wq_sliceAl {dst : Option Tmp} {T ty e : TypeId} {x y : Operand} {pos : String} {after : Array Edge} {n b : Nat} {lo : Int} (hx : a.eval x = .pointer (some ⟨b, 0, none⟩)) (hy : a.eval y = .int .i64 lo) (hu : P.underlying T = some (.array n e)) (he : (P.info? e).map (·.size) = some 1) (h0 : 0 ≤ lo) (h1 : lo < (n : Int))
    (h : wpQuiet P ops (fun w' => Fr w0 w' L) Q rest (a.put dst (.slice (some ⟨b, lo.toNat, none⟩) (n - lo.toNat) (n - lo.toNat)))) :
    wpQuiet P ops (fun w' => Fr w0 w' L) Q (⟨dst, .slice T x (some y) none none, ty, pos, after, none⟩ :: rest) a :=
  wq_pure (fun w => by simp only [execOp, hx, hy, Option.map_some, Option.map_none, Sem.run_bind, run_sliceAl hu he h0 h1, Result.andThen_ok, Sem.run_pure]) h
theorem wq_fieldA {dst : Option Tmp} {S ty : TypeId} {x : Operand} {pos : String} {after : Array Edge} {fs : Array Field} {f : Field} {i b s : Nat} (hx : a.eval x = .pointer (some ⟨b, 0, none⟩)) (hu : P.underlying S = some (.struct fs)) (hf : fs[i]? = some f) (hi : (P.info? f.type).map (·.size) = some (s + 1))
    (h : wpQuiet P ops (fun w' => Fr w0 w' L) Q rest (a.put dst (.pointer (some ⟨b, f.offset, none⟩)))) :
    wpQuiet P ops (fun w' => Fr w0 w' L) Q (⟨dst, .fieldAddr S x i, ty, pos, after, none⟩ :: rest) a :=
  wq_pure (fun w => by simp only [execOp, hx, Sem.run_bind, run_fieldA hu hf hi, Result.andThen_ok, Sem.run_pure]) h
theorem pw24 : (2 : Int) ^ (24 : Int).toNat = 16777216 := rfl
theorem pw16 : (2 : Int) ^ (16 : Int).toNat = 65536 := rfl
theorem pw8 : (2 : Int) ^ (8 : Int).toNat = 256 := rfl
theorem shr_i64' (t : TypeId) (x n : Int) (yk : IntKind) (h : 0 ≤ n) (h2 : n ≤ 63) : binOp .shr t (.int .i64 x) (.int yk n) = pure (.int .i64 (x / 2 ^ n.toNat)) := by
  rw [binOp_shr, shift_shr_any _ _ _ _ h]
  congr 2
  show x / 2 ^ min n.toNat 64 = _
  rw [Nat.min_eq_left (by omega)]
theorem wq_shrI {dst : Option Tmp} {x y : Operand} {T ty T' : TypeId} {pos : String} {after : Array Edge} {u n : Int} {k : IntKind} (hx : a.eval x = .int .i64 u) (hy : a.eval y = .int k n) (hn : 0 ≤ n) (hn2 : n ≤ 63)
    (h : wpQuiet P ops (fun w' => Fr w0 w' L) Q rest (a.put dst (.int .i64 (u / 2 ^ n.toNat)))) :
    wpQuiet P ops (fun w' => Fr w0 w' L) Q (⟨dst, .binOp .shr T x y T', ty, pos, after, none⟩ :: rest) a :=
  wq_pure (fun w => by simp only [execOp, hx, hy, Sem.run_bind, Sem.run_pure, Result.andThen_ok, shr_i64' T u n k hn hn2, show eqGuard .shr T x y (.int .i64 u) (.int k n) = pure () from rfl]) h
theorem wq_cvIB {dst : Option Tmp} {x : Operand} {T T' ty : TypeId} {pos : String} {after : Array Edge} {u : Int} (hx : a.eval x = .int .i64 u) (hs : (P.underlying T).isSome = true) (hd : P.underlying T' = some (.int .u8))
    (h : wpQuiet P ops (fun w' => Fr w0 w' L) Q rest (a.put dst (B (b8 u)))) : wpQuiet P ops (fun w' => Fr w0 w' L) Q (⟨dst, .convert T T' x, ty, pos, after, none⟩ :: rest) a :=
  wq_pure (fun w => by simp only [execOp, hx, Sem.run_bind, run_convert_int_B w T T' u hs hd, Result.andThen_ok, Sem.run_pure]) h
theorem wq_cvBI {dst : Option Tmp} {x : Operand} {T T' ty : TypeId} {pos : String} {after : Array Edge} {u : UInt8} (hx : a.eval x = B u) (hs : (P.underlying T).isSome = true) (hd : P.underlying T' = some (.int .i64))
    (h : wpQuiet P ops (fun w' => Fr w0 w' L) Q rest (a.put dst (.int .i64 (u.toNat : Int)))) : wpQuiet P ops (fun w' => Fr w0 w' L) Q (⟨dst, .convert T T' x, ty, pos, after, none⟩ :: rest) a :=
  wq_pure (fun w => by simp only [execOp, hx, Sem.run_bind, run_convert_B_int w T T' u hs hd, Result.andThen_ok, Sem.run_pure]) h
end

/-! ### A whole own block of a struct's or an array's type is read -/
section
variable {P : Program} {ops : Array Oper} {rest : List Oper} {Q : Exit → Act → World → Prop} {a : Act} {w0 w : World} {L : List Blk}
theorem wpl_loadD (hF : Fr w0 w L) {dst : Option Tmp} {T T' ty : TypeId} {x : Operand} {pos : String} {after : Array Edge} {b : Nat} {fs : Array Field} {cs : List Value}
    (hx : a.eval x = .pointer (some ⟨b, 0, none⟩))
    (hk : ∃ k : Nat, L[k]? = some ⟨b, cs, T'⟩) (hu : P.underlying T = some (.struct fs)) (hi : (P.info? T).map (·.size) = some cs.length)
    (h : wpList P ops Q rest (a.put dst (.agg cs.toArray)) w) :
    wpList P ops Q (⟨dst, .load T x, ty, pos, after, none⟩ :: rest) a w := by
  obtain ⟨k, hk⟩ := hk
  exact wpl_here (by simp only [execOp, hx, Instr.loadAt, Instr.sureAddr, Sem.run_bind, Sem.run_pure, Result.andThen_ok, run_loadVar_row w b T' T cs.toArray (0, 0) (.struct fs) (hF.row hk) hu rfl (by simpa using hi)]) h
end
section
variable {P : Program} {ops : Array Oper} {rest : List Oper} {Q : Act → Prop} {a : Act} {w0 : World} {L : List Blk}
theorem wq_loadD {dst : Option Tmp} {T T' ty : TypeId} {x : Operand} {pos : String} {after : Array Edge} {b : Nat} {fs : Array Field} {cs : List Value}
    (hx : a.eval x = .pointer (some ⟨b, 0, none⟩)) (hk : ∃ k : Nat, L[k]? = some ⟨b, cs, T'⟩) (hu : P.underlying T = some (.struct fs)) (hi : (P.info? T).map (·.size) = some cs.length)
    (h : wpQuiet P ops (fun w' => Fr w0 w' L) Q rest (a.put dst (.agg cs.toArray))) :
    wpQuiet P ops (fun w' => Fr w0 w' L) Q (⟨dst, .load T x, ty, pos, after, none⟩ :: rest) a := by
  refine wq_step rfl (fun w hF => ?_) h
  obtain ⟨k, hk⟩ := hk
  unfold Oper.quietAt execOp
  simp only [hx, Instr.loadAt, Instr.sureAddr, Sem.run_bind, Sem.run_pure, Result.andThen_ok, run_loadVar_row w b T' T cs.toArray (0, 0) (.struct fs) (hF.row hk) hu rfl (by simpa using hi)]
  exact ⟨rfl, rfl⟩
end

/-! ### Rows that were there before, and calls of function values -/
/-- The block 'b' holds just these cells. -/
def Row (w : World) (b : Nat) (cs : List Value) (T : TypeId) : Prop := b < w.heap.size ∧ w.heap[b]? = some (.cells cs.toArray T (0, 0))
theorem Row.below {w w' : World} {b : Nat} {cs : List Value} {T : TypeId} (h : Row w b cs T) (hb : Below w.heap.size w w') : Row w' b cs T := ⟨Nat.lt_of_lt_of_le h.1 hb.size, by rw [hb.block b h.1]; exact h.2⟩
theorem Row.fr {w0 w : World} {L : List Blk} {b : Nat} {cs : List Value} {T : TypeId} (h : Row w0 b cs T) (hF : Fr w0 w L) : Row w b cs T := h.below hF.below
theorem Fr.isRow {w0 w : World} {L : List Blk} (h : Fr w0 w L) {k b : Nat} {cs : List Value} {t : TypeId} (hk : L[k]? = some ⟨b, cs, t⟩) : Row w b cs t := ⟨h.lt (Fr.mem hk), h.row hk⟩
theorem Row.cell {w : World} {b : Nat} {cs : List Value} {T : TypeId} (h : Row w b cs T) (i : Nat) : w.cell? ⟨b, i, none⟩ = cs[i]? := by
  simp [World.cell?, h.2]
theorem Row.sl {w : World} {b : Nat} {cs : List Value} {T : TypeId} (h : Row w b cs T) : Sl w (some ⟨b, 0, none⟩) cs := fun j v hv => ⟨_, rfl, by rw [Addr.add_lit, h.cell, Nat.zero_add]; exact hv⟩
section
variable {P : Program} {ops : Array Oper} {rest : List Oper} {Q : Exit → Act → World → Prop} {a : Act} {w0 w : World} {L : List Blk}
theorem wpl_callV {dst : Option Tmp} {x : Operand} {f : FuncId} {caps : Array Value} {xs : Array Operand} {ts : Array TypeId} {ty : TypeId} {pos : String} {after : Array Edge} {vals : Array Value}
    (hx : a.eval x = .func (.func f) #[] caps) (hc : ∀ args w, (callFunc f args).run P w = .ok (.enter f args) w) (hxs : xs.map a.eval = vals)
    (h : Calls P f (vals ++ caps) w fun e w' => ∃ v, e = .returned v ∧ wpList P ops Q rest (a.put dst v) w') :
    wpList P ops Q (⟨dst, .call { callee := .value x, args := xs, argTypes := ts }, ty, pos, after, none⟩ :: rest) a w := by
  refine wpList_plain rfl fun K hK => ?_
  unfold Oper.wp
  simp only [execOp, resolve, hxs, hx, Deferred.ofValue, Sem.run_bind, Sem.run_pure, Result.andThen_ok, invoke, Array.empty_append, hc]
  refine h.mono ?_
  rintro e w' ⟨v, rfl, h'⟩
  exact hK _ _ h'
end
section
variable {P : Program} {ops : Array Oper} {rest : List Oper} {Q : Act → Prop} {a : Act} {w0 : World} {L : List Blk}
/-- A whole row that was there before is read. -/
theorem wq_loadRowS {dst : Option Tmp} {T T' ty : TypeId} {x : Operand} {pos : String} {after : Array Edge} {b : Nat} {fs : Array Field} {cs : List Value}
    (hx : a.eval x = .pointer (some ⟨b, 0, none⟩)) (hr : Row w0 b cs T') (hu : P.underlying T = some (.struct fs)) (hi : (P.info? T).map (·.size) = some cs.length)
    (h : wpQuiet P ops (fun w' => Fr w0 w' L) Q rest (a.put dst (.agg cs.toArray))) :
    wpQuiet P ops (fun w' => Fr w0 w' L) Q (⟨dst, .load T x, ty, pos, after, none⟩ :: rest) a := by
  refine wq_step rfl (fun w hF => ?_) h
  unfold Oper.quietAt execOp
  simp only [hx, Instr.loadAt, Instr.sureAddr, Sem.run_bind, Sem.run_pure, Result.andThen_ok, run_loadVar_row w b T' T cs.toArray (0, 0) (.struct fs) (hr.fr hF).2 hu rfl (by simpa using hi)]
  exact ⟨rfl, rfl⟩
theorem wq_loadRowA {dst : Option Tmp} {T T' ty : TypeId} {x : Operand} {pos : String} {after : Array Edge} {b n : Nat} {e : TypeId} {cs : List Value}
    (hx : a.eval x = .pointer (some ⟨b, 0, none⟩)) (hr : Row w0 b cs T') (hu : P.underlying T = some (.array n e)) (hi : (P.info? T).map (·.size) = some cs.length)
    (h : wpQuiet P ops (fun w' => Fr w0 w' L) Q rest (a.put dst (.agg cs.toArray))) :
    wpQuiet P ops (fun w' => Fr w0 w' L) Q (⟨dst, .load T x, ty, pos, after, none⟩ :: rest) a := by
  refine wq_step rfl (fun w hF => ?_) h
  unfold Oper.quietAt execOp
  simp only [hx, Instr.loadAt, Instr.sureAddr, Sem.run_bind, Sem.run_pure, Result.andThen_ok, run_loadVar_row w b T' T cs.toArray (0, 0) (.array n e) (hr.fr hF).2 hu rfl (by simpa using hi)]
  exact ⟨rfl, rfl⟩
end
end Go.Proofs.Ytjjkndbkjnfimaa
