/-
  MORE LAWS FOR SLICES: len, compares, reads and cuts whatever the address. No Go function is named here.
-/
import Derived.Test.YtjjkndbkjnfimaaInts
namespace Go.Proofs.Ytjjkndbkjnfimaa
set_option linter.unusedSimpArgs false
set_option linter.unusedVariables false
open Go.RowKit

section
variable {P : Program} {ops : Array Oper} {rest : List Oper} {Q : Act → Prop} {a : Act} {w0 : World} {L : List Blk}
theorem wq_lenS {dst : Option Tmp} {x : Operand} {T ty e : TypeId} {pos : String} {after : Array Edge} {p : Option Addr} {n c : Nat} (hT : P.underlying T = some (.slice e)) (hx : a.eval x = .slice p n c)
    (h : wpQuiet P ops (fun w' => Fr w0 w' L) Q rest (a.put dst (.int .i64 n))) :
    wpQuiet P ops (fun w' => Fr w0 w' L) Q (⟨dst, .call { callee := .builtin .len, args := #[x], argTypes := #[T] }, ty, pos, after, none⟩ :: rest) a := by
  refine wq_step rfl (fun w _ => ?_) h
  unfold Oper.quietAt execOp
  simp [resolve, invoke, builtin, Sem.run_bind, Sem.run_pure, Builtin.len_, hx, run_underlying hT, goInt]
  exact ⟨rfl, rfl⟩
theorem wq_lssI {dst : Option Tmp} {x y : Operand} {T ty T' : TypeId} {pos : String} {after : Array Edge} {m n : Int} (hx : a.eval x = .int .i64 m) (hy : a.eval y = .int .i64 n)
    (h : wpQuiet P ops (fun w' => Fr w0 w' L) Q rest (a.put dst (.bool (decide (m < n))))) : wpQuiet P ops (fun w' => Fr w0 w' L) Q (⟨dst, .binOp .lss T x y T', ty, pos, after, none⟩ :: rest) a :=
  wq_bin hx hy rfl (fun w => rfl) h
theorem wq_idxG {dst : Option Tmp} {T ty : TypeId} {x y : Operand} {pos : String} {after : Array Edge} {p : Addr} {n c : Nat} {e : TypeId} {k : Int}
    (hx : a.eval x = .slice (some p) n c) (hy : a.eval y = .int .i64 k) (hu : P.underlying T = some (.slice e)) (he : (P.info? e).map (·.size) = some 1) (h0 : 0 ≤ k) (h1 : k < n)
    (h : wpQuiet P ops (fun w' => Fr w0 w' L) Q rest (a.put dst (.pointer (some (p.add k.toNat))))) :
    wpQuiet P ops (fun w' => Fr w0 w' L) Q (⟨dst, .indexAddr T x y, ty, pos, after, none⟩ :: rest) a := by
  refine wq_pure (v := .pointer (some (p.add k.toNat))) (fun w => ?_) h
  cases hq : P.info? e with
  | none => simp [hq] at he
  | some inf =>
    have hs : inf.size = 1 := by simpa [hq] using he
    simp [execOp, hx, hy, Instr.indexAt, run_underlying hu, asIntOf, h0, h1, sizeOf, typeInfo, hq, hs]
theorem wq_loadC {dst : Option Tmp} {T ty : TypeId} {x : Operand} {pos : String} {after : Array Edge} {p : Addr} {kd : IntKind} {v : Value}
    (hx : a.eval x = .pointer (some p)) (hu : P.underlying T = some (.int kd)) (hi : ∀ w, Fr w0 w L → w.cell? p = some v)
    (h : wpQuiet P ops (fun w' => Fr w0 w' L) Q rest (a.put dst v)) :
    wpQuiet P ops (fun w' => Fr w0 w' L) Q (⟨dst, .load T x, ty, pos, after, none⟩ :: rest) a := by
  refine wq_step rfl (fun w hF => ?_) h
  unfold Oper.quietAt execOp
  simp only [hx, Instr.loadAt, Instr.sureAddr, Sem.run_bind, Sem.run_pure, Result.andThen_ok, run_loadCell hu (hi w hF)]
  exact ⟨rfl, rfl⟩
end

theorem sliced_q {p : Option Addr} {n cap lo : Nat} (h1 : lo ≤ n) (h2 : n ≤ cap) : ∃ q, sliced p lo n cap 1 = .slice q (n - lo) (cap - lo) ∧ ∀ (w : World) (cs : List Value), Sl w p cs → cs.length = n → Sl w q (cs.drop lo) := by
  unfold sliced
  by_cases h : cap = lo
  · rw [if_pos h]
    refine ⟨p, rfl, fun w cs hs hn => ?_⟩
    rw [List.drop_eq_nil_of_le (by omega)]
    exact Sl.nil _ _
  · rw [if_neg h]
    refine ⟨p.map (·.add (lo * 1)), rfl, fun w cs hs hn => ?_⟩
    rcases Nat.eq_or_lt_of_le h1 with h3 | h3
    · rw [List.drop_eq_nil_of_le (by omega)]
      exact Sl.nil _ _
    · obtain ⟨x, rfl⟩ := hs.addr (by omega)
      have := hs.sub lo (n - lo)
      rw [List.take_of_length_le (by simp; omega)] at this
      simpa using this
theorem run_cut_loG {P : Program} {T e : TypeId} {p : Option Addr} {n cap lo : Nat} (hu : P.underlying T = some (.slice e)) (he : (P.info? e).map (·.size) = some 1) (h1 : lo ≤ n) (w : World) :
    (Instr.sliceAt T (.slice p n cap) (some (.int .i64 (lo : Int))) none none).run P w = .ok (sliced p lo n cap 1) w := by
  obtain ⟨hu', hel⟩ := elem_of hu
  rw [run_sliceAt_slice w T _ _ _ _ hu', run_slice_l w T _ n cap hu' .i64 (lo : Int) (by omega) (by omega), hel]
  cases hq : P.info? e with
  | none => simp [hq] at he
  | some i =>
    have hs : i.size = 1 := by simpa [hq] using he
    simp [sizeOf, typeInfo, hq, hs]
section
variable {P : Program} {ops : Array Oper} {rest : List Oper} {Q : Exit → Act → World → Prop} {a : Act} {w0 w : World} {L : List Blk}
theorem wpl_cut_loG {dst : Option Tmp} {T ty e : TypeId} {x y : Operand} {pos : String} {after : Array Edge} {p : Option Addr} {n cap lo : Nat} (hu : P.underlying T = some (.slice e)) (he : (P.info? e).map (·.size) = some 1)
    (hx : a.eval x = .slice p n cap) (hy : a.eval y = .int .i64 (lo : Int)) (h1 : lo ≤ n) (h2 : n ≤ cap)
    (h : ∀ q, (∀ (w' : World) (cs : List Value), Sl w' p cs → cs.length = n → Sl w' q (cs.drop lo)) → wpList P ops Q rest (a.put dst (.slice q (n - lo) (cap - lo))) w) :
    wpList P ops Q (⟨dst, .slice T x (some y) none none, ty, pos, after, none⟩ :: rest) a w := by
  obtain ⟨q, hq, hs⟩ := sliced_q (p := p) h1 h2
  exact wpl_here (v := .slice q (n - lo) (cap - lo)) (by simp only [execOp, hx, hy, Option.map_some, Option.map_none, Sem.run_bind, run_cut_loG hu he h1, Result.andThen_ok, Sem.run_pure, hq]) (h q hs)
/-- append onto nil of nothing. -/
theorem wpl_append_none {dst : Option Tmp} {s x : Operand} {t ty : TypeId} {pos : String} {after : Array Edge} {e : TypeId} {z : Value} {bytes : Nat} (ht : P.underlying t = some (.slice e)) (he : Elem P e z bytes)
    {c : Nat} {p : Option Addr} (hsv : a.eval s = .slice none 0 0) (hxv : a.eval x = .slice p 0 c)
    (h : wpList P ops Q rest (a.put dst (.slice none 0 0)) w) :
    wpList P ops Q (⟨dst, .call { callee := .builtin .append, args := #[s, x], argTypes := #[t, t] }, ty, pos, after, none⟩ :: rest) a w := by
  obtain ⟨i, hi, hz, hsz, hby⟩ := he.info
  have hr : (Builtin.append_ #[t, t] ty #[.slice none 0 0, .slice p 0 c]).run P w = .ok (.slice none 0 0) w := by
    have hsrc := src_of (w := w) (a := p) (c := c) (news := []) ht (Sl.nil w p) (by simp)
    have h1 := hsrc.len
    have h2 := hsrc.cells
    simp only [List.length_nil] at h1 h2
    simp [Builtin.append_, run_underlying ht, sizeOf, typeInfo, hi, hsz, h1, h2]
  refine wpList_plain rfl fun K hK => ?_
  unfold Oper.wp
  simp only [execOp, resolve, invoke, builtin, Sem.run_bind, Sem.run_pure, Result.andThen_ok, List.map_toArray, List.map_cons, List.map_nil, hsv, hxv, hr]
  exact hK _ _ h
end
end Go.Proofs.Ytjjkndbkjnfimaa
