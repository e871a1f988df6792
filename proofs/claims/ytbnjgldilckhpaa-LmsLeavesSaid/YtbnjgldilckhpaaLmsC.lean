/-
  LAWS for the walks of Check: cuts that may leave nothing, an array of two ids, its slice. No Go function is named here.
-/
import Derived.Test.YtbnjgldilckhpaaLmsSign
namespace Go.Proofs.Ytbnjgldilckhpaa
set_option linter.unusedSimpArgs false
set_option linter.unusedVariables false
open Go.RowKit

theorem Sl.drop {w : World} {x : Addr} {cs : List Value} (h : Sl w (some x) cs) (o : Nat) : Sl w (some (x.add o)) (cs.drop o) := by
  have := h.sub o cs.length
  rwa [List.take_of_length_le (by simp)] at this
theorem bs_drop (l : List UInt8) (o : Nat) : (bs l).drop o = bs (l.drop o) := by simp [bs, List.map_drop]
theorem bs_take (l : List UInt8) (o : Nat) : (bs l).take o = bs (l.take o) := by simp [bs, List.map_take]
theorem sliced_q {p : Option Addr} {n cap lo : Nat} (h1 : lo ≤ n) (h2 : n ≤ cap) : ∃ q, sliced p lo n cap 1 = .slice q (n - lo) (cap - lo) ∧ ∀ (w : World) (cs : List Value), Sl w p cs → cs.length = n → Sl w q (cs.drop lo) := by
  unfold sliced
  by_cases h : cap = lo
  · rw [if_pos h]
    refine ⟨p, rfl, fun w cs hs hn => ?_⟩
    rw [List.drop_eq_nil_of_le (by omega)]
    exact Sl.nil _ _
  · rw [if_neg h]
    refine ⟨p.map (·.add (lo * 1)), rfl, fun w cs hs hn => ?_⟩
    rcases Nat.eq_or_lt_of_le h1 with h3 | h3
    · rw [List.drop_eq_nil_of_le (by omega)]
      exact Sl.nil _ _
    · obtain ⟨x, rfl⟩ := hs.addr (by omega)
      have := hs.sub lo (n - lo)
      rw [List.take_of_length_le (by simp; omega)] at this
      simpa using this
theorem run_cut_loG {P : Program} {T e : TypeId} {p : Option Addr} {n cap lo : Nat} (hu : P.underlying T = some (.slice e)) (he : (P.info? e).map (·.size) = some 1) (h1 : lo ≤ n) (w : World) :
    (Instr.sliceAt T (.slice p n cap) (some (.int .i64 (lo : Int))) none none).run P w = .ok (sliced p lo n cap 1) w := by
  obtain ⟨hu', hel⟩ := elem_of hu
  rw [run_sliceAt_slice w T _ _ _ _ hu', run_slice_l w T _ n cap hu' .i64 (lo : Int) (by omega) (by omega), hel]
  cases hq : P.info? e with
  | none => simp [hq] at he
  | some i =>
    have hs : i.size = 1 := by simpa [hq] using he
    simp [sizeOf, typeInfo, hq, hs]
theorem run_sliceR {P : Program} {T e : TypeId} {n s : Nat} {p : Addr} (hu : P.underlying T = some (.array n e)) (he : (P.info? e).map (·.size) = some s) (w : World) :
    (Instr.sliceAt T (.pointer (some p)) none none none).run P w = .ok (.slice (some p) n n) w := by
  obtain ⟨hu', h2, h1⟩ := arr_of hu
  rw [run_sliceAt_array_all w T _ hu', h1, h2]
  cases hq : P.info? e with
  | none => simp [hq] at he
  | some i =>
    have hs : i.size = s := by simpa [hq] using he
    have e0 : p.add 0 = p := by unfold Addr.add; rfl
    simp [sizeOf, typeInfo, hq, hs, slicedAt, e0]
theorem run_build2 {P : Program} {t e : TypeId} (hu : P.underlying t = some (.array 2 e)) (hz : ∀ w, (zeroValue t).run P w = .ok (.agg (bs (List.replicate 64 0)).toArray) w) (he : (P.info? e).map (·.size) = some 32) {u v : List UInt8} (h1 : u.length = 32) (h2 : v.length = 32) (w : World) :
    (Instr.build t #[(0, agg u), (1, agg v)]).run P w = .ok (agg (u ++ v)) w := by
  have key := fill_chunks [bs u, bs v] [] (bs (List.replicate 64 0)) 0 (fun y hy => by
    simp only [List.mem_cons, List.not_mem_nil, or_false] at hy
    rcases hy with rfl | rfl
    · rw [bs_length, h1]
    · rw [bs_length, h2]) rfl (by rw [bs_length]; rfl)
  simp only [List.nil_append, List.flatten_cons, List.flatten_nil, List.append_nil, ← bs_append] at key
  cases hq : P.info? e with
  | none => simp [hq] at he
  | some i =>
    have hs : i.size = 32 := by simpa [hq] using he
    simp only [Instr.build, Sem.run_bind, hz, Result.andThen_ok, run_underlying hu, sizeOf, typeInfo, run_program, hq, hs, Sem.run_pure]
    rw [show (Value.agg (bs (List.replicate 64 0)).toArray).cells = (bs (List.replicate 64 0)).toArray from rfl, show ([(0, agg u), (1, agg v)] : List (Nat × Value)) = ([bs u, bs v].zipIdx 0).map (fun p => (p.2, Value.agg p.1.toArray)) from rfl, key]
    rfl

section
variable {P : Program} {ops : Array Oper} {rest : List Oper} {Q : Exit → Act → World → Prop} {a : Act} {w0 w : World} {L : List Blk}
theorem wpl_cut_loG {dst : Option Tmp} {T ty e : TypeId} {x y : Operand} {pos : String} {after : Array Edge} {p : Option Addr} {n cap lo : Nat} (hu : P.underlying T = some (.slice e)) (he : (P.info? e).map (·.size) = some 1)
    (hx : a.eval x = .slice p n cap) (hy : a.eval y = .int .i64 (lo : Int)) (h1 : lo ≤ n) (h2 : n ≤ cap)
    (h : ∀ q, (∀ (w' : World) (cs : List Value), Sl w' p cs → cs.length = n → Sl w' q (cs.drop lo)) → wpList P ops Q rest (a.put dst (.slice q (n - lo) (cap - lo))) w) :
    wpList P ops Q (⟨dst, .slice T x (some y) none none, ty, pos, after, none⟩ :: rest) a w := by
  obtain ⟨q, hq, hs⟩ := sliced_q (p := p) h1 h2
  exact wpl_here (v := .slice q (n - lo) (cap - lo)) (by simp only [execOp, hx, hy, Option.map_some, Option.map_none, Sem.run_bind, run_cut_loG hu he h1, Result.andThen_ok, Sem.run_pure, hq]) (h q hs)
theorem wpl_build2 {dst : Option Tmp} {t ty e : TypeId} {x y : Operand} {pos : String} {after : Array Edge} (hu : P.underlying t = some (.array 2 e)) (hz : ∀ w, (zeroValue t).run P w = .ok (.agg (bs (List.replicate 64 0)).toArray) w) (he : (P.info? e).map (·.size) = some 32) {u v : List UInt8} (hx : a.eval x = agg u) (hy : a.eval y = agg v) (h1 : u.length = 32) (h2 : v.length = 32)
    (h : wpList P ops Q rest (a.put dst (agg (u ++ v))) w) : wpList P ops Q (⟨dst, .build t #[(0, x), (1, y)], ty, pos, after, none⟩ :: rest) a w :=
  wpl_here (by simp only [execOp, List.map_toArray, List.map_cons, List.map_nil, hx, hy, Sem.run_bind, run_build2 hu hz he h1 h2, Result.andThen_ok, Sem.run_pure]) h
end
section
variable {P : Program} {ops : Array Oper} {rest : List Oper} {Q : Act → Prop} {a : Act} {w0 : World} {L : List Blk}
theorem wq_sliceR {dst : Option Tmp} {T ty e : TypeId} {x : Operand} {pos : String} {after : Array Edge} {n s : Nat} {p : Addr} (hx : a.eval x = .pointer (some p)) (hu : P.underlying T = some (.array n e)) (he : (P.info? e).map (·.size) = some s)
    (h : wpQuiet P ops (fun w' => Fr w0 w' L) Q rest (a.put dst (.slice (some p) n n))) :
    wpQuiet P ops (fun w' => Fr w0 w' L) Q (⟨dst, .slice T x none none none, ty, pos, after, none⟩ :: rest) a :=
  wq_pure (fun w => by simp only [execOp, hx, Option.map_none, Sem.run_bind, run_sliceR hu he, Result.andThen_ok, Sem.run_pure]) h
end
theorem zero2 : ∀ w, (zeroValue 74).run Try.prog w = .ok (.agg (bs (List.replicate 64 0)).toArray) w := (zero_of_info (n := 64) (by kernel_rfl)).1
theorem info_two {l : List UInt8} (h : l.length = 64) : (Try.prog.info? 74).map (·.size) = some (bs l).length := by
  rw [bs_length, h]
  kernel_rfl
end Go.Proofs.Ytbnjgldilckhpaa
