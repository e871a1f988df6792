/-
  'append(s, make([]T, n)...)' onto an own row: n noughts more. No Go function is named here.
-/
import Derived.Test.YtjjkndbkjnfimaaOwn
namespace Go.Proofs.Ytjjkndbkjnfimaa
set_option linter.unusedSimpArgs false
set_option linter.unusedVariables false
open Go.RowKit

section
variable {P : Program} {w0 w : World} {L : List Blk}

theorem zeroCells_one {z : Value} (h1 : z.cells.size = 1) (n : Nat) : Builtin.zeroCells z.cells n = (List.replicate n (z.cells[0]!)).toArray := by
  have := madeCells_one h1 n
  unfold madeCells at this
  unfold Builtin.zeroCells
  rw [h1, Nat.mul_one]
  rw [h1] at this
  exact this

theorem run_appendMake_fr (hF : Fr w0 w L) {t tx ty e : TypeId} {i : TypeInfo} {z : Value} {bytes : Nat} (ht : P.underlying t = some (.slice e)) (htx : P.underlying tx = some (.int .i64)) (hi : P.info? e = some i) (hz : i.zero = some z) (hsz : i.size = 1) (hby : i.bytes = bytes) (hzs : z.cells.size = 1) (hz1 : (z.cells[0]!).oneCell' = true)
    {k b : Nat} {xs tail : List Value} (hk : L[k]? = some ⟨b, xs ++ tail, e⟩) {n : Nat} (hn0 : 0 < n)
    (h63 : xs.length + n ≤ 1099511627776) (hbytes : (xs.length + n) * bytes ≤ 140737488355328) :
    ∃ b' tail' w', (Builtin.append_ #[t, tx] ty #[.slice (some ⟨b, 0, none⟩) xs.length (xs.length + tail.length), .int .i64 (n : Int)]).run P w =
      .ok (.slice (some ⟨b', 0, none⟩) (xs.length + n) (xs.length + n + tail'.length)) w' ∧ Fr w0 w' (L.set k ⟨b', xs ++ List.replicate n (z.cells[0]!) ++ tail', e⟩) := by
  have wl : IntKind.i64.wrap (n : Int) = (n : Int) := IntWalk.i64_in _ (by omega)
  have n1 : ¬ ((n : Int) < 0) := by omega
  have hnb : n * bytes ≤ (xs.length + n) * bytes := Nat.mul_le_mul_right _ (by omega)
  have n2 : ¬ ((281474976710656 : Int) < (n : Int) * (bytes : Int)) := by
    have h : ((n * bytes : Nat) : Int) ≤ 140737488355328 := by omega
    rw [Int.natCast_mul] at h
    omega
  have n3 : ¬ (n = 0) := by omega
  by_cases hroom : xs.length + n ≤ xs.length + tail.length
  · have hst := run_storeCells_at P b xs.length e (List.replicate n (z.cells[0]!)) 0 (xs ++ tail).toArray w (hF.row hk) (by simpa using hroom) (by
      intro v hv
      rw [List.eq_of_mem_replicate hv]
      exact hz1)
    simp only [Nat.add_zero] at hst
    have hroom2 : n ≤ tail.length := by omega
    have hc : xs.length + n + (tail.drop n).length = xs.length + tail.length := by simp; omega
    refine ⟨b, tail.drop n, w.setRow b ((xs ++ tail).toArray.toList.take xs.length ++ List.replicate n (z.cells[0]!) ++ (xs ++ tail).toArray.toList.drop (xs.length + (List.replicate n (z.cells[0]!)).length)).toArray, ?_, ?_⟩
    · rw [hc]
      simp [Builtin.append_, run_underlying ht, run_underlying htx, sizeOf, typeInfo, hi, asInt, asIntOf, wl, n1, hby, n2, n3, hsz, zeroValue, hz, hroom, hroom2, zeroCells_one hzs, Addr.add_lit, hst]
    · have e3 : (xs ++ tail).toArray.toList.take xs.length ++ List.replicate n (z.cells[0]!) ++ (xs ++ tail).toArray.toList.drop (xs.length + (List.replicate n (z.cells[0]!)).length) = xs ++ List.replicate n (z.cells[0]!) ++ tail.drop n := by
        simp [List.drop_append]
      rw [e3]
      exact hF.setRow hk _
  · have hold := run_firstCells_some (P := P) w.drew i.size xs.length ⟨b, 0, none⟩ xs.length (xs.length + tail.length) xs (by simp [hsz]) (fun j v hv => by
      rw [Addr.add_lit, World.cell?_drew, hF.cell hk, Nat.zero_add, List.getElem?_append_left (List.getElem?_eq_some_iff.1 hv).1]
      exact hv)
    have hfit := growslice_fits (need := xs.length + n) (old := xs.length + tail.length) (bytes := bytes) (by omega) hbytes
    have hge := grownCap_ge w (xs.length + n) (xs.length + tail.length) e
    have hroom2 : ¬ n ≤ tail.length := by omega
    have h63' : ¬ (9223372036854775807 < ((xs.length : Int) + (n : Int))) := by omega
    have h48' : ¬ (281474976710656 < Builtin.nextslicecap (xs.length + n) (xs.length + tail.length) * bytes) := by omega
    rw [hsz] at hold
    obtain ⟨G, hG⟩ : ∃ G, G = grownCap w (xs.length + n) (xs.length + tail.length) e := ⟨_, rfl⟩
    rw [← hG] at hge
    have hc : xs.length + n + (List.replicate (G - (xs.length + n)) (z.cells[0]!)).length = G := by simp; omega
    refine ⟨w.heap.size, List.replicate (G - (xs.length + n)) (z.cells[0]!), w.drew.alloc (.cells (xs ++ List.replicate n (z.cells[0]!) ++ List.replicate (G - (xs.length + n)) (z.cells[0]!)).toArray e), ?_, ?_⟩
    · rw [hc, hG]
      simp [Builtin.append_, run_underlying ht, run_underlying htx, sizeOf, typeInfo, hi, asInt, asIntOf, wl, n1, hby, n2, n3, hsz, zeroValue, hz, hroom, hroom2, h63', h48', Question.forced, hold, newRow, grownCap, zeroCells_one hzs]
      congr 1; congr 1; apply Array.ext'; simp
    · exact (hF.drew.alloc (xs ++ List.replicate n (z.cells[0]!) ++ List.replicate (G - (xs.length + n)) (z.cells[0]!)) e).swap k
end
section
variable {P : Program} {ops : Array Oper} {rest : List Oper} {Q : Exit → Act → World → Prop} {a : Act} {w0 w : World} {L : List Blk}
theorem wpl_appendMake (hF : Fr w0 w L) (k : Nat) (xs tail : List Value) {dst : Option Tmp} {s x : Operand} {t tx ty : TypeId} {pos : String} {after : Array Edge} {e : TypeId} {z : Value} {bytes : Nat} (ht : P.underlying t = some (.slice e)) (htx : P.underlying tx = some (.int .i64)) (he : Elem P e z bytes) (hz1 : (z.cells[0]!).oneCell' = true)
    {b m cap : Nat} {n : Int} (hsv : a.eval s = .slice (some ⟨b, 0, none⟩) m cap) (hk : L[k]? = some ⟨b, xs ++ tail, e⟩) (hm : xs.length = m) (hcap : cap = m + tail.length)
    (hxv : a.eval x = .int .i64 n) (hn0 : 0 < n) (hn1 : n ≤ 1000000)
    (hbytes : (m + 1000000) * bytes ≤ 140737488355328) (h63 : m ≤ 1000000000)
    (h : ∀ b' cap' tail' w', cap' = m + n.toNat + tail'.length → Fr w0 w' (L.set k ⟨b', xs ++ List.replicate n.toNat (z.cells[0]!) ++ tail', e⟩) → wpList P ops Q rest (a.put dst (.slice (some ⟨b', 0, none⟩) (m + n.toNat) cap')) w') :
    wpList P ops Q (⟨dst, .call { callee := .builtin .append, args := #[s, x], argTypes := #[t, tx] }, ty, pos, after, none⟩ :: rest) a w := by
  subst hm hcap
  obtain ⟨n, rfl⟩ : ∃ k : Nat, n = (k : Int) := ⟨n.toNat, by omega⟩
  rw [Int.toNat_natCast] at h
  obtain ⟨i, hi, hz, hsz, hby⟩ := he.info
  have hb2 : (xs.length + n) * bytes ≤ (xs.length + 1000000) * bytes := Nat.mul_le_mul_right _ (by omega)
  obtain ⟨b', tail', w', hr, hF'⟩ := run_appendMake_fr (ty := ty) hF ht htx hi hz hsz hby he.one hz1 hk (n := n) (by omega) (by omega) (by omega)
  refine wpList_plain rfl fun K hK => ?_
  unfold Oper.wp
  simp only [execOp, resolve, invoke, builtin, Sem.run_bind, Sem.run_pure, Result.andThen_ok, List.map_toArray, List.map_cons, List.map_nil, hsv, hxv, hr]
  exact hK _ _ (h _ _ _ _ rfl hF')
end
end Go.Proofs.Ytjjkndbkjnfimaa
