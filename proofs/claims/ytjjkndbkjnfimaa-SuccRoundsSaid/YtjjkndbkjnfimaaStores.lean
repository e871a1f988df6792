/-
  A REGION THAT DRAWS ITS ORDER, whose operations read and reckon, but for some stores that stand in line: the reads may be taken first. Over what the kit proves of reads that are held. No Go function is named here.
-/
import Derived.Test.YtjjkndbkjnfimaaLaws
import Derived.OrdersHeld
namespace Go.Proofs.Ytjjkndbkjnfimaa
set_option linter.unusedSimpArgs false
set_option linter.unusedVariables false

/-- Operations that leave one value, and do nothing else. -/
def valued : Op → Bool
  | .move _ | .assign _ | .binOp .. | .unOp .. | .convert .. | .load .. | .indexAddr .. | .index .. | .slice .. | .fieldAddr .. | .field .. | .pick .. => true
  | _ => false
theorem execOp_valued {ρ : Operand → Value} {o : Oper} (h : valued o.op = true) : ∃ m : Sem Value, execOp ρ o = (m >>= fun x => pure (.value x)) := by
  obtain ⟨dst, op, ty, pos, after, guard⟩ := o
  cases op <;> simp only [valued, Bool.false_eq_true] at h
  all_goals first
    | exact ⟨_, rfl⟩
    | (rename_i c x y; exact ⟨asBool (ρ c) >>= fun b => pure (if b = true then ρ x else ρ y), by simp [execOp]⟩)
    | (rename_i x; exact ⟨pure (ρ x), by simp only [execOp, pure_bind]⟩)

def noP (Q : Exit → Act → World → Prop) : Exit → Act → World → Prop
  | .panic _, _, _ => False
  | e, a, w => Q e a w
theorem noP_imp {Q : Exit → Act → World → Prop} : ∀ e a w, noP Q e a w → Q e a w := by
  intro e a w h
  cases e <;> first | exact h | exact h.elim

section
variable {P : Program} {ops : Array Oper} {md : Region.Mode} {S : World → Prop}

theorem run_of_quiet {o : Oper} {a : Act} {v : Value} (hv : valued o.op = true) (h : ∀ w, S w → o.quietAt P a S w v) : ∀ w, S w → (execOp a.eval o).run P w = .ok (.value v) w := by
  intro w hw
  have hq := h w hw
  obtain ⟨m, hm⟩ := execOp_valued (ρ := a.eval) hv
  unfold Oper.quietAt at hq
  rw [hm, Sem.run_bind] at hq ⊢
  cases hr : m.run P w with
  | ok x w' =>
    simp only [hr, Result.andThen_ok, Sem.run_pure, Oper.quietUpon] at hq ⊢
    obtain ⟨h1, h2⟩ := hq
    first | (subst h1; subst h2; rfl) | (subst h2; subst h1; rfl) | (rw [h1, h2])
  | _ => simp [hr, Result.andThen, Oper.quietUpon] at hq

def takesB (md : Region.Mode) (ops : Array Oper) : List Nat → Array Bool → Bool
  | [], _ => true
  | i :: is, listed => (match ops[i]? with
    | some o => valued o.op && o.guard.isNone
    | none => false) && Region.free md ops listed i && (Region.ready md ops listed).contains i && takesB md ops is (listed.setIfInBounds i true)
def after_ (qs : List Nat) (listed : Array Bool) : Array Bool := qs.foldl (fun l i => l.setIfInBounds i true) listed
def lineB (md : Region.Mode) (ops : Array Oper) : List Nat → Array Bool → Bool
  | [], listed => Region.ready md ops listed == []
  | i :: is, listed => (match ops[i]? with
    | some o => o.guard.isNone
    | none => false) && (Region.ready md ops listed == [i]) && lineB md ops is (listed.setIfInBounds i true)
def storesB (md : Region.Mode) (ops : Array Oper) (qs cs : List Nat) : Bool :=
  Region.noSelect ops && decide (qs.length + cs.length = ops.size) && takesB md ops qs (Array.replicate ops.size false) && lineB md ops cs (after_ qs (Array.replicate ops.size false))

/-- The stores, one behind the other; behind each the condition holds. -/
def wpStores (P : Program) (Q : Exit → Act → World → Prop) (S : World → Prop) : List Oper → Act → World → Prop
  | [], a, w => Q .normal a w
  | o :: rest, a, w => ∃ v w', (((execOp a.eval o).run P w = .ok .skip w' ∧ v = undef) ∨ (execOp a.eval o).run P w = .ok (.value v) w') ∧ S w' ∧ wpStores P Q S rest (a.put o.dst v) w'

theorem takes_ok {Q : Exit → Act → World → Prop} (hsel : Region.noSelect ops = true) {w : World} (hS : S w) {K : Act → Prop} {fuel : Nat} :
    ∀ (qs : List Nat) (listed : Array Bool) (a : Act), takesB md ops qs listed = true → wpQuiet P ops S K (qs.filterMap (ops[·]?)) a →
    (∀ a', K a' → wpAnyH P md ops (noP Q) S fuel (after_ qs listed) a' w) → wpAnyH P md ops (noP Q) S (qs.length + fuel) listed a w := by
  intro qs
  induction qs with
  | nil => intro listed a _ h hK; rw [List.length_nil, Nat.zero_add]; exact hK a h
  | cons i is ih =>
    intro listed a hB h hK
    simp only [takesB, Bool.and_eq_true] at hB
    obtain ⟨⟨⟨h1, hf⟩, hr⟩, hB'⟩ := hB
    cases ho : ops[i]? with
    | none => simp [ho] at h1
    | some o =>
      simp only [ho, Bool.and_eq_true] at h1
      obtain ⟨hv, hg⟩ := h1
      have hg' : o.guard = none := by simpa using hg
      have hwant : Region.wanted o (yielded ops a.tmps) = true := by simp [Region.wanted, hg']
      rw [List.filterMap_cons_some ho] at h
      unfold wpQuiet at h
      rw [if_pos hwant] at h
      obtain ⟨v, hq, h⟩ := h
      rw [List.length_cons, Nat.add_right_comm]
      refine wpAnyH_take ho hsel hf hr (fun c a w h => h.elim) (.inl ⟨hwant, run_of_quiet hv hq⟩) hS ?_
      exact ih _ _ hB' h hK

theorem stores_ok {Q : Exit → Act → World → Prop} : ∀ (cs : List Nat) (listed : Array Bool) (a : Act) (w : World), lineB md ops cs listed = true → wpStores P Q S (cs.filterMap (ops[·]?)) a w →
    wpAnyH P md ops (noP Q) S cs.length listed a w := by
  intro cs
  induction cs with
  | nil =>
    intro listed a w hB h
    simp only [lineB, beq_iff_eq] at hB
    exact ⟨hB, h⟩
  | cons i is ih =>
    intro listed a w hB h
    simp only [lineB, Bool.and_eq_true, beq_iff_eq] at hB
    obtain ⟨⟨h1, hr⟩, hB'⟩ := hB
    cases ho : ops[i]? with
    | none => simp [ho] at h1
    | some o =>
      simp only [ho] at h1
      have hg' : o.guard = none := by simpa using h1
      rw [List.filterMap_cons_some ho] at h
      obtain ⟨v, w', hrun, hS, h⟩ := h
      refine wpAnyH_all hr (by simp) fun j hj => ?_
      simp only [List.mem_singleton] at hj
      subst hj
      unfold wpOp
      simp only [ho]
      rw [if_pos (by simp [Region.wanted, hg'])]
      refine .inl ?_
      unfold Oper.wp
      rcases hrun with ⟨hrun, rfl⟩ | hrun
      · rw [hrun]
        exact ⟨hS, ih _ _ _ hB' h⟩
      · rw [hrun]
        exact ⟨hS, ih _ _ _ hB' h⟩

theorem wp_region_stores {id : Nat} {Q : Exit → Act → World → Prop} {a : Act} {w : World} {l : List Oper} (S : World → Prop) (qs cs : List Nat) (hm : P.follows .mixedOrders = true) (hB : storesB .any l.toArray qs cs = true) (hS : S w.drew)
    (h : wpQuiet P l.toArray S (fun a' => wpStores P Q S (cs.filterMap (l.toArray[·]?)) a' w.drew) (qs.filterMap (l.toArray[·]?)) a) : (Code.region id l.toArray true).wp P Q a w := by
  simp only [storesB, Bool.and_eq_true, decide_eq_true_eq] at hB
  obtain ⟨⟨⟨hsel, hsz⟩, hT⟩, hL⟩ := hB
  refine Code.wp_mono noP_imp (wp_region_held (S := S) hm ?_)
  rw [← hsz]
  exact takes_ok hsel hS qs _ _ (by rw [hsz]; exact hT) h fun a' hK => by
    have := stores_ok (P := P) (md := .any) cs (after_ qs (Array.replicate l.toArray.size false)) a' w.drew hL hK
    rw [hsz]
    exact this
end

section
variable {P : Program} {rest : List Oper} {Q : Exit → Act → World → Prop} {S : World → Prop} {a : Act} {w0 w : World} {L : List Blk}
theorem wps_idxA (hS : S w) {dst : Option Tmp} {T ty : TypeId} {x y : Operand} {pos : String} {after : Array Edge} {g : Option (Nat × Bool)} {b n : Nat} {e : TypeId} {k : Int}
    (hx : a.eval x = .pointer (some ⟨b, 0, none⟩)) (hy : a.eval y = .int .i64 k) (hu : P.underlying T = some (.array n e)) (he : (P.info? e).map (·.size) = some 1) (h0 : 0 ≤ k) (h1 : k < n)
    (h : wpStores P Q S rest (a.put dst (.pointer (some ⟨b, k.toNat, none⟩))) w) :
    wpStores P Q S (⟨dst, .indexAddr T x y, ty, pos, after, g⟩ :: rest) a w :=
  ⟨_, w, .inr (by simp only [execOp, hx, hy, Sem.run_bind, run_idxA hu he h0 h1, Result.andThen_ok, Sem.run_pure]), hS, h⟩
/-- A byte of an own block is stored. -/
theorem wps_storeB (hF : Fr w0 w L) (k : Nat) {T T' ty : TypeId} {x y : Operand} {pos : String} {after : Array Edge} {b i : Nat} {l : List UInt8} {u : UInt8} {g : Option (Nat × Bool)}
    (hx : a.eval x = .pointer (some ⟨b, i, none⟩)) (hy : a.eval y = B u) (hk : L[k]? = some ⟨b, bs l, T'⟩) (hs : (P.info? T).map (·.size) = some 1) (hi : i < l.length) (hS : ∀ w', Fr w0 w' (L.set k ⟨b, bs (l.set i u), T'⟩) → S w')
    (h : ∀ w', Fr w0 w' (L.set k ⟨b, bs (l.set i u), T'⟩) → wpStores P Q S rest a w') :
    wpStores P Q S (⟨none, .store T x y, ty, pos, after, g⟩ :: rest) a w := by
  have hc : w.cell? ⟨b, i, none⟩ = some (B (gb l i)) := by rw [hF.cell hk]; exact bs_get hi
  have hf : w.frozen? ⟨b, i, none⟩ = false := hF.free hk i
  have hst : (store ⟨b, i, none⟩ (B u)).run P w = .ok () (w.setCell ⟨b, i, none⟩ (B u)) := by
    rw [run_store P w _ _ _ rfl]
    simp only [hc, hf, Bool.false_eq_true, if_false]
  have hF' := hF.setCell hk i (B u)
  rw [bs_set] at hF'
  refine ⟨undef, w.setCell ⟨b, i, none⟩ (B u), .inl ⟨?_, rfl⟩, hS _ hF', h _ hF'⟩
  cases hq : P.info? T with
  | none => simp [hq] at hs
  | some inf =>
    have hs1 : inf.size = 1 := by simpa [hq] using hs
    have hcs : (B u).cells = #[B u] := rfl
    unfold execOp
    simp only [hx, hy, Instr.storeAt, Instr.sureAddr, storeVar, hcs, sizeOf, typeInfo, run_program, hq, hs1, Sem.run_bind, Sem.run_pure, Result.andThen_ok]
    simp [storeCells, hst, Addr.add_zero']
end
/-! ### A plain region, operation for operation -/
section
variable {P : Program} {ops : Array Oper} {rest : List Oper} {Q : Exit → Act → World → Prop} {a : Act} {w : World}
theorem wpl_move {dst : Option Tmp} {x : Operand} {ty : TypeId} {pos : String} {after : Array Edge} {v : Value} (hx : a.eval x = v) (h : wpList P ops Q rest (a.put dst v) w) :
    wpList P ops Q (⟨dst, .move x, ty, pos, after, none⟩ :: rest) a w := by
  subst hx
  exact wpl_pure (fun w => by simp [execOp]) h
theorem wpl_assign {dst : Option Tmp} {x : Operand} {ty : TypeId} {pos : String} {after : Array Edge} {v : Value} (hx : a.eval x = v) (h : wpList P ops Q rest (a.put dst v) w) :
    wpList P ops Q (⟨dst, .assign x, ty, pos, after, none⟩ :: rest) a w := by
  subst hx
  exact wpl_pure (fun w => by simp [execOp]) h
theorem wpl_addW {dst : Option Tmp} {x y : Operand} {T ty T' : TypeId} {pos : String} {after : Array Edge} {p q : UInt32} (hx : a.eval x = W p) (hy : a.eval y = W q)
    (h : wpList P ops Q rest (a.put dst (W (p + q))) w) : wpList P ops Q (⟨dst, .binOp .add T x y T', ty, pos, after, none⟩ :: rest) a w :=
  wpl_pure (fun w => by simp only [execOp, hx, hy, eqGuard_W, binOp_add_W, Sem.run_bind, Sem.run_pure, Result.andThen_ok]) h
end

/-! ### Slots that nobody reads any more -/
def forgetAct (f : Nat → Value) (ks : List Nat) (a : Act) : Act := ks.foldl (fun a k => a.put (some k) (f k)) a
theorem forget_self (a : Act) : ∀ ks, forgetAct (fun k => a.tmps.getD k undef) ks a = a
  | [] => rfl
  | k :: ks => by
    have h : a.put (some k) (a.tmps.getD k undef) = a := by
      obtain ⟨t, d⟩ := a
      show (⟨t.setIfInBounds k (t.getD k undef), d⟩ : Act) = ⟨t, d⟩
      congr 1
      apply Array.ext'
      rw [Array.toList_setIfInBounds]
      apply List.ext_getElem?
      intro i
      rw [List.getElem?_set]
      by_cases hk : k = i
      · subst hk
        by_cases hl : k < t.toList.length
        · rw [if_pos rfl, if_pos hl]
          have hs : k < t.size := hl
          simp [Array.getD, hs]
        · rw [if_pos rfl, if_neg hl, List.getElem?_eq_none (by omega)]
      · rw [if_neg hk]
    unfold forgetAct
    rw [List.foldl_cons, h]
    exact forget_self a ks
theorem wq_end {P : Program} {ops : Array Oper} {C : World → Prop} {Q : Act → Prop} {a : Act} (ks : List Nat) (h : ∀ f, Q (forgetAct f ks a)) : wpQuiet P ops C Q [] a := by
  have := h (fun k => a.tmps.getD k undef)
  rw [forget_self] at this
  exact this
end Go.Proofs.Ytjjkndbkjnfimaa
