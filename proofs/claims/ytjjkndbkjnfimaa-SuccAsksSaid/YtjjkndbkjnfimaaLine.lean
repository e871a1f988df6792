/-
  A REGION THAT DRAWS ITS ORDER, whose operations stand in line (calls, appends, stores), with reads that may be taken first, and new blocks that may be made at any time ahead of their use. No Go function is named here.
-/
import Derived.Test.YtjjkndbkjnfimaaStores
import Derived.Test.YtjjkndbkjnfimaaOwn
namespace Go.Proofs.Ytjjkndbkjnfimaa
set_option linter.unusedSimpArgs false
set_option linter.unusedVariables false
open Go.RowKit

theorem Fr.perms {w0 w : World} {L L' : List Blk} (h : Fr w0 w L) (hp : L'.Perm L) : Fr w0 w L' :=
  h.take (fun x hx => hp.mem_iff.1 hx) ((hp.map _).nodup_iff.2 h.apart)

/-- A call has made the block 'x'. -/
def Made (w w' : World) (x : Blk) : Prop := Below w.heap.size w w' ∧ w.heap.size ≤ x.b ∧ w'.heap[x.b]? = some (.cells x.cs.toArray x.t (0, 0))
theorem Fr.took {w0 w w' : World} {L : List Blk} (h : Fr w0 w L) {x : Blk} (ha : Made w w' x) : Fr w0 w' (L ++ [x]) := by
  obtain ⟨hb, hx, hrow⟩ := ha
  have h1 := h.call hb
  refine ⟨h1.below, ?_, ?_⟩
  · intro y hy
    rcases List.mem_append.1 hy with hy | hy
    · exact h1.rows y hy
    · simp only [List.mem_singleton] at hy
      subst hy
      exact ⟨Nat.le_trans h.below.size hx, hrow⟩
  · rw [List.map_append, List.nodup_append]
    refine ⟨h.apart, by simp, ?_⟩
    intro a ha b hb2
    obtain ⟨y, hy, rfl⟩ := List.mem_map.1 ha
    simp only [List.map_cons, List.map_nil, List.mem_singleton] at hb2
    subst hb2
    have := h.lt hy
    omega
theorem Fr.made {w w' : World} {L : List Blk} {x : Blk} (h : Fr w w' L) (hx : x ∈ L) : Made w w' x := ⟨h.below, (h.rows x hx).1, (h.rows x hx).2⟩

/-- A row of the plan: k = 0: taken first; 1: stands in line; 2: makes the block 'cs', at any time, and leaves 'val' of it. -/
structure LE where
  k : Nat
  i : Nat
  cs : List Value
  T : TypeId
  val : Nat → Value
abbrev tk (i : Nat) : LE := ⟨0, i, [], 0, fun _ => undef⟩
abbrev ln (i : Nat) : LE := ⟨1, i, [], 0, fun _ => undef⟩
abbrev fl (i : Nat) (cs : List Value) (T : TypeId) (val : Nat → Value) : LE := ⟨2, i, cs, T, val⟩

/-- What comes of an operation: a value, at once or by a call. -/
def LUpon (P : Program) (next : Value → World → Prop) : Result Next → Prop
  | .ok (.value v) w' => next v w'
  | .ok .skip w' => next undef w'
  | .ok (.enter f args) w' => Calls P f args w' fun e w'' => ∃ v, e = .returned v ∧ next v w''
  | _ => False
theorem LUpon.mono {P : Program} {nx nx' : Value → World → Prop} (h : ∀ v w, nx v w → nx' v w) {r : Result Next} (hr : LUpon P nx r) : LUpon P nx' r := by
  cases r with
  | ok n w' =>
    cases n <;> simp only [LUpon] at hr ⊢
    case value => exact h _ _ hr
    case skip => exact h _ _ hr
    case enter => exact hr.mono fun e w'' ⟨v, he, hv⟩ => ⟨v, he, h _ _ hv⟩
  | halt x w' => cases x <;> exact hr.elim
theorem LUpon.upon {P : Program} {nx : Value → World → Prop} {o : Oper} {a : Act} {next : Act → World → Prop} {Q : Exit → Act → World → Prop} (h : ∀ v w, nx v w → next (a.put o.dst v) w) {r : Result Next} (hr : LUpon P nx r) : o.upon P a next Q r := by
  cases r with
  | ok n w' =>
    cases n <;> simp only [LUpon] at hr
    case value => exact h _ _ hr
    case skip => exact h _ _ hr
    case enter =>
      refine hr.mono fun e w'' ⟨v, he, hv⟩ => ?_
      subst he
      exact h _ _ hv
  | halt x w' => cases x <;> exact hr.elim

/-- One operation, whatever other blocks there are: these stand. -/
def LStep (P : Program) (w0 : World) (o : Oper) (a : Act) (L : List Blk) (K : Value → List Blk → Prop) : Prop :=
  ∀ w R, Fr w0 w (L ++ R) → LUpon P (fun v w' => ∃ L', Fr w0 w' (L' ++ R) ∧ K v L') ((execOp a.eval o).run P w)
/-- A new block, in any world. -/
def FStep (P : Program) (w0 : World) (o : Oper) (a : Act) (e : LE) : Prop :=
  ∀ w L, Fr w0 w L → ∃ b w', (execOp a.eval o).run P w = .ok (.value (e.val b)) w' ∧ Fr w0 w' (L ++ [⟨b, e.cs, e.T⟩])

/-- The plan, step by step: 'K': blocks that stand throughout; 'M': the others. -/
def wpLine (P : Program) (ops : Array Oper) (w0 : World) (Q : Act → World → Prop) : List (LE × Oper) → Act → List Blk → List Blk → Prop
  | [], a, K, M => ∀ w, Fr w0 w (K ++ M) → Q a w
  | (e, o) :: rest, a, K, M =>
    if e.k = 0 then ∃ v, YieldsIf P ops (fun w => Fr w0 w K) o v a ∧ wpLine P ops w0 Q rest (a.put o.dst v) K M
    else if e.k = 1 then Region.wanted o (yielded ops a.tmps) = true ∧ LStep P w0 o a (K ++ M) fun v L' => ∃ N M', L' = K ++ (N ++ M') ∧ wpLine P ops w0 Q rest (a.put o.dst v) (K ++ N) M'
    else ∀ b, wpLine P ops w0 Q rest (a.put o.dst (e.val b)) K (M ++ [⟨b, e.cs, e.T⟩])
def FOK (P : Program) (w0 : World) (a : Act) : List (LE × Oper) → Prop
  | [] => True
  | (e, o) :: rest => (e.k = 2 → FStep P w0 o a e) ∧ FOK P w0 a rest

section
variable {P : Program} {ops : Array Oper} {md : Region.Mode} {w0 : World} {Q : Act → World → Prop}

theorem wpLine_perm : ∀ (s : List (LE × Oper)) {a : Act} {K M M' : List Blk}, M'.Perm M → wpLine P ops w0 Q s a K M → wpLine P ops w0 Q s a K M'
  | [], a, K, M, M', hp, h => fun w hF => h w (hF.perms (hp.symm.append_left K))
  | (e, o) :: rest, a, K, M, M', hp, h => by
    unfold wpLine at h ⊢
    by_cases h0 : e.k = 0
    · rw [if_pos h0] at h ⊢
      obtain ⟨v, hy, h⟩ := h
      exact ⟨v, hy, wpLine_perm rest hp h⟩
    · rw [if_neg h0] at h ⊢
      by_cases h1 : e.k = 1
      · rw [if_pos h1] at h ⊢
        exact ⟨h.1, fun w R hF => h.2 w R (hF.perms ((hp.symm.append_left K).append_right R))⟩
      · rw [if_neg h1] at h ⊢
        exact fun b => wpLine_perm rest (hp.append_right _) (h b)

theorem wpLine_early {f : LE} {of : Oper} {s2 : List (LE × Oper)} (hfk : f.k = 2) (b : Nat) : ∀ (s1 : List (LE × Oper)) {a : Act} {K M : List Blk}, (∀ p ∈ s1, p.2.apart ops of = true) → (∀ p ∈ s1, ∀ cs b, p.2.op ≠ .select cs b) →
    wpLine P ops w0 Q (s1 ++ (f, of) :: s2) a K M → wpLine P ops w0 Q (s1 ++ s2) (a.put of.dst (f.val b)) K (M ++ [⟨b, f.cs, f.T⟩])
  | [], a, K, M, _, _, h => by
    simp only [List.nil_append] at h ⊢
    unfold wpLine at h
    rw [if_neg (by omega), if_neg (by omega)] at h
    exact h b
  | (e, o) :: s1, a, K, M, hap, hsel, h => by
    obtain ⟨d1, d2, d3⟩ := Oper.apart_spec (hap (e, o) (by simp))
    have hs := hsel (e, o) (by simp)
    simp only [List.cons_append] at h ⊢
    unfold wpLine at h ⊢
    have hc : ∀ v, (a.put o.dst v).put of.dst (f.val b) = (a.put of.dst (f.val b)).put o.dst v := fun v => Act.put_comm a v _ d2
    have ih : ∀ {a : Act} {K M : List Blk}, wpLine P ops w0 Q (s1 ++ (f, of) :: s2) a K M → wpLine P ops w0 Q (s1 ++ s2) (a.put of.dst (f.val b)) K (M ++ [⟨b, f.cs, f.T⟩]) :=
      wpLine_early hfk b s1 (fun p hp => hap p (List.mem_cons_of_mem _ hp)) (fun p hp => hsel p (List.mem_cons_of_mem _ hp))
    by_cases h0 : e.k = 0
    · rw [if_pos h0] at h ⊢
      obtain ⟨v, hy, h⟩ := h
      refine ⟨v, hy.of_same (execOp_put o hs a of.dst _ d3) (wanted_put o a of.dst _ d3), ?_⟩
      rw [← hc]
      exact ih h
    · rw [if_neg h0] at h ⊢
      by_cases h1 : e.k = 1
      · rw [if_pos h1] at h ⊢
        refine ⟨by rw [wanted_put o a of.dst _ d3]; exact h.1, fun w R hF => ?_⟩
        rw [execOp_put o hs a of.dst _ d3]
        rw [← List.append_assoc, List.append_assoc] at hF
        refine (h.2 w ([⟨b, f.cs, f.T⟩] ++ R) hF).mono ?_
        rintro v w' ⟨L', hF', N, M', rfl, h'⟩
        refine ⟨K ++ (N ++ (M' ++ [⟨b, f.cs, f.T⟩])), by simpa [List.append_assoc] using hF', N, M' ++ [⟨b, f.cs, f.T⟩], rfl, ?_⟩
        rw [← hc]
        exact ih h'
      · rw [if_neg h1] at h ⊢
        intro b'
        rw [← hc]
        refine wpLine_perm _ ?_ (ih (h b'))
        rw [List.append_assoc, List.append_assoc]
        exact (List.perm_append_comm).append_left M

theorem FOK.mem {a : Act} {s : List (LE × Oper)} (h : FOK P w0 a s) : ∀ p ∈ s, p.1.k = 2 → FStep P w0 p.2 a p.1 := by
  induction s with
  | nil => intro p hp; cases hp
  | cons q rest ih =>
    intro p hp hk
    obtain ⟨e, o⟩ := q
    simp only [List.mem_cons] at hp
    rcases hp with hp | hp
    · subst hp
      exact h.1 hk
    · exact ih h.2 p hp hk
theorem FOK.of {a : Act} : ∀ {s : List (LE × Oper)}, (∀ p ∈ s, p.1.k = 2 → FStep P w0 p.2 a p.1) → FOK P w0 a s
  | [], _ => trivial
  | (e, o) :: rest, h => ⟨h (e, o) (by simp), FOK.of fun p hp => h p (List.mem_cons_of_mem _ hp)⟩
theorem FStep.put {a : Act} {o : Oper} {e : LE} (h : FStep P w0 o a e) (hs : ∀ cs b, o.op ≠ .select cs b) {dst : Option Tmp} (v : Value) (hd : ∀ d, dst = some d → d ∉ o.looksAt ops) : FStep P w0 o (a.put dst v) e := by
  intro w L hF
  rw [execOp_put o hs a dst v hd]
  exact h w L hF

theorem wpAnyH_weaken {Q : Exit → Act → World → Prop} {S S' : World → Prop} (h : ∀ w, S' w → S w) : ∀ (n : Nat) (listed : Array Bool) (a : Act) (w : World), wpAnyH P md ops Q S' n listed a w → wpAnyH P md ops Q S n listed a w
  | 0, _, _, _, hh => hh
  | n + 1, listed, a, w, hh => ⟨hh.1, fun i hi => wpOp_mono (fun a' w' h' => ⟨h _ h'.1, wpAnyH_weaken h n _ a' w' h'.2⟩) (hh.2 i hi)⟩

/-- May the plan be kept, whatever order is drawn? -/
def okL (md : Region.Mode) (ops : Array Oper) : Nat → List (LE × Oper) → Array Bool → Bool
  | _, [], listed => Region.ready md ops listed == []
  | 0, _ :: _, _ => false
  | n + 1, (e, o) :: rest, listed =>
    if e.k = 0 then Region.free md ops listed e.i && (Region.ready md ops listed).contains e.i && okL md ops n rest (listed.setIfInBounds e.i true)
    else (Region.ready md ops listed != []) && (Region.ready md ops listed).all fun j =>
      (e.k == 1 && j == e.i && okL md ops n rest (listed.setIfInBounds j true)) ||
      (((e, o) :: rest).any (fun q => q.1.k == 2 && q.1.i == j) && okL md ops n (((e, o) :: rest).eraseP fun q => q.1.k == 2 && q.1.i == j) (listed.setIfInBounds j true))
def apartL (ops : Array Oper) : List (LE × Oper) → Bool
  | [] => true
  | (e, o) :: rest => rest.all (fun q => q.1.k != 2 || o.apart ops q.2) && (e.k != 2 || o.guard.isNone) && apartL ops rest
def AL (ops : Array Oper) (s : List (LE × Oper)) : Prop := s.Pairwise fun p q => q.1.k = 2 → p.2.apart ops q.2 = true
theorem AL.of : ∀ {s : List (LE × Oper)}, apartL ops s = true → AL ops s ∧ ∀ p ∈ s, p.1.k = 2 → p.2.guard = none
  | [], _ => ⟨List.Pairwise.nil, fun p hp => by cases hp⟩
  | (e, o) :: rest, h => by
    simp only [apartL, Bool.and_eq_true, List.all_eq_true, Bool.or_eq_true, bne_iff_ne, ne_eq, Option.isNone_iff_eq_none] at h
    obtain ⟨⟨h1, h2⟩, h3⟩ := h
    obtain ⟨i1, i2⟩ := AL.of h3
    refine ⟨List.Pairwise.cons (fun q hq hk => (h1 q hq).resolve_left (fun h => h hk)) i1, fun p hp hk => ?_⟩
    rcases List.mem_cons.1 hp with rfl | hp
    · exact h2.resolve_left (fun h => h hk)
    · exact i2 p hp hk

theorem line_ok {Q : Exit → Act → World → Prop} (hsel : Region.noSelect ops = true) : ∀ (n : Nat) (s : List (LE × Oper)) (listed : Array Bool) (a : Act) (K M : List Blk) (w : World), s.length = n → (∀ p ∈ s, ops[p.1.i]? = some p.2) → AL ops s → (∀ p ∈ s, p.1.k = 2 → p.2.guard = none) →
    okL md ops n s listed = true → FOK P w0 a s → wpLine P ops w0 (Q .normal) s a K M → Fr w0 w (K ++ M) → wpAnyH P md ops (noP Q) (fun w => Fr w0 w K) n listed a w := by
  intro n
  induction n with
  | zero =>
    intro s listed a K M w hn hops hal hg hB hfok h hF
    obtain rfl : s = [] := List.eq_nil_of_length_eq_zero hn
    simp only [okL, beq_iff_eq] at hB
    exact ⟨hB, h w hF⟩
  | succ n ih =>
    intro s listed a K M w hn hops hal hg hB hfok h hF
    rcases s with _ | ⟨⟨e, o⟩, rest⟩
    · simp at hn
    · have hn' : rest.length = n := by simpa using hn
      have ho := hops (e, o) (by simp)
      have hso : ∀ cs b, o.op ≠ .select cs b := fun cs b => Region.noSelect_spec hsel _ o cs b ho
      have hops' : ∀ p ∈ rest, ops[p.1.i]? = some p.2 := fun p hp => hops p (List.mem_cons_of_mem _ hp)
      have hg' : ∀ p ∈ rest, p.1.k = 2 → p.2.guard = none := fun p hp => hg p (List.mem_cons_of_mem _ hp)
      have hal' : AL ops rest := (List.pairwise_cons.1 hal).2
      have hap : ∀ q ∈ rest, q.1.k = 2 → o.apart ops q.2 = true := (List.pairwise_cons.1 hal).1
      have hfok' : ∀ v, FOK P w0 (a.put o.dst v) rest := fun v => FOK.of fun p hp hk =>
        (FOK.mem hfok p (List.mem_cons_of_mem _ hp) hk).put (fun cs b => Region.noSelect_spec hsel _ p.2 cs b (hops' p hp)) v (Oper.apart_spec (hap p hp hk)).1
      have hFK : Fr w0 w K := hF.sub (List.sublist_append_left _ _)
      simp only [okL] at hB
      by_cases h0 : e.k = 0
      · rw [if_pos h0] at hB
        simp only [Bool.and_eq_true] at hB
        obtain ⟨⟨hf, hr⟩, hB⟩ := hB
        unfold wpLine at h
        rw [if_pos h0] at h
        obtain ⟨v, hy, h⟩ := h
        exact wpAnyH_take ho hsel hf hr (fun c a w h => h.elim) hy hFK (ih rest _ _ K M w hn' hops' hal' hg' hB (hfok' v) h hF)
      · rw [if_neg h0] at hB
        simp only [Bool.and_eq_true, bne_iff_ne, ne_eq, List.all_eq_true, Bool.or_eq_true, beq_iff_eq] at hB
        obtain ⟨hne, hall⟩ := hB
        refine wpAnyH_all rfl hne fun j hj => ?_
        rcases hall j hj with ⟨⟨hk, rfl⟩, hB⟩ | ⟨hany, hB⟩
        · unfold wpLine at h
          rw [if_neg h0, if_pos hk] at h
          obtain ⟨hw, hst⟩ := h
          unfold wpOp
          simp only [ho]
          rw [if_pos hw]
          refine .inl ?_
          unfold Oper.wp
          have hst' := hst w [] (by simpa using hF)
          refine hst'.upon ?_
          rintro v w' ⟨L', hF', N, M', rfl, h⟩
          rw [List.append_nil] at hF'
          refine ⟨hF'.sub (List.sublist_append_left _ _), ?_⟩
          refine wpAnyH_weaken (S' := fun w => Fr w0 w (K ++ N)) (fun w h => h.sub (List.sublist_append_left _ _)) _ _ _ _ ?_
          exact ih rest _ _ (K ++ N) M' w' hn' hops' hal' hg' hB (hfok' v) h (by rw [List.append_assoc]; exact hF')
        · obtain ⟨x, hx, hpx⟩ := List.any_eq_true.1 hany
          obtain ⟨f, l1, l2, hno, hpf, hs, her⟩ := List.exists_of_eraseP (p := fun q : LE × Oper => q.1.k == 2 && q.1.i == j) hx hpx
          rw [her] at hB
          simp only [Bool.and_eq_true, beq_iff_eq] at hpf
          obtain ⟨hfk, hfi⟩ := hpf
          have hmem : f ∈ (e, o) :: rest := by rw [hs]; simp
          have hof := hops f hmem
          have hFst := FOK.mem hfok f hmem hfk
          have hgf := hg f hmem hfk
          obtain ⟨b, w', hrun, hF'⟩ := hFst w _ hF
          rw [hs] at h hal hops hg hfok hn
          have hap1 : ∀ p ∈ l1, p.2.apart ops f.2 = true := fun p hp => (List.pairwise_append.1 hal).2.2 p hp f (by simp) hfk
          have hap2 : ∀ q ∈ l2, q.1.k = 2 → f.2.apart ops q.2 = true := (List.pairwise_cons.1 (List.pairwise_append.1 hal).2.1).1
          have hops1 : ∀ p ∈ l1 ++ l2, ops[p.1.i]? = some p.2 := fun p hp => hops p (by rcases List.mem_append.1 hp with h | h <;> simp [h])
          have hsub : (l1 ++ l2).Sublist (l1 ++ f :: l2) := (List.Sublist.refl l1).append (List.sublist_cons_self _ _)
          unfold wpOp
          rw [← hfi]
          simp only [hof]
          rw [if_pos (by simp [Region.wanted, hgf])]
          refine .inl ?_
          unfold Oper.wp
          rw [hrun]
          refine ⟨hF'.sub ((List.sublist_append_left _ _).trans (List.sublist_append_left _ _)), ?_⟩
          rw [hfi]
          refine ih (l1 ++ l2) _ _ K (M ++ [⟨b, f.1.cs, f.1.T⟩]) w' (by simp at hn ⊢; omega) hops1 (hal.sublist hsub) (fun p hp => hg p (hsub.subset hp)) hB ?_ ?_ (by rw [← List.append_assoc]; exact hF')
          · refine FOK.of fun p hp hk => FStep.put (ops := ops) (FOK.mem hfok p (hsub.subset hp) hk) (fun cs b => Region.noSelect_spec hsel _ p.2 cs b (hops1 p hp)) _ ?_
            rcases List.mem_append.1 hp with hp1 | hp2
            · exact (Oper.apart_spec (hap1 p hp1)).2.2
            · exact (Oper.apart_spec (hap2 p hp2 hk)).1
          · exact wpLine_early hfk b l1 hap1 (fun p hp cs b => Region.noSelect_spec hsel _ p.2 cs b (hops1 p (List.mem_append_left _ hp))) h

def planOf (ops : Array Oper) (s : List LE) : List (LE × Oper) := s.filterMap fun e => (ops[e.i]?).map fun o => (e, o)
theorem planOf_ops (s : List LE) : ∀ p ∈ planOf ops s, ops[p.1.i]? = some p.2 := by
  intro p hp
  obtain ⟨e, _, he⟩ := List.mem_filterMap.1 hp
  cases ho : ops[e.i]? with
  | none => rw [ho] at he; cases he
  | some o =>
    rw [ho] at he
    obtain rfl := Option.some.inj he
    exact ho
def lineOkB (md : Region.Mode) (ops : Array Oper) (qs : List Nat) (s : List LE) : Bool :=
  Region.noSelect ops && decide (qs.length + (planOf ops s).length = ops.size) && takesB md ops qs (Array.replicate ops.size false) && apartL ops (planOf ops s) && okL md ops (planOf ops s).length (planOf ops s) (after_ qs (Array.replicate ops.size false))

/-- THE LAW: the reads 'qs' first, then the plan. -/
theorem wp_region_line {id : Nat} {Q : Exit → Act → World → Prop} {a : Act} {w : World} {l : List Oper} (K M : List Blk) (qs : List Nat) (s : List LE) (hm : P.follows .mixedOrders = true) (hB : lineOkB .any l.toArray qs s = true) (hF : Fr w0 w (K ++ M))
    (h : wpQuiet P l.toArray (fun w' => Fr w0 w' K) (fun a' => FOK P w0 a' (planOf l.toArray s) ∧ wpLine P l.toArray w0 (Q .normal) (planOf l.toArray s) a' K M) (qs.filterMap (l.toArray[·]?)) a) : (Code.region id l.toArray true).wp P Q a w := by
  simp only [lineOkB, Bool.and_eq_true, decide_eq_true_eq] at hB
  obtain ⟨⟨⟨⟨hsel, hsz⟩, hT⟩, hA⟩, hL⟩ := hB
  obtain ⟨hal, hg⟩ := AL.of hA
  refine Code.wp_mono noP_imp (wp_region_held (S := fun w' => Fr w0 w' K) hm ?_)
  rw [← hsz]
  refine takes_ok hsel (hF.drew.sub (List.sublist_append_left _ _)) qs _ _ (by rw [hsz]; exact hT) h fun a' hK => ?_
  rw [hsz]
  exact line_ok hsel _ _ _ a' K M _ rfl (planOf_ops s) hal hg hL hK.1 hK.2 hF.drew
end

/-! ### The steps of a plan -/
section
variable {P : Program} {ops : Array Oper} {rest : List (LE × Oper)} {Q : Act → World → Prop} {a : Act} {w0 : World} {K M : List Blk} {i : Nat}

theorem wpLine_nil (h : ∀ w, Fr w0 w (K ++ M) → Q a w) : wpLine P ops w0 Q [] a K M := h
/-- A read, by the words for reads. -/
theorem wpLine_take {o : Oper} (hv : valued o.op = true) (h : wpQuiet P ops (fun w => Fr w0 w K) (fun a' => wpLine P ops w0 Q rest a' K M) [o] a) : wpLine P ops w0 Q ((tk i, o) :: rest) a K M := by
  unfold wpLine
  rw [if_pos rfl]
  unfold wpQuiet at h
  by_cases hw : Region.wanted o (yielded ops a.tmps) = true
  · rw [if_pos hw] at h
    obtain ⟨v, hq, h⟩ := h
    exact ⟨v, .inl ⟨hw, run_of_quiet hv hq⟩, h⟩
  · rw [if_neg hw] at h
    exact ⟨undef, .inr ⟨by simpa using hw, rfl⟩, h⟩
/-- One that is not wanted. -/
theorem wpLine_skip {o : Oper} (hw : Region.wanted o (yielded ops a.tmps) = false) (h : wpLine P ops w0 Q rest (a.put o.dst undef) K M) : wpLine P ops w0 Q ((tk i, o) :: rest) a K M := by
  unfold wpLine
  rw [if_pos rfl]
  exact ⟨undef, .inr ⟨hw, rfl⟩, h⟩
theorem wpLine_float {o : Oper} {cs : List Value} {T : TypeId} {val : Nat → Value} (h : ∀ b, wpLine P ops w0 Q rest (a.put o.dst (val b)) K (M ++ [⟨b, cs, T⟩])) : wpLine P ops w0 Q ((fl i cs T val, o) :: rest) a K M := by
  unfold wpLine
  rw [if_neg (by simp), if_neg (by simp)]
  exact h
/-- A step in line. -/
theorem wpLine_line {o : Oper} (hw : Region.wanted o (yielded ops a.tmps) = true) (h : LStep P w0 o a (K ++ M) fun v L' => ∃ N M', L' = K ++ (N ++ M') ∧ wpLine P ops w0 Q rest (a.put o.dst v) (K ++ N) M') : wpLine P ops w0 Q ((ln i, o) :: rest) a K M := by
  unfold wpLine
  rw [if_neg (by simp), if_pos rfl]
  exact ⟨hw, h⟩
theorem wanted_plain {dst : Option Tmp} {op : Op} {ty : TypeId} {pos : String} {after : Array Edge} {yl : Nat → Option Bool} : Region.wanted ⟨dst, op, ty, pos, after, none⟩ yl = true := by simp [Region.wanted]

/-- A call that makes blocks: some stand from then on (N), some may change (M'). -/
theorem wpLine_call {dst : Option Tmp} {f : FuncId} {xs : Array Operand} {ts : Array TypeId} {ty : TypeId} {pos : String} {after : Array Edge} {g : Option (Nat × Bool)} {vals : Array Value}
    (hw : Region.wanted ⟨dst, .call { callee := .value (.func f), args := xs, argTypes := ts }, ty, pos, after, g⟩ (yielded ops a.tmps) = true)
    (hc : ∀ args w, (callFunc f args).run P w = .ok (.enter f args) w) (hx : xs.map a.eval = vals)
    (h : ∀ w R, Fr w0 w (K ++ M ++ R) → Calls P f vals w fun e w' => ∃ v N M', e = .returned v ∧ Fr w0 w' (K ++ (N ++ M') ++ R) ∧ wpLine P ops w0 Q rest (a.put dst v) (K ++ N) M') :
    wpLine P ops w0 Q ((ln i, ⟨dst, .call { callee := .value (.func f), args := xs, argTypes := ts }, ty, pos, after, g⟩) :: rest) a K M := by
  refine wpLine_line hw fun w R hF => ?_
  simp only [execOp, resolve, hx, Act.eval, Deferred.ofValue, Sem.run_bind, Sem.run_pure, Result.andThen_ok, invoke, Array.append_empty, Array.empty_append, hc]
  refine (h w R hF).mono ?_
  rintro e w' ⟨v, N, M', rfl, hF', h'⟩
  exact ⟨v, rfl, _, hF', N, M', rfl, h'⟩
/-- A call that leaves alone what there is. -/
theorem wpLine_callp {dst : Option Tmp} {f : FuncId} {xs : Array Operand} {ts : Array TypeId} {ty : TypeId} {pos : String} {after : Array Edge} {g : Option (Nat × Bool)} {vals : Array Value} {v : Value}
    (hw : Region.wanted ⟨dst, .call { callee := .value (.func f), args := xs, argTypes := ts }, ty, pos, after, g⟩ (yielded ops a.tmps) = true)
    (hc : ∀ args w, (callFunc f args).run P w = .ok (.enter f args) w) (hx : xs.map a.eval = vals)
    (hv : ∀ w R, Fr w0 w (K ++ M ++ R) → Calls P f vals w fun e w' => e = .returned v ∧ Below w.heap.size w w') (h : wpLine P ops w0 Q rest (a.put dst v) K M) :
    wpLine P ops w0 Q ((ln i, ⟨dst, .call { callee := .value (.func f), args := xs, argTypes := ts }, ty, pos, after, g⟩) :: rest) a K M := by
  refine wpLine_call hw hc hx fun w R hF => (hv w R hF).mono ?_
  rintro e w' ⟨rfl, hb⟩
  exact ⟨v, [], M, rfl, by simpa using hF.call hb, by simpa using h⟩
/-- What yields a value and changes own blocks only. -/
theorem wpLine_run {o : Oper} (hw : Region.wanted o (yielded ops a.tmps) = true) (h : ∀ w R, Fr w0 w (K ++ M ++ R) → ∃ v w' N M', ((execOp a.eval o).run P w = .ok (.value v) w' ∨ ((execOp a.eval o).run P w = .ok .skip w' ∧ v = undef)) ∧ Fr w0 w' (K ++ (N ++ M') ++ R) ∧ wpLine P ops w0 Q rest (a.put o.dst v) (K ++ N) M') :
    wpLine P ops w0 Q ((ln i, o) :: rest) a K M := by
  refine wpLine_line hw fun w R hF => ?_
  obtain ⟨v, w', N, M', hr, hF', h'⟩ := h w R hF
  rcases hr with hr | ⟨hr, rfl⟩
  · rw [hr]; exact ⟨_, hF', N, M', rfl, h'⟩
  · rw [hr]; exact ⟨_, hF', N, M', rfl, h'⟩

theorem set_mid (K R : List Blk) {M : List Blk} {k : Nat} (hk : k < M.length) (x : Blk) : (K ++ M ++ R).set (K.length + k) x = K ++ ([] ++ M.set k x) ++ R := by
  rw [List.set_append_left _ _ (by simp; omega), List.set_append_right _ _ (by omega)]
  simp
theorem get_mid (K R : List Blk) {M : List Blk} {k : Nat} {x : Blk} (hk : M[k]? = some x) : (K ++ M ++ R)[K.length + k]? = some x := by
  have hl := (List.getElem?_eq_some_iff.1 hk).1
  rw [List.getElem?_append_left (by simp; omega), List.getElem?_append_right (by omega)]
  simpa using hk

/-- append onto an own row. -/
theorem wpLine_append (k : Nat) (xs tail news : List Value) {dst : Option Tmp} {s x : Operand} {t ty : TypeId} {pos : String} {after : Array Edge} {g : Option (Nat × Bool)} {e : TypeId} {z : Value} {bytes : Nat} (ht : P.underlying t = some (.slice e)) (he : Elem P e z bytes)
    (hw : Region.wanted ⟨dst, .call { callee := .builtin .append, args := #[s, x], argTypes := #[t, t] }, ty, pos, after, g⟩ (yielded ops a.tmps) = true)
    {b n c cap : Nat} {p : Option Addr} {m : Nat} (hsv : a.eval s = .slice (some ⟨b, 0, none⟩) n cap) (hk : M[k]? = some ⟨b, xs ++ tail, e⟩) (hn : xs.length = n) (hcap : cap = n + tail.length)
    (hxv : a.eval x = .slice p m c) (hm : news.length = m) (hs : ∀ w R, Fr w0 w (K ++ M ++ R) → Sl w p news) (h1 : ∀ u ∈ news, u.oneCell' = true)
    (hbytes : (n + m) * bytes ≤ 140737488355328) (h63 : n + m ≤ maxLen)
    (h : ∀ b' cap' tail', cap' = n + m + List.length tail' → wpLine P ops w0 Q rest (a.put dst (.slice (some ⟨b', 0, none⟩) (n + m) cap')) K (M.set k ⟨b', xs ++ news ++ tail', e⟩)) :
    wpLine P ops w0 Q ((ln i, ⟨dst, .call { callee := .builtin .append, args := #[s, x], argTypes := #[t, t] }, ty, pos, after, g⟩) :: rest) a K M := by
  subst hn hcap hm
  obtain ⟨i, hi, hz, hsz, hby⟩ := he.info
  refine wpLine_run hw fun w R hF => ?_
  obtain ⟨b', tail', w', hr, hF'⟩ := run_append_fr (c := c) (ty := ty) hF ht hi hz hsz hby he.one (get_mid K R hk) (hs w R hF) h1 h63 hbytes
  rw [set_mid K R (List.getElem?_eq_some_iff.1 hk).1] at hF'
  exact ⟨.slice (some ⟨b', 0, none⟩) (xs.length + news.length) (xs.length + news.length + tail'.length), w', [], _, .inl (by simp only [execOp, resolve, invoke, builtin, Sem.run_bind, Sem.run_pure, Result.andThen_ok, List.map_toArray, List.map_cons, List.map_nil, hsv, hxv, hr]), hF', by rw [List.append_nil]; exact h _ _ _ rfl⟩

/-- A whole own block is stored. -/
theorem wpLine_store (k : Nat) {T T' ty : TypeId} {x y : Operand} {pos : String} {after : Array Edge} {g : Option (Nat × Bool)} {b : Nat} {cs cs' : List Value}
    (hw : Region.wanted ⟨none, .store T x y, ty, pos, after, g⟩ (yielded ops a.tmps) = true)
    (hx : a.eval x = .pointer (some ⟨b, 0, none⟩)) (hy : a.eval y = .agg cs'.toArray) (hk : M[k]? = some ⟨b, cs, T'⟩) (hi : (P.info? T).map (·.size) = some cs'.length) (hl : cs.length = cs'.length) (h1 : ∀ v ∈ cs', v.oneCell' = true)
    (h : wpLine P ops w0 Q rest a K (M.set k ⟨b, cs', T'⟩)) :
    wpLine P ops w0 Q ((ln i, ⟨none, .store T x y, ty, pos, after, g⟩) :: rest) a K M := by
  refine wpLine_run hw fun w R hF => ?_
  have hF' := hF.setRow (get_mid K R hk) cs'
  rw [set_mid K R (List.getElem?_eq_some_iff.1 hk).1] at hF'
  refine ⟨undef, _, [], _, .inr ⟨?_, rfl⟩, hF', by rw [List.append_nil]; exact h⟩
  unfold execOp
  simp only [hx, hy, Instr.storeAt, Instr.sureAddr, Sem.run_bind, Sem.run_pure, Result.andThen_ok,
    run_storeVar_row w b T' T cs.toArray cs'.toArray (hF.row (get_mid K R hk)) (by simpa using hi) (by simpa using hl) (all_oneCell_toArray h1)]

theorem run_copy_fr {w : World} {L : List Blk} (hF : Fr w0 w L) (k o : Nat) (cs : List Value) {dst : Option Tmp} {d s : Operand} {dT sT ty : TypeId} {pos : String} {after : Array Edge} {g : Option (Nat × Bool)} {elem : TypeId} (hu : P.underlying dT = some (.slice elem)) (hsz : (P.info? elem).map (·.size) = some 1)
    {dp sp : Option Addr} {dLen dCap sLen sCap b : Nat} (hd : a.eval d = .slice dp dLen dCap) (hs : a.eval s = .slice sp sLen sCap) {cur : List Value} {t : TypeId} (hk : L[k]? = some ⟨b, cur, t⟩)
    (hn : cs.length = min sLen dLen) (hdp : dp = some ⟨b, o, none⟩) (hsrc : Sl w sp cs) (hfit : o + cs.length ≤ cur.length) (h1 : ∀ v ∈ cs, v.oneCell' = true) :
    ∃ w', (execOp a.eval ⟨dst, .call { callee := .builtin .copy, args := #[d, s], argTypes := #[dT, sT] }, ty, pos, after, g⟩).run P w = .ok (.value (.int .i64 (cs.length : Int))) w' ∧ Fr w0 w' (L.set k ⟨b, splice cur o cs, t⟩) := by
  rcases Nat.eq_zero_or_pos cs.length with h0 | h0
  · obtain rfl : cs = [] := List.eq_nil_of_length_eq_zero h0
    have hrun := run_copy_none (P := P) w dT sT ty elem dp sp dLen dCap sLen sCap hu hsz (by simpa using hn.symm)
    refine ⟨w, by simp [execOp, resolve, invoke, builtin, hd, hs, hrun, Result.andThen, goInt], ?_⟩
    have e2 : L.set k ⟨b, splice cur o [], t⟩ = L := by
      have : splice cur o [] = cur := by simp [splice]
      rw [this]
      exact run_append_fr.set_self' hk
    rw [e2]
    exact hF
  · obtain ⟨x, rfl⟩ := hsrc.addr h0
    subst hdp
    have hrun := run_copy_row (P := P) w dT sT ty elem b o dLen dCap x sLen sCap cur.toArray t cs hu hsz (hF.row hk) hn (fun j v hv => hsrc.cell hv) (by simpa using hfit) h1
    exact ⟨_, by simp [execOp, resolve, invoke, builtin, hd, hs, hrun, Result.andThen, goInt]; rfl, hF.setRow hk (splice cur o cs)⟩
/-- copy into an own row. -/
theorem wpLine_copy (k o : Nat) (cs : List Value) {dst : Option Tmp} {d s : Operand} {dT sT ty : TypeId} {pos : String} {after : Array Edge} {g : Option (Nat × Bool)} {elem : TypeId} (hu : P.underlying dT = some (.slice elem)) (hsz : (P.info? elem).map (·.size) = some 1)
    (hw : Region.wanted ⟨dst, .call { callee := .builtin .copy, args := #[d, s], argTypes := #[dT, sT] }, ty, pos, after, g⟩ (yielded ops a.tmps) = true)
    {dp sp : Option Addr} {dLen dCap sLen sCap b : Nat} (hd : a.eval d = .slice dp dLen dCap) (hs : a.eval s = .slice sp sLen sCap) {cur : List Value} {t : TypeId} (hk : M[k]? = some ⟨b, cur, t⟩)
    (hn : cs.length = min sLen dLen) (hdp : dp = some ⟨b, o, none⟩) (hsrc : ∀ w R, Fr w0 w (K ++ M ++ R) → Sl w sp cs) (hfit : o + cs.length ≤ cur.length) (h1 : ∀ v ∈ cs, v.oneCell' = true) {n : Int} (hni : (cs.length : Int) = n)
    (h : wpLine P ops w0 Q rest (a.put dst (.int .i64 n)) K (M.set k ⟨b, splice cur o cs, t⟩)) :
    wpLine P ops w0 Q ((ln i, ⟨dst, .call { callee := .builtin .copy, args := #[d, s], argTypes := #[dT, sT] }, ty, pos, after, g⟩) :: rest) a K M := by
  subst hni
  refine wpLine_run hw fun w R hF => ?_
  obtain ⟨w', hr, hF'⟩ := run_copy_fr (dst := dst) (ty := ty) (pos := pos) (after := after) (g := g) hF _ o cs hu hsz hd hs (get_mid K R hk) hn hdp (hsrc w R hF) hfit h1
  rw [set_mid K R (List.getElem?_eq_some_iff.1 hk).1] at hF'
  exact ⟨.int .i64 (cs.length : Int), w', [], _, .inl hr, hF', by rw [List.append_nil]; exact h⟩

/-- A call that makes one block. -/
theorem wpLine_made {dst : Option Tmp} {f : FuncId} {xs : Array Operand} {ts : Array TypeId} {ty : TypeId} {pos : String} {after : Array Edge} {g : Option (Nat × Bool)} {vals : Array Value}
    (hw : Region.wanted ⟨dst, .call { callee := .value (.func f), args := xs, argTypes := ts }, ty, pos, after, g⟩ (yielded ops a.tmps) = true)
    (hc : ∀ args w, (callFunc f args).run P w = .ok (.enter f args) w) (hx : xs.map a.eval = vals)
    (h : ∀ w R, Fr w0 w (K ++ M ++ R) → Calls P f vals w fun e w' => ∃ v x, e = .returned v ∧ Made w w' x ∧ wpLine P ops w0 Q rest (a.put dst v) K (M ++ [x])) :
    wpLine P ops w0 Q ((ln i, ⟨dst, .call { callee := .value (.func f), args := xs, argTypes := ts }, ty, pos, after, g⟩) :: rest) a K M := by
  refine wpLine_call hw hc hx fun w R hF => (h w R hF).mono ?_
  rintro e w' ⟨v, x, rfl, hm, h'⟩
  refine ⟨v, [], M ++ [x], rfl, (hF.took hm).perms ?_, by rw [List.append_nil]; exact h'⟩
  simp only [List.nil_append, List.append_assoc]
  exact (((List.perm_append_comm).append_left M)).append_left K
/-- .. and one that makes a block that stands from then on. -/
theorem wpLine_madeK {dst : Option Tmp} {f : FuncId} {xs : Array Operand} {ts : Array TypeId} {ty : TypeId} {pos : String} {after : Array Edge} {g : Option (Nat × Bool)} {vals : Array Value}
    (hw : Region.wanted ⟨dst, .call { callee := .value (.func f), args := xs, argTypes := ts }, ty, pos, after, g⟩ (yielded ops a.tmps) = true)
    (hc : ∀ args w, (callFunc f args).run P w = .ok (.enter f args) w) (hx : xs.map a.eval = vals)
    (h : ∀ w R, Fr w0 w (K ++ M ++ R) → Calls P f vals w fun e w' => ∃ v x, e = .returned v ∧ Made w w' x ∧ wpLine P ops w0 Q rest (a.put dst v) (K ++ [x]) M) :
    wpLine P ops w0 Q ((ln i, ⟨dst, .call { callee := .value (.func f), args := xs, argTypes := ts }, ty, pos, after, g⟩) :: rest) a K M := by
  refine wpLine_call hw hc hx fun w R hF => (h w R hF).mono ?_
  rintro e w' ⟨v, x, rfl, hm, h'⟩
  refine ⟨v, [x], M, rfl, (hF.took hm).perms ?_, h'⟩
  simp only [List.append_assoc]
  refine List.Perm.append_left K ?_
  rw [← List.append_assoc M R]
  exact List.perm_append_comm
/-- A call that makes an own row grow. -/
theorem wpLine_grown (k : Nat) {y : Blk} (hk : M[k]? = some y) {dst : Option Tmp} {f : FuncId} {xs : Array Operand} {ts : Array TypeId} {ty : TypeId} {pos : String} {after : Array Edge} {g : Option (Nat × Bool)} {vals : Array Value}
    (hw : Region.wanted ⟨dst, .call { callee := .value (.func f), args := xs, argTypes := ts }, ty, pos, after, g⟩ (yielded ops a.tmps) = true)
    (hc : ∀ args w, (callFunc f args).run P w = .ok (.enter f args) w) (hx : xs.map a.eval = vals)
    (h : ∀ w R, Fr w0 w (K ++ M ++ R) → (K ++ M ++ R)[K.length + k]? = some y → Calls P f vals w fun e w' => ∃ v x, e = .returned v ∧ Fr w0 w' ((K ++ M ++ R).set (K.length + k) x) ∧ wpLine P ops w0 Q rest (a.put dst v) K (M.set k x)) :
    wpLine P ops w0 Q ((ln i, ⟨dst, .call { callee := .value (.func f), args := xs, argTypes := ts }, ty, pos, after, g⟩) :: rest) a K M := by
  refine wpLine_call hw hc hx fun w R hF => (h w R hF (get_mid K R hk)).mono ?_
  rintro e w' ⟨v, x, rfl, hF', h'⟩
  rw [set_mid K R (List.getElem?_eq_some_iff.1 hk).1] at hF'
  exact ⟨v, [], _, rfl, hF', by rw [List.append_nil]; exact h'⟩

theorem FOK.tk (h : FOK P w0 a rest) {o : Oper} : FOK P w0 a ((tk i, o) :: rest) := ⟨fun h2 => absurd (show (0 : Nat) = 2 from h2) (by decide), h⟩
theorem FOK.ln (h : FOK P w0 a rest) {o : Oper} : FOK P w0 a ((ln i, o) :: rest) := ⟨fun h2 => absurd (show (1 : Nat) = 2 from h2) (by decide), h⟩
theorem FOK.fl {o : Oper} {cs : List Value} {T : TypeId} {val : Nat → Value} (hf : FStep P w0 o a (fl i cs T val)) (h : FOK P w0 a rest) : FOK P w0 a ((fl i cs T val, o) :: rest) := ⟨fun _ => hf, h⟩
theorem FOK.nil : FOK P w0 a [] := trivial

/-! ### New blocks -/
theorem fstep_alloc {dst : Option Tmp} {T ty : TypeId} {pos : String} {after : Array Edge} {g : Option (Nat × Bool)} {z : Value} {cs : List Value} (hz : ∀ w, (zeroValue T).run P w = .ok z w) (hcs : z.cells = cs.toArray) :
    FStep P w0 ⟨dst, .alloc T, ty, pos, after, g⟩ a (fl i cs T fun b => .pointer (some ⟨b, 0, none⟩)) := fun w L hF =>
  ⟨w.heap.size, _, by simp [execOp, Instr.alloc, newVar, newRow, hz, hcs], hF.alloc cs T⟩
theorem fstep_build {dst : Option Tmp} {t ty : TypeId} {pos : String} {after : Array Edge} {g : Option (Nat × Bool)} {e : TypeId} {z : Value} {bytes m : Nat} {parts : Array (Nat × Operand)} {cs : List Value} (ht : P.underlying t = some (.slice e)) (he : Elem P e z bytes) (hm : m ≤ 4096)
    (hf : Instr.fill (fun i => some (i * 1, 1)) (List.replicate m (z.cells[0]!)).toArray (parts.map fun (i, x) => (i, a.eval x)).toList = some cs.toArray) :
    FStep P w0 ⟨dst, .buildSlice t m parts, ty, pos, after, g⟩ a (fl i cs e fun b => .slice (some ⟨b, 0, none⟩) m m) := fun w L hF => by
  obtain ⟨i, hi, hz, hsz, hby⟩ := he.info
  have hr := run_buildSlice ht hi hz hsz he.one hm hf w
  exact ⟨w.heap.size, _, by simp only [execOp, Sem.run_bind, hr, Result.andThen_ok, Sem.run_pure], hF.alloc cs e⟩
end
end Go.Proofs.Ytjjkndbkjnfimaa
