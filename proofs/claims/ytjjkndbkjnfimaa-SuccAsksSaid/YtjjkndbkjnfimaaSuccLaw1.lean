/-
  THE PLAIN LAW of SuccRounds: nodes 0 to n - 1, laid in order, n at most 11, reckoned through. No program in sight.
-/
import Derived.Test.YtjjkndbkjnfimaaSucc3
namespace Go.Proofs.Ytjjkndbkjnfimaa
set_option linter.unusedSimpArgs false
set_option linter.unusedVariables false

theorem take1 : ∀ (a b : List UInt8), 0 < a.length → a.length = b.length → gb a 0 = gb b 0 → a.take 1 = b.take 1
  | [], _, h, _, _ => by simp at h
  | _ :: _, [], _, h, _ => by simp at h
  | x :: xs, y :: ys, _, _, h => by
    have : x = y := by simpa [gb] using h
    simp [this]
theorem idlt_head (a b : List UInt8) (ha : 2 ≤ a.length) (hl : a.length = b.length) (h : headN a ≠ headN b) : idlt a b = decide (headN a < headN b) := by
  unfold headN at h ⊢
  have l1 := (gb a 1).toNat_lt
  have l2 := (gb b 1).toNat_lt
  by_cases h0 : gb a 0 = gb b 0
  · have h1 : gb a 1 ≠ gb b 1 := fun e => h (by rw [h0, e])
    rw [idlt_at a b 1 (by omega) hl (take1 a b (by omega) hl h0) h1, h0]
    apply Bool.eq_iff_iff.2
    simp only [decide_eq_true_eq, UInt8.lt_iff_toNat_lt]
    omega
  · have hne : (gb a 0).toNat ≠ (gb b 0).toNat := fun e => h0 (UInt8.toNat_inj.1 e)
    rw [idlt_at a b 0 (by omega) hl rfl h0]
    apply Bool.eq_iff_iff.2
    simp only [decide_eq_true_eq, UInt8.lt_iff_toNat_lt]
    omega

def rk (n : Int) : Nat := heads.getD (n % 256).toNat 0
theorem rk_head (n : Int) : headN (nodeId (b8 n)) = rk n := heads_at _ (by omega)
def nbI (a x b : Int) : Bool := bif rk a == rk b then !(rk x == rk a) else bif decide (rk a < rk b) then decide (rk a < rk x) && decide (rk x < rk b) else decide (rk a < rk x) || decide (rk x < rk b)
theorem node_eq (a b : Int) : decide (nodeId (b8 a) = nodeId (b8 b)) = (rk a == rk b) := by
  by_cases h : nodeId (b8 a) = nodeId (b8 b)
  · have : rk a = rk b := by rw [← rk_head, ← rk_head, h]
    simp [h, this]
  · have h2 : ¬ rk a = rk b := fun e => h (by
      have li : (a % 256).toNat < heads.length := by rw [heads_length]; omega
      have lj : (b % 256).toNat < heads.length := by rw [heads_length]; omega
      have e2 : heads[(a % 256).toNat]? = heads[(b % 256).toNat]? := by
        unfold rk at e
        simp only [List.getD, List.getElem?_eq_getElem li, List.getElem?_eq_getElem lj, Option.getD_some] at e
        rw [List.getElem?_eq_getElem li, List.getElem?_eq_getElem lj]
        exact congrArg some e
      have e3 := (List.getElem?_inj li heads_nodup).1 e2
      show nodeId (UInt8.ofNat (a % 256).toNat) = nodeId (UInt8.ofNat (b % 256).toNat)
      rw [e3])
    simp [h, h2]
theorem node_lt (a b : Int) : idlt (nodeId (b8 a)) (nodeId (b8 b)) = decide (rk a < rk b) := by
  by_cases h : rk a = rk b
  · have h2 : decide (nodeId (b8 a) = nodeId (b8 b)) = true := by rw [node_eq]; simpa using h
    rw [of_decide_eq_true h2, idlt_same, h]
    simp
  · rw [idlt_head _ _ (by rw [nodeId_length]; decide) (by rw [nodeId_length, nodeId_length]) (by rw [rk_head, rk_head]; exact h), rk_head, rk_head]
theorem nb_eq : nb = nbI := by
  funext a x b
  unfold nb btw nbI
  rw [node_eq, node_eq, node_lt, node_lt, node_lt]

/-! ### The same, that can be reckoned -/
def insI (node : Int) (out : List Int) (i : Int) : Nat := (out.takeWhile fun o => nbI node o i).length
def stepI (node : Int) (out : List Int) (i : Int) : List Int := if i = node then out else out.take (insI node out i) ++ [i] ++ out.drop (insI node out i)
def roundI (node : Int) : Nat → List Int
  | 0 => []
  | i + 1 => stepI node (roundI node i) (i : Int)
theorem round_eq (node : Int) : ∀ i, roundTo node i = roundI node i
  | 0 => rfl
  | i + 1 => by
    show stepR _ _ _ = stepI _ _ _
    rw [round_eq node i]
    unfold stepR stepI insK insI
    rw [nb_eq]
def okI (node : Int) (l : List Int) (j : Nat) : Bool := !(l.getD j 0 == node) && (j == 0 || nbI node (l.getD (j - 1) 0) (l.getD j 0))
def sortedI (node : Int) (l : List Int) : Bool := (List.range l.length).all (okI node l)
theorem sorted_eq (node : Int) (l : List Int) : sortedOf node l = sortedI node l := by
  unfold sortedOf sortedI
  congr 1
  funext j
  unfold okS okI
  rw [nb_eq]
def skI (node : Int) (l : List Int) (i : Nat) (b : Nat) : Bool := nbI (if i = 0 then node else l.getD (i - 1) 0) (b : Int) (l.getD i 0)
def anyI (node : Int) (l : List Int) (b : Nat) : Bool := (List.range l.length).any fun i => skI node l i b
theorem skips_eq (node : Int) (l : List Int) (base : Nat) : skipsOf node l base = (List.range base).any (anyI node l) := by
  have h : ∀ i b, skipAt node l i b = skI node l i b := fun i b => by
    unfold skipAt skI prevOf
    rw [nb_eq]
  unfold skipsOf anyI
  simp only [h]
  rw [Bool.eq_iff_iff]
  simp only [List.any_eq_true, List.mem_range]
  exact ⟨fun ⟨i, hi, b, hb, e⟩ => ⟨b, hb, i, hi, e⟩, fun ⟨b, hb, i, hi, e⟩ => ⟨i, hi, b, hb, e⟩⟩

/-- Two exchanged; one left out. -/
def swapL (l : List Int) (k : Nat) : List Int := (l.set k (l.getD (k + 1) 0)).set (k + 1) (l.getD k 0)
def cutL (l : List Int) (k : Nat) : List Int := l.take k ++ l.drop (k + 1)
def lawOne (n : Nat) (node : Int) (l : List Int) : Bool :=
  l.length == n - 1 && sortedI node l && (List.range n).all (fun b => !anyI node l b) &&
  (List.range (n - 2)).all fun k => decide (0 ≤ l.getD k 0) && !sortedI node (swapL l k) && sortedI node (cutL l k) && (List.range n).all fun b => anyI node (cutL l k) b == ((b : Int) == l.getD k 0)
def lawAll (n : Nat) : Bool := (List.range n).all fun (node : Nat) => lawOne n node (roundI node n)
theorem law3 : lawAll 3 = true := by decide +kernel
theorem law4 : lawAll 4 = true := by decide +kernel
theorem law5 : lawAll 5 = true := by decide +kernel
theorem law6 : lawAll 6 = true := by decide +kernel
theorem law7 : lawAll 7 = true := by decide +kernel
theorem law8 : lawAll 8 = true := by decide +kernel
theorem law9 : lawAll 9 = true := by decide +kernel
theorem law10 : lawAll 10 = true := by decide +kernel
theorem law11 : lawAll 11 = true := by decide +kernel
theorem lawOf {n nd : Nat} (h1 : 3 ≤ n) (h2 : n ≤ 11) (h3 : nd < n) : lawOne n nd (roundTo nd n) = true := by
  have h : lawAll n = true := by
    have : n = 3 ∨ n = 4 ∨ n = 5 ∨ n = 6 ∨ n = 7 ∨ n = 8 ∨ n = 9 ∨ n = 10 ∨ n = 11 := by omega
    rcases this with rfl | rfl | rfl | rfl | rfl | rfl | rfl | rfl | rfl
    · exact law3
    · exact law4
    · exact law5
    · exact law6
    · exact law7
    · exact law8
    · exact law9
    · exact law10
    · exact law11
  rw [round_eq]
  exact List.all_eq_true.1 h nd (List.mem_range.2 h3)
structure RoundLaw (n nd : Nat) (l : List Int) : Prop where
  len : l.length = n - 1
  sorted : sortedOf nd l = true
  skips : ∀ base, base ≤ n → skipsOf nd l base = false
  swap : ∀ k, k < n - 2 → sortedOf nd (swapL l k) = false
  cut : ∀ k, k < n - 2 → sortedOf nd (cutL l k) = true
  left : ∀ k, k < n - 2 → ∀ base, base ≤ n → skipsOf nd (cutL l k) base = decide (l.getD k 0 < (base : Int))
theorem roundLaw {n nd : Nat} (h1 : 3 ≤ n) (h2 : n ≤ 11) (h3 : nd < n) : RoundLaw n nd (roundTo nd n) := by
  have h := lawOf h1 h2 h3
  generalize roundTo nd n = l at h
  unfold lawOne at h
  simp only [Bool.and_eq_true, beq_iff_eq, List.all_eq_true, List.mem_range, Bool.not_eq_true', decide_eq_true_eq] at h
  obtain ⟨⟨⟨ha, hb⟩, hc⟩, hd⟩ := h
  refine ⟨ha, by rw [sorted_eq]; exact hb, fun base hbase => ?_, fun k hk => by rw [sorted_eq]; exact (hd k hk).1.1.2, fun k hk => by rw [sorted_eq]; exact (hd k hk).1.2, fun k hk base hbase => ?_⟩
  · rw [skips_eq]
    simp only [List.any_eq_false, List.mem_range, Bool.not_eq_true]
    exact fun b hb => hc b (by omega)
  · rw [skips_eq]
    obtain ⟨⟨⟨h0, _⟩, _⟩, h4⟩ := hd k hk
    apply Bool.eq_iff_iff.2
    simp only [List.any_eq_true, List.mem_range, decide_eq_true_eq]
    constructor
    · rintro ⟨b, hb, he⟩
      rw [h4 b (by omega)] at he
      have : (b : Int) = l.getD k 0 := by simpa using he
      omega
    · intro hlt
      refine ⟨(l.getD k 0).toNat, by omega, ?_⟩
      rw [h4 _ (by omega)]
      simp only [beq_iff_eq]
      omega
end Go.Proofs.Ytjjkndbkjnfimaa
