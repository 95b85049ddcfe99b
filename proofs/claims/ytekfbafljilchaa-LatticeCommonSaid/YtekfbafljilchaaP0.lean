/- How a chart's states stand in one another, in plain words. -/
import Derived.Test.YtekfbafljilchaaA1
set_option linter.unusedVariables false
set_option linter.unusedSimpArgs false
namespace Go.Proofs.Ytekfbafljilchaa

def st (c : DChart) (i : Nat) : DState := c.states[i]?.getD default
def knd (c : DChart) (i : Nat) : Int := (st c i).kind
def par (c : DChart) (i : Nat) : Int := (st c i).par
def up (c : DChart) (i : Nat) : Nat := (par c i).toNat
abbrev ns (c : DChart) : Nat := c.states.length

theorem st_at {c : DChart} {i : Nat} (h : i < c.states.length) : c.states[i] = st c i := by simp [st, h]

/-- Is i inside j? (f: as far as it is looked.) -/
def abF (c : DChart) : Nat → Nat → Nat → Bool
  | 0, _, _ => false
  | f + 1, i, j => if i = 0 then false else (up c i == j) || abF c f (up c i) j
def ab (c : DChart) (i j : Nat) : Bool := abF c i i j

/-- The states stand rightly in one another. -/
structure Tree (c : DChart) : Prop where
  two : 2 ≤ ns c
  many : ns c ≤ 128
  root : knd c 0 = 0
  top : par c 0 = -1
  low : ∀ i, 0 < i → i < ns c → 1 ≤ knd c i
  high : ∀ i, 0 < i → i < ns c → knd c i ≤ 5
  par0 : ∀ i, 0 < i → i < ns c → 0 ≤ par c i
  par1 : ∀ i, 0 < i → i < ns c → par c i < i
  holds : ∀ i, 0 < i → i < ns c → knd c (up c i) ≤ 2

section
variable {c : DChart} (T : Tree c)
include T
theorem Tree.up_lt {i : Nat} (h0 : 0 < i) (h : i < ns c) : up c i < i := by
  have := T.par0 i h0 h
  have := T.par1 i h0 h
  unfold up
  omega
theorem Tree.up_ns {i : Nat} (h : i < ns c) : up c i < ns c := by
  rcases Nat.eq_zero_or_pos i with rfl | h0
  · have := T.top
    have := T.two
    unfold up
    omega
  · exact Nat.lt_trans (T.up_lt h0 h) h
theorem Tree.par_up {i : Nat} (h0 : 0 < i) (h : i < ns c) : par c i = (up c i : Int) := by
  have := T.par0 i h0 h
  unfold up
  omega
theorem Tree.abF_succ {j : Nat} : ∀ (g i : Nat), i ≤ g → i < ns c → abF c (g + 1) i j = abF c g i j := by
  intro g
  induction g with
  | zero =>
    intro i h _
    obtain rfl : i = 0 := by omega
    simp [abF]
  | succ g ihh =>
    intro i hi hin
    rcases Nat.eq_zero_or_pos i with rfl | hi0
    · simp [abF]
    · have := T.up_lt hi0 hin
      rw [abF, if_neg (by omega)]
      conv => rhs; rw [abF, if_neg (by omega)]
      rw [ihh (up c i) (by omega) (by omega)]
theorem Tree.abF_more {j : Nat} (f i : Nat) (hi : i ≤ f) (hn : i < ns c) : abF c f i j = abF c i i j := by
  obtain ⟨d, rfl⟩ : ∃ d, f = i + d := ⟨f - i, by omega⟩
  clear hi
  induction d with
  | zero => rfl
  | succ d ih => rw [← Nat.add_assoc, T.abF_succ _ _ (by omega) hn, ih]
theorem Tree.ab_up {i j : Nat} (h0 : 0 < i) (h : i < ns c) : ab c i j = ((up c i == j) || ab c (up c i) j) := by
  have hu := T.up_lt h0 h
  obtain ⟨m, rfl⟩ : ∃ m, i = m + 1 := ⟨i - 1, by omega⟩
  unfold ab
  rw [abF, if_neg (by omega), T.abF_more m (up c (m + 1)) (by omega) (by omega)]
theorem Tree.ab_lt : ∀ {i j : Nat}, i < ns c → ab c i j = true → j < i := by
  intro i
  induction i using Nat.strongRecOn with
  | ind i ih =>
    intro j hi h
    rcases Nat.eq_zero_or_pos i with rfl | h0
    · simp [ab, abF] at h
    · have hu := T.up_lt h0 hi
      rw [T.ab_up h0 hi, Bool.or_eq_true] at h
      rcases h with h | h
      · have : up c i = j := by simpa using h
        omega
      · have := ih (up c i) hu (by omega) h
        omega
theorem Tree.ab_root {i : Nat} (h0 : 0 < i) (h : i < ns c) : ab c i 0 = true := by
  induction i using Nat.strongRecOn with
  | ind i ih =>
    have hu := T.up_lt h0 h
    rw [T.ab_up h0 h, Bool.or_eq_true]
    rcases Nat.eq_zero_or_pos (up c i) with e | e
    · left; simp [e]
    · right; exact ih _ hu e (by omega)
theorem Tree.ab_trans : ∀ {i j k : Nat}, i < ns c → ab c i j = true → ab c j k = true → ab c i k = true := by
  intro i
  induction i using Nat.strongRecOn with
  | ind i ih =>
    intro j k hi h1 h2
    rcases Nat.eq_zero_or_pos i with rfl | h0
    · simp [ab, abF] at h1
    · have hu := T.up_lt h0 hi
      rw [T.ab_up h0 hi, Bool.or_eq_true] at h1 ⊢
      rcases h1 with h1 | h1
      · have : up c i = j := by simpa using h1
        rw [this]
        exact .inr h2
      · exact .inr (ih _ hu (by omega) h1 h2)
/-- Of two that are around one, one is around the other. -/
theorem Tree.ab_line : ∀ {i j k : Nat}, i < ns c → ab c i j = true → ab c i k = true → j = k ∨ ab c j k = true ∨ ab c k j = true := by
  intro i
  induction i using Nat.strongRecOn with
  | ind i ih =>
    intro j k hi h1 h2
    rcases Nat.eq_zero_or_pos i with rfl | h0
    · simp [ab, abF] at h1
    · have hu := T.up_lt h0 hi
      rw [T.ab_up h0 hi, Bool.or_eq_true] at h1 h2
      rcases h1 with h1 | h1 <;> rcases h2 with h2 | h2
      · have e1 : up c i = j := by simpa using h1
        have e2 : up c i = k := by simpa using h2
        exact .inl (by omega)
      · have e1 : up c i = j := by simpa using h1
        rw [e1] at h2
        exact .inr (.inl h2)
      · have e2 : up c i = k := by simpa using h2
        rw [e2] at h1
        exact .inr (.inr h1)
      · exact ih _ hu (by omega) h1 h2
end

def row (c : DChart) (i : Nat) : List Bool := (List.range (ns c)).map fun j => ab c i j
def abRows (c : DChart) : List (List Bool) := (List.range (ns c)).map (row c)
def plainIn (c : DChart) (i k : Nat) : Bool := decide (0 < k) && (up c k == i) && decide (knd c k < 4)
def anyIn (c : DChart) (i k : Nat) : Bool := decide (0 < k) && (up c k == i)
/-- A state's plain ones. -/
def kidsOf (c : DChart) (i : Nat) : List Int := ((List.range (ns c)).filter (plainIn c i)).map Int.ofNat
def allOf (c : DChart) (i : Nat) : List Int := ((List.range (ns c)).filter (anyIn c i)).map Int.ofNat
def kdRows (c : DChart) : List (List Int) := (List.range (ns c)).map (kidsOf c)

theorem mem_kids {c : DChart} {i : Nat} {x : Int} : x ∈ kidsOf c i ↔ ∃ k : Nat, x = (k : Int) ∧ k < ns c ∧ 0 < k ∧ up c k = i ∧ knd c k < 4 := by
  unfold kidsOf plainIn
  simp only [List.mem_map, List.mem_filter, List.mem_range, Bool.and_eq_true, decide_eq_true_eq, beq_iff_eq]
  constructor
  · rintro ⟨k, ⟨h1, ⟨h2, h3⟩, h4⟩, rfl⟩
    exact ⟨k, rfl, h1, h2, h3, h4⟩
  · rintro ⟨k, rfl, h1, h2, h3, h4⟩
    exact ⟨k, ⟨h1, ⟨h2, h3⟩, h4⟩, rfl⟩
end Go.Proofs.Ytekfbafljilchaa
