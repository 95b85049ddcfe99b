/- Plain law of ClockPlays: the timers as they were set, and the same ones sorted. -/
import Derived.Test.YtifjablnplpfnaaD0
set_option linter.unusedVariables false
set_option linter.unusedSimpArgs false
namespace Go.Proofs.Ytifjablnplpfnaa

/-- Those due at v, in order. -/
def due_ (v : Int) (ts : List Tm) : List Tm := ts.filter fun t => t.d == v
/-- a is b, stably sorted. -/
def Stable (a b : List Tm) : Prop := Sorted a ∧ ∀ v, due_ v a = due_ v b

theorem stable_unique : ∀ (a b : List Tm), Sorted a → Sorted b → (∀ v, due_ v a = due_ v b) → a = b := by
  intro a
  induction a with
  | nil =>
    intro b _ _ h
    cases b with
    | nil => rfl
    | cons t b =>
      have := h t.d
      simp [due_] at this
  | cons t a ih =>
    intro b ha hb h
    cases b with
    | nil =>
      have := h t.d
      simp [due_] at this
    | cons u b =>
      have ha' := List.pairwise_cons.1 ha
      have hb' := List.pairwise_cons.1 hb
      have htb : t ∈ u :: b := by
        have : t ∈ due_ t.d (t :: a) := by simp [due_]
        rw [h] at this
        exact (List.mem_filter.1 this).1
      have hua : u ∈ t :: a := by
        have : u ∈ due_ u.d (u :: b) := by simp [due_]
        rw [← h] at this
        exact (List.mem_filter.1 this).1
      have h1 : t.d ≤ u.d := by
        rcases List.mem_cons.1 hua with rfl | hm
        · exact Int.le_refl _
        · exact ha'.1 u hm
      have h2 : u.d ≤ t.d := by
        rcases List.mem_cons.1 htb with rfl | hm
        · exact Int.le_refl _
        · exact hb'.1 t hm
      have hd : t.d = u.d := by omega
      have ht := h t.d
      simp only [due_, List.filter_cons, beq_self_eq_true, if_true, ← hd] at ht
      injection ht with htu _
      subst htu
      congr 1
      refine ih b ha'.2 hb'.2 (fun v => ?_)
      have := h v
      simp only [due_, List.filter_cons] at this
      split at this
      · injection this
      · exact this

theorem Stable.ins {a b : List Tm} (h : Stable a b) (t : Tm) : Stable (insT a t) (b ++ [t]) := by
  refine ⟨insT_sorted h.1 t, fun v => ?_⟩
  have hb : due_ v (b ++ [t]) = due_ v b ++ (if t.d == v then [t] else []) := by
    unfold due_
    rw [List.filter_append]
    cases hq : t.d == v <;> simp [hq]
  rw [hb, ← h.2 v, insT_eq h.1 t]
  unfold due_
  simp only [List.filter_append, List.filter_filter]
  have e1 : a.filter (fun u => u.d == v) = a.filter (fun u => (u.d == v) && decide (u.d ≤ t.d)) ++ a.filter (fun u => (u.d == v) && !decide (u.d ≤ t.d)) := by
    by_cases hv : v ≤ t.d
    · have x1 : a.filter (fun u => (u.d == v) && !decide (u.d ≤ t.d)) = [] := filter_none (fun u _ => by by_cases hu : u.d = v <;> simp [hu, hv])
      have x2 : a.filter (fun u => (u.d == v) && decide (u.d ≤ t.d)) = a.filter (fun u => u.d == v) := List.filter_congr (fun u _ => by by_cases hu : u.d = v <;> simp [hu, hv])
      rw [x1, x2, List.append_nil]
    · have x1 : a.filter (fun u => (u.d == v) && decide (u.d ≤ t.d)) = [] := filter_none (fun u _ => by by_cases hu : u.d = v <;> simp [hu, hv])
      have x2 : a.filter (fun u => (u.d == v) && !decide (u.d ≤ t.d)) = a.filter (fun u => u.d == v) := List.filter_congr (fun u _ => by by_cases hu : u.d = v <;> simp [hu, hv])
      rw [x1, x2, List.nil_append]
  rw [e1]
  by_cases htv : t.d = v
  · have x2 : a.filter (fun u => (u.d == v) && !decide (u.d ≤ t.d)) = [] := filter_none (fun u _ => by by_cases hu : u.d = v <;> simp [hu, htv])
    rw [x2]
    simp [htv]
  · simp [htv]

theorem Stable.filter {a b : List Tm} (h : Stable a b) (p : Tm → Bool) : Stable (a.filter p) (b.filter p) := by
  refine ⟨List.Pairwise.filter _ h.1, fun v => ?_⟩
  have := congrArg (List.filter p) (h.2 v)
  unfold due_ at *
  rw [List.filter_filter, List.filter_filter] at this ⊢
  have e : ∀ l : List Tm, l.filter (fun a => (a.d == v) && p a) = l.filter (fun a => p a && (a.d == v)) := fun l => List.filter_congr (fun x _ => Bool.and_comm _ _)
  rw [e, e]
  exact this

theorem filter_len2 (l : List Tm) (p : Tm → Bool) : l.length = (l.filter p).length + (l.filter fun t => !p t).length := by
  induction l with
  | nil => rfl
  | cons t l ih => cases hp : p t <;> simp [List.filter_cons, hp, ih] <;> omega

theorem Stable.length {a b : List Tm} (h : Stable a b) : a.length = b.length := by
  have key : ∀ (n : Nat) (a b : List Tm), a.length ≤ n → (∀ v, due_ v a = due_ v b) → a.length = b.length := by
    intro n
    induction n with
    | zero =>
      intro a b ha h
      have := List.eq_nil_of_length_eq_zero (Nat.le_zero.1 ha)
      subst this
      cases b with
      | nil => rfl
      | cons t b => have := h t.d; simp [due_] at this
    | succ n ih =>
      intro a b ha h
      cases a with
      | nil =>
        cases b with
        | nil => rfl
        | cons t b => have := h t.d; simp [due_] at this
      | cons t a =>
        have ea := filter_len2 (t :: a) (fun u => u.d == t.d)
        have eb := filter_len2 b (fun u => u.d == t.d)
        have h1 : ((t :: a).filter fun u => u.d == t.d).length = (b.filter fun u => u.d == t.d).length := congrArg List.length (h t.d)
        have h2 := ih ((t :: a).filter fun u => !(u.d == t.d)) (b.filter fun u => !(u.d == t.d)) (by
          have hpos : 0 < ((t :: a).filter fun u => u.d == t.d).length := by simp
          omega) (fun v => by
          unfold due_
          rw [List.filter_filter, List.filter_filter]
          by_cases hv : v = t.d
          · subst hv
            rw [filter_none (fun u _ => by cases hu : u.d == t.d <;> simp), filter_none (fun u _ => by cases hu : u.d == t.d <;> simp)]
          · have e : ∀ l : List Tm, l.filter (fun a => (a.d == v) && !(a.d == t.d)) = l.filter (fun a => a.d == v) := fun l => List.filter_congr (fun x _ => by
              by_cases hx : x.d = v
              · simp [hx, hv]
              · simp [hx])
            rw [e, e]
            exact h v)
        omega
  exact key _ a b (Nat.le_refl _) h.2

/-! ### selection sort, as the reference does it -/
/-- The scan for the next one: i from the left, 'best' so far (none: -1). -/
def better (ts : List Tm) (used : List Bool) (best : Option Nat) (i : Nat) : Option Nat :=
  if used[i]?.getD true then best else
  match best with
  | none => some i
  | some b => if (ts[i]?.getD default).d < (ts[b]?.getD default).d then some i else some b
def scan (ts : List Tm) (used : List Bool) : Nat → Option Nat
  | 0 => none
  | i + 1 => better ts used (scan ts used i) i

/-- b is the first of the least of the unused ones below n. -/
def IsBest (ts : List Tm) (used : List Bool) (n b : Nat) : Prop :=
  b < n ∧ used[b]? = some false ∧ ∀ j, j < n → used[j]? = some false → (ts[b]?.getD default).d < (ts[j]?.getD default).d ∨ ((ts[b]?.getD default).d = (ts[j]?.getD default).d ∧ b ≤ j)

theorem scan_spec (ts : List Tm) (used : List Bool) : ∀ n, n ≤ used.length → (∀ b, scan ts used n = some b → IsBest ts used n b) ∧ (scan ts used n = none → ∀ j, j < n → used[j]? = some true) := by
  intro n
  induction n with
  | zero => exact fun _ => ⟨fun b h => by simp [scan] at h, fun _ j hj => absurd hj (Nat.not_lt_zero _)⟩
  | succ n ih =>
    intro hn
    obtain ⟨i1, i2⟩ := ih (by omega)
    have hu : used[n]? = some (used[n]'(by omega)) := List.getElem?_eq_getElem (by omega)
    simp only [scan, better, hu, Option.getD_some]
    generalize hub : used[n]'(by omega) = ub at hu ⊢
    cases ub with
    | true =>
      simp only [if_true]
      refine ⟨fun b hb => ?_, fun h j hj => ?_⟩
      · obtain ⟨h1, h2, h3⟩ := i1 b hb
        refine ⟨by omega, h2, fun j hj hju => ?_⟩
        rcases Nat.lt_succ_iff_lt_or_eq.1 hj with h | rfl
        · exact h3 j h hju
        · rw [hu] at hju; cases hju
      · rcases Nat.lt_succ_iff_lt_or_eq.1 hj with h' | rfl
        · exact i2 h j h'
        · exact hu
    | false =>
      simp only [Bool.false_eq_true, if_false]
      cases hs : scan ts used n with
      | none =>
        refine ⟨fun b hb => ?_, fun h => by cases h⟩
        injection hb with hb
        subst hb
        refine ⟨by omega, hu, fun j hj hju => ?_⟩
        rcases Nat.lt_succ_iff_lt_or_eq.1 hj with h | rfl
        · have := i2 hs j h
          rw [hju] at this; cases this
        · exact .inr ⟨rfl, Nat.le_refl _⟩
      | some b0 =>
        obtain ⟨h1, h2, h3⟩ := i1 b0 hs
        dsimp only
        by_cases hlt : (ts[n]?.getD default).d < (ts[b0]?.getD default).d
        · simp only [if_pos hlt]
          refine ⟨fun b hb => ?_, fun h => by cases h⟩
          injection hb with hb
          subst hb
          refine ⟨by omega, hu, fun j hj hju => ?_⟩
          rcases Nat.lt_succ_iff_lt_or_eq.1 hj with h | rfl
          · have := h3 j h hju
            omega
          · exact .inr ⟨rfl, Nat.le_refl _⟩
        · simp only [if_neg hlt]
          refine ⟨fun b hb => ?_, fun h => by cases h⟩
          injection hb with hb
          subst hb
          refine ⟨by omega, h2, fun j hj hju => ?_⟩
          rcases Nat.lt_succ_iff_lt_or_eq.1 hj with h | rfl
          · exact h3 j h hju
          · omega

def key (ts : List Tm) (i j : Nat) : Prop := (ts[i]?.getD default).d < (ts[j]?.getD default).d ∨ ((ts[i]?.getD default).d = (ts[j]?.getD default).d ∧ i < j)

/-- While the reference sorts: the places chosen so far. -/
structure SelInv (ts : List Tm) (used : List Bool) (is : List Nat) : Prop where
  len : used.length = ts.length
  lt : ∀ i, i ∈ is → i < ts.length
  use : ∀ j, j < ts.length → used[j]? = some (decide (j ∈ is))
  pw : is.Pairwise (key ts)
  rest : ∀ i, i ∈ is → ∀ j, j < ts.length → j ∉ is → key ts i j

theorem SelInv.start (ts : List Tm) : SelInv ts (List.replicate ts.length false) [] :=
  ⟨by simp, by simp, fun j hj => by simp [List.getElem?_replicate, hj], List.Pairwise.nil, by simp⟩

theorem SelInv.step {ts : List Tm} {used : List Bool} {is : List Nat} (h : SelInv ts used is) {b : Nat} (hb : scan ts used ts.length = some b) : b < ts.length ∧ b ∉ is ∧ SelInv ts (used.set b true) (is ++ [b]) := by
  obtain ⟨h1, h2, h3⟩ := (scan_spec ts used ts.length (by rw [h.len]; exact Nat.le_refl _)).1 b hb
  have hnb : b ∉ is := fun hm => by have := h.use b h1; rw [h2] at this; simp [hm] at this
  refine ⟨h1, hnb, by simp [h.len], fun i hi => ?_, fun j hj => ?_, ?_, fun i hi j hj hn => ?_⟩
  · rcases List.mem_append.1 hi with hi | hi
    · exact h.lt i hi
    · rw [List.mem_singleton.1 hi]; exact h1
  · by_cases e : j = b
    · subst e
      rw [List.getElem?_set_self (by rw [h.len]; exact hj)]
      simp
    · rw [List.getElem?_set_ne (fun e' => e e'.symm), h.use j hj]
      simp [e]
  · rw [List.pairwise_append]
    exact ⟨h.pw, List.pairwise_singleton _ _, fun i hi j hj => by rw [List.mem_singleton.1 hj]; exact h.rest i hi b h1 hnb⟩
  · have hn' : j ∉ is ∧ j ≠ b := by simpa using hn
    rcases List.mem_append.1 hi with hi | hi
    · exact h.rest i hi j hj hn'.1
    · rw [List.mem_singleton.1 hi]
      have := h3 j hj (by rw [h.use j hj]; simp [hn'.1])
      unfold key
      omega

theorem SelInv.nodup {ts : List Tm} {used : List Bool} {is : List Nat} (h : SelInv ts used is) : is.Nodup :=
  List.Pairwise.imp (fun {a b} hk => by rintro rfl; unfold key at hk; omega) h.pw

/-- As long as not all are chosen there is one more. -/
theorem SelInv.more {ts : List Tm} {used : List Bool} {is : List Nat} (h : SelInv ts used is) (hl : is.length < ts.length) : ∃ b, scan ts used ts.length = some b := by
  cases hs : scan ts used ts.length with
  | some b => exact ⟨b, rfl⟩
  | none =>
    have hall := (scan_spec ts used ts.length (by rw [h.len]; exact Nat.le_refl _)).2 hs
    exfalso
    have hsub : List.range ts.length ⊆ is := fun j hj => by
      have hj' := List.mem_range.1 hj
      have := hall j hj'
      rw [h.use j hj'] at this
      simpa using this
    have := List.Nodup.length_le_of_subset List.nodup_range hsub
    simp at this
    omega

theorem mono_unique : ∀ (a b : List Nat), a.Pairwise (· < ·) → b.Pairwise (· < ·) → (∀ x, x ∈ a ↔ x ∈ b) → a = b := by
  intro a
  induction a with
  | nil =>
    intro b _ _ h
    cases b with
    | nil => rfl
    | cons x b => have := (h x).2 (by simp); cases this
  | cons x a ih =>
    intro b ha hb h
    cases b with
    | nil => have := (h x).1 (by simp); cases this
    | cons y b =>
      have ha' := List.pairwise_cons.1 ha
      have hb' := List.pairwise_cons.1 hb
      have hxy : x = y := by
        rcases List.mem_cons.1 ((h x).1 (by simp)) with e | e
        · exact e
        · rcases List.mem_cons.1 ((h y).2 (by simp)) with e' | e'
          · exact e'.symm
          · have := ha'.1 y e'; have := hb'.1 x e; omega
      subst hxy
      congr 1
      refine ih b ha'.2 hb'.2 (fun z => ?_)
      constructor
      · intro hz
        rcases List.mem_cons.1 ((h z).1 (List.mem_cons_of_mem _ hz)) with e | e
        · have := ha'.1 z hz; omega
        · exact e
      · intro hz
        rcases List.mem_cons.1 ((h z).2 (List.mem_cons_of_mem _ hz)) with e | e
        · have := hb'.1 z hz; omega
        · exact e

theorem range_filter_map (ts : List Tm) (p : Tm → Bool) : ((List.range ts.length).filter fun i => p (ts[i]?.getD default)).map (fun i => ts[i]?.getD default) = ts.filter p := by
  have h1 : (List.range ts.length).map (fun i => ts[i]?.getD default) = ts := by
    refine List.ext_getElem (by simp) (fun i h1 h2 => ?_)
    simp at h1
    simp [List.getElem?_eq_getElem h1]
  conv => rhs; rw [← h1]
  rw [List.filter_map]
  rfl

theorem SelInv.stable {ts : List Tm} {used : List Bool} {is : List Nat} (h : SelInv ts used is) (hl : ts.length ≤ is.length) : Stable (is.map fun i => ts[i]?.getD default) ts := by
  have hall : ∀ j, j < ts.length → j ∈ is := by
    intro j hj
    rcases Classical.em (j ∈ is) with hm | hm
    · exact hm
    · exfalso
      have hsub : j :: is ⊆ List.range ts.length := fun i hi => by
        rcases List.mem_cons.1 hi with rfl | hi
        · exact List.mem_range.2 hj
        · exact List.mem_range.2 (h.lt i hi)
      have := List.Nodup.length_le_of_subset (List.nodup_cons.2 ⟨hm, h.nodup⟩) hsub
      simp at this
      omega
  refine ⟨?_, fun v => ?_⟩
  · unfold Sorted
    rw [List.pairwise_map]
    exact List.Pairwise.imp (fun {a b} hk => by unfold key at hk; omega) h.pw
  · unfold due_
    rw [List.filter_map, ← range_filter_map ts (fun t => t.d == v)]
    congr 1
    refine mono_unique _ _ ?_ ?_ (fun x => ?_)
    · refine List.Pairwise.imp_of_mem ?_ (List.Pairwise.filter _ h.pw)
      intro a b ha hb hk
      have ha2 := (List.mem_filter.1 ha).2
      have hb2 := (List.mem_filter.1 hb).2
      simp at ha2 hb2
      unfold key at hk
      omega
    · exact List.Pairwise.filter _ List.pairwise_lt_range
    · simp only [List.mem_filter, List.mem_range, Function.comp]
      exact ⟨fun ⟨hm, hp⟩ => ⟨h.lt x hm, hp⟩, fun ⟨hm, hp⟩ => ⟨hall x hm, hp⟩⟩

end Go.Proofs.Ytifjablnplpfnaa
