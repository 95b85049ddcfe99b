/- A legal configuration, in plain words: what LatticeLegal asks of it. -/
import Derived.Test.YtekfbafljilchaaF1
import Derived.Test.YtekfbafljilchaaG1
set_option linter.unusedVariables false
set_option linter.unusedSimpArgs false
namespace Go.Proofs.Ytekfbafljilchaa

/-- What a legal configuration is. -/
structure Leg (c : DChart) (cfg : List Int) : Prop where
  mem : ∀ x, x ∈ cfg → ∃ i : Nat, x = (i : Int) ∧ 0 < i ∧ i < ns c ∧ knd c i < 4 ∧ (up c i = 0 ∨ ((up c i : Nat) : Int) ∈ cfg)
  comp : ∀ s : Nat, s < ns c → (s : Int) ∈ cfg → compB c (s : Int) = true → cnt cfg (kidsOf c s) = 1
  para : ∀ s : Nat, s < ns c → (s : Int) ∈ cfg → knd c s = 2 → cnt cfg (kidsOf c s) = (kidsOf c s).length
  some_ : 0 < cfg.length

theorem Tree.leg {c : DChart} (T : Tree c) {cfg : List Int} (h : legalB c cfg = true) : Leg c cfg := by
  simp only [legalB, Bool.and_eq_true, decide_eq_true_eq] at h
  obtain ⟨⟨h1, h2⟩, h3⟩ := h
  refine ⟨fun x hx => ?_, fun s hs hm hc => ?_, fun s hs hm hc => ?_, h3⟩
  · obtain ⟨j, hj, rfl⟩ := List.getElem_of_mem hx
    have h := List.all_eq_true.1 h1 j (List.mem_range.2 hj)
    have e : cfg[j]?.getD 0 = cfg[j] := by rw [List.getElem?_eq_getElem hj]; rfl
    simp only [legOk, e, Bool.and_eq_true, decide_eq_true_eq, Bool.or_eq_true] at h
    obtain ⟨⟨⟨⟨a1, a2⟩, a3⟩, a4⟩, a5⟩ := h
    obtain ⟨i, hi, hin⟩ := isSt_true a2
    rw [hi] at a1 a3 a5 ⊢
    have h0 : 0 < i := by omega
    refine ⟨i, rfl, h0, hin, by simpa using a3, ?_⟩
    simp only [Int.toNat_natCast] at a5
    rw [T.par_up h0 hin] at a5
    rcases a5 with a5 | a5
    · left; omega
    · right
      have := List.contains_iff_mem.1 a5
      exact List.mem_of_mem_take this
  · have h := List.all_eq_true.1 h2 s (List.mem_range.2 hs)
    have hcn : cfg.contains (s : Int) = true := List.contains_iff_mem.2 hm
    simp only [legOk2, hcn, hc, Bool.or_true, Bool.true_and, Bool.not_eq_true', Bool.or_eq_false_iff, Bool.not_eq_false', beq_iff_eq] at h
    exact h.1
  · have h := List.all_eq_true.1 h2 s (List.mem_range.2 hs)
    have hcn : cfg.contains (s : Int) = true := List.contains_iff_mem.2 hm
    have hk : (knd c s == 2) = true := by simpa using hc
    simp only [legOk2, hcn, hk, Bool.or_true, Bool.true_and, Bool.not_eq_true', Bool.or_eq_false_iff, Bool.not_eq_false', beq_iff_eq] at h
    exact h.2

section
variable {c : DChart} (T : Tree c) {cfg : List Int} (L : Leg c cfg)
include T L
/-- All that is around a state is there. -/
theorem Leg.chain {x : Int} : ∀ (f : Nat) (p : Int), (p = -1 ∨ ∃ j : Nat, p = (j : Int) ∧ (j = 0 ∨ (j : Int) ∈ cfg)) → x ∈ abvF c 0 f p → x ∈ cfg := by
  intro f
  induction f with
  | zero => intro p _ h; simp [abvF] at h
  | succ f ih =>
    intro p hp h
    rw [abvF] at h
    split at h
    · simp at h
    · rename_i hn
      rcases hp with rfl | ⟨j, rfl, hj⟩
      · omega
      · have hj0 : j ≠ 0 := fun e => hn (.inr (by omega))
        have hm : (j : Int) ∈ cfg := by rcases hj with e | e; exact absurd e hj0; exact e
        rcases List.mem_cons.1 h with rfl | h
        · exact hm
        · obtain ⟨i, hi, h0, hin, hk, hu⟩ := L.mem _ hm
          obtain rfl : j = i := by omega
          refine ih _ ?_ h
          rw [Int.toNat_natCast, T.par_up h0 hin]
          exact .inr ⟨_, rfl, hu⟩
theorem Leg.above {s p : Int} (hs : s ∈ cfg) (h : p ∈ abv c s 0) : p ∈ cfg := by
  obtain ⟨i, rfl, h0, hin, hk, hu⟩ := L.mem _ hs
  unfold abv at h
  rw [if_pos (isSt_nat hin), Int.toNat_natCast, T.par_up h0 hin] at h
  exact Leg.chain T L _ _ (.inr ⟨_, rfl, hu⟩) h
/-- Where something there is inside s, a kid of s is there. -/
theorem Leg.kid {s : Nat} : ∀ (k : Nat), (k : Int) ∈ cfg → ab c k s = true → ∃ j : Nat, (j : Int) ∈ cfg ∧ 0 < j ∧ j < ns c ∧ up c j = s ∧ knd c j < 4 := by
  intro k
  induction k using Nat.strongRecOn with
  | ind k ih =>
    intro hk hab
    obtain ⟨i, hi, h0, hin, hkn, hu⟩ := L.mem _ hk
    obtain rfl : k = i := by omega
    rw [T.ab_up h0 hin, Bool.or_eq_true] at hab
    rcases hab with hab | hab
    · exact ⟨k, hk, h0, hin, by simpa using hab, hkn⟩
    · have hul := T.up_lt h0 hin
      rcases hu with hu | hu
      · rw [hu] at hab
        simp [ab, abF] at hab
      · exact ih _ hul hu hab
theorem Leg.atom {s : Int} (hs : s ∈ cfg) : atomB c s = decide (cfg.countP (fun k => inB c k s) = 0) := by
  obtain ⟨i, rfl, h0, hin, hk, hu⟩ := L.mem _ hs
  have hst := isSt_nat hin
  cases hb : decide (cfg.countP (fun k => inB c k (i : Int)) = 0) with
  | true =>
    have hz : ∀ x, x ∈ cfg → inB c x (i : Int) = false := by
      have h := of_decide_eq_true hb
      rw [List.countP_eq_zero] at h
      intro x hx
      simpa using h x hx
    have hnil : (kidsOf c i).length = 0 := by
      refine Nat.eq_zero_of_not_pos fun hpos => ?_
      have hkd : ∃ k, k ∈ kidsOf c i ∧ cfg.contains k = true := by
        obtain ⟨k0, hk0⟩ := List.exists_mem_of_length_pos hpos
        obtain ⟨k, rfl, b1, b2, b3, b4⟩ := mem_kids.1 hk0
        have h2 := T.holds k b2 b1
        rw [b3] at h2
        have h1 := T.low i h0 hin
        have hc : 0 < cnt cfg (kidsOf c i) := by
          by_cases hk1 : knd c i ≤ 1
          · rw [L.comp i hin hs (by simp [compB, hst, hk1, hpos])]
            decide
          · rw [L.para i hin hs (by omega)]
            exact hpos
        obtain ⟨k, hk, hc⟩ := List.countP_pos_iff.1 hc
        exact ⟨k, hk, hc⟩
      obtain ⟨x, hx, hc⟩ := hkd
      obtain ⟨k, rfl, b1, b2, b3, b4⟩ := mem_kids.1 hx
      have h := hz _ (List.contains_iff_mem.1 hc)
      have hab : ab c k i = true := by rw [T.ab_up b2 b1]; simp [b3]
      simp [inB, isSt_nat b1, hst, hab] at h
    simp [atomB, hst, hk, hnil]
  | false =>
    have h := of_decide_eq_false hb
    have hpos : 0 < cfg.countP (fun k => inB c k (i : Int)) := Nat.pos_of_ne_zero h
    obtain ⟨x, hx, hi⟩ := List.countP_pos_iff.1 hpos
    obtain ⟨k, rfl, _⟩ := L.mem _ hx
    simp only [inB, Bool.and_eq_true, Int.toNat_natCast] at hi
    obtain ⟨j, hj, j0, jn, ju, jk⟩ := Leg.kid T L k hx hi.2
    have hm : (j : Int) ∈ kidsOf c i := mem_kids.2 ⟨j, rfl, jn, j0, ju, jk⟩
    have : 0 < (kidsOf c i).length := List.length_pos_of_mem hm
    have hne : (kidsOf c i).length ≠ 0 := by omega
    simp [atomB, hne]
end

/-! ### Common -/
theorem comF_cases (c : DChart) (l : List Int) : ∀ r : List Int, comF c l r = -1 ∧ (∀ x, x ∈ r → comOk c l x = false) ∨ ∃ k, ∃ hk : k < r.length, comF c l r = r[k] ∧ comOk c l r[k] = true ∧ ∀ j (hj : j < k), comOk c l r[j] = false := by
  intro r
  induction r with
  | nil => exact .inl ⟨rfl, fun x h => by simp at h⟩
  | cons a r ih =>
    rw [comF]
    cases h : comOk c l a with
    | true => exact .inr ⟨0, by simp, by simp, by simpa using h, fun j hj => absurd hj (Nat.not_lt_zero _)⟩
    | false =>
      rcases ih with ⟨e, hn⟩ | ⟨k, hk, e, ho, hn⟩
      · exact .inl ⟨by simpa using e, fun x hx => by rcases List.mem_cons.1 hx with rfl | hx; exact h; exact hn x hx⟩
      · refine .inr ⟨k + 1, by simpa using hk, by simpa using e, by simpa using ho, fun j hj => ?_⟩
        cases j with
        | zero => simpa using h
        | succ j => simpa using hn j (by omega)
section
variable {c : DChart} (T : Tree c)
include T
theorem Tree.abv_ab : ∀ (f a : Nat), a < ns c → a ≤ f → ∀ s : Nat, ab c a s = true → ∃ k, ∃ hk : k < (abvF c (-1) f (par c a)).length, (abvF c (-1) f (par c a))[k] = (s : Int) ∧ ∀ j (hj : j < k), ∃ b : Nat, (abvF c (-1) f (par c a))[j] = (b : Int) ∧ b < ns c ∧ ab c b s = true := by
  intro f
  induction f with
  | zero =>
    intro a _ h0 s hab
    obtain rfl : a = 0 := by omega
    simp [ab, abF] at hab
  | succ f ih =>
    intro a ha haf s hab
    rcases Nat.eq_zero_or_pos a with rfl | h0
    · simp [ab, abF] at hab
    · have hu := T.up_lt h0 ha
      have hun := T.up_ns ha
      have e : abvF c (-1) (f + 1) (par c a) = ((up c a : Nat) : Int) :: abvF c (-1) f (par c (up c a)) := by
        rw [T.par_up h0 ha, abvF_step _ _ _ _ (by omega)]
      rw [T.ab_up h0 ha, Bool.or_eq_true] at hab
      by_cases hup : up c a = s
      · refine ⟨0, by rw [e]; simp, by simp [e, hup], fun j hj => absurd hj (Nat.not_lt_zero _)⟩
      · have hab' : ab c (up c a) s = true := by rcases hab with h | h; exact absurd (by simpa using h) hup; exact h
        obtain ⟨k, hk, hs, hb⟩ := ih (up c a) hun (by omega) s hab'
        refine ⟨k + 1, by rw [e]; simpa using hk, by simpa [e] using hs, fun j hj => ?_⟩
        cases j with
        | zero => exact ⟨up c a, by simp [e], hun, hab'⟩
        | succ j =>
          obtain ⟨b, hb1, hb2, hb3⟩ := hb j (by omega)
          exact ⟨b, by simpa [e] using hb1, hb2, hb3⟩
theorem Tree.abv_ab' : ∀ (f a : Nat), a < ns c → ∀ x, x ∈ abvF c (-1) f (par c a) → ∃ b : Nat, x = (b : Int) ∧ b < ns c ∧ ab c a b = true := by
  intro f
  induction f with
  | zero => intro a _ x h; simp [abvF] at h
  | succ f ih =>
    intro a ha x h
    rcases Nat.eq_zero_or_pos a with rfl | h0
    · rw [T.top, abvF_neg] at h; simp at h
    · have hun := T.up_ns ha
      rw [T.par_up h0 ha, abvF_step _ _ _ _ (by omega)] at h
      rcases List.mem_cons.1 h with rfl | h
      · exact ⟨_, rfl, hun, by rw [T.ab_up h0 ha]; simp⟩
      · obtain ⟨b, e, hb, hab⟩ := ih _ hun x h
        exact ⟨b, e, hb, by rw [T.ab_up h0 ha, hab, Bool.or_true]⟩
/-- What Common says, in the words of LatticeCommon. -/
theorem Tree.com {l : List Int} : -1 ≤ comB c l ∧ (0 ≤ comB c l → ∀ a, a ∈ l → inB c a (comB c l) = true) ∧
    ∀ s : Nat, s < ns c → knd c s ≤ 1 → 0 < l.length → (∀ a, a ∈ l → inB c a (s : Int) = true) → (s : Int) = comB c l ∨ inB c (comB c l) (s : Int) = true := by
  unfold comB
  by_cases hl : l = []
  · subst hl
    simp
  rw [if_neg hl]
  by_cases hany : l.any (fun x => !isSt c x) = true
  · rw [if_pos hany]
    refine ⟨by omega, by omega, fun s hs _ _ hall => ?_⟩
    obtain ⟨x, hx, hi⟩ := List.any_eq_true.1 hany
    have := hall x hx
    simp [inB] at this
    simp [this.1.1] at hi
  rw [if_neg hany]
  have hst : ∀ x, x ∈ l → isSt c x = true := fun x hx => by
    cases h : isSt c x with
    | true => rfl
    | false => exact absurd (List.any_eq_true.2 ⟨x, hx, by simp [h]⟩) hany
  obtain ⟨a0, r, rfl⟩ : ∃ a r, l = a :: r := by
    cases l with
    | nil => exact absurd rfl hl
    | cons a r => exact ⟨a, r, rfl⟩
  simp only [List.getElem?_cons_zero, Option.getD_some]
  obtain ⟨i, rfl, hi⟩ := isSt_true (hst a0 (List.mem_cons_self ..))
  have eab : abv c (i : Int) (-1) = abvF c (-1) (ns c) (par c i) := by simp [abv, isSt_nat hi]
  rw [eab]
  have hok : ∀ b : Nat, b < ns c → comOk c ((i : Int) :: r) (b : Int) = true → knd c b ≤ 1 ∧ ∀ a, a ∈ (i : Int) :: r → inB c a (b : Int) = true := fun b hb h => by
    simp only [comOk, Bool.and_eq_true, decide_eq_true_eq, Int.toNat_natCast, Bool.not_eq_true'] at h
    refine ⟨h.1, fun a ha => ?_⟩
    have := List.any_eq_false.1 h.2 a ha
    simp only [inB, hst a ha, isSt_nat hb, Bool.true_and, Int.toNat_natCast]
    simpa using this
  have hno : ∀ s : Nat, s < ns c → knd c s ≤ 1 → (∀ a, a ∈ (i : Int) :: r → inB c a (s : Int) = true) → comOk c ((i : Int) :: r) (s : Int) = true := fun s hs hk hall => by
    simp only [comOk, Int.toNat_natCast, hk, decide_true, Bool.true_and, Bool.not_eq_true']
    refine List.any_eq_false.2 fun x hx => ?_
    have := hall x hx
    simp only [inB, Bool.and_eq_true, Int.toNat_natCast] at this
    simp [this.2]
  rcases comF_cases c ((i : Int) :: r) (abvF c (-1) (ns c) (par c i)) with ⟨e, hn⟩ | ⟨k, hk, e, ho, hn⟩
  · rw [e]
    refine ⟨by omega, by omega, fun s hs hk _ hall => ?_⟩
    have h1 := hall (i : Int) (List.mem_cons_self ..)
    simp only [inB, Bool.and_eq_true, Int.toNat_natCast] at h1
    obtain ⟨k, hk', hs', _⟩ := T.abv_ab (ns c) i hi (Nat.le_of_lt hi) s h1.2
    have := hn _ (List.getElem_mem hk')
    rw [hs', hno s hs hk hall] at this
    exact absurd this (by simp)
  · rw [e]
    obtain ⟨b, hb, hbn, hab⟩ := T.abv_ab' (ns c) i hi _ (List.getElem_mem hk)
    rw [hb] at ho ⊢
    obtain ⟨hk1, hall1⟩ := hok b hbn ho
    refine ⟨by omega, fun _ => hall1, fun s hs hks _ hall => ?_⟩
    have h1 := hall (i : Int) (List.mem_cons_self ..)
    simp only [inB, Bool.and_eq_true, Int.toNat_natCast] at h1
    obtain ⟨m, hm, hs', hbef⟩ := T.abv_ab (ns c) i hi (Nat.le_of_lt hi) s h1.2
    rcases Nat.lt_trichotomy m k with h | h | h
    · have := hn m h
      rw [hs', hno s hs hks hall] at this
      exact absurd this (by simp)
    · subst h
      rw [hb] at hs'
      exact .inl hs'.symm
    · obtain ⟨b2, e2, _, hab2⟩ := hbef k h
      rw [hb] at e2
      obtain rfl : b = b2 := by omega
      right
      simp only [inB, isSt_nat hbn, isSt_nat hs, Bool.true_and, Int.toNat_natCast]
      exact hab2
end
end Go.Proofs.Ytekfbafljilchaa
