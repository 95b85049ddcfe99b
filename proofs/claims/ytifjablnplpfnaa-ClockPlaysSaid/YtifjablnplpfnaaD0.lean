/- Plain law of the clock: what is set lies sorted by when it is due. -/
import Derived.Test.YtifjablnplpfnaaC0
set_option linter.unusedVariables false
set_option linter.unusedSimpArgs false
namespace Go.Proofs.Ytifjablnplpfnaa

def Sorted (ts : List Tm) : Prop := ts.Pairwise fun a b => a.d ≤ b.d

theorem at_set (due : Int) (ts : List Tm) : SetAt ts due (at_ due ts ts.length) := by
  have h : ∀ n, n ≤ ts.length → at_ due ts n ≤ n ∧ (∀ j (h : j < ts.length), at_ due ts n ≤ j → j < n → due < ts[j].d) ∧ (∀ h : at_ due ts n - 1 < ts.length, 0 < at_ due ts n → (ts[at_ due ts n - 1]'h).d ≤ due) := by
    intro n
    induction n with
    | zero => intro _; exact ⟨Nat.le_refl _, fun j _ _ h => absurd h (Nat.not_lt_zero _), fun h h2 => absurd h2 (Nat.lt_irrefl 0)⟩
    | succ n ih =>
      intro hn
      obtain ⟨i1, i2, i3⟩ := ih (by omega)
      have hg : ts[n]?.getD default = ts[n]'(by omega) := by rw [List.getElem?_eq_getElem (by omega)]; rfl
      simp only [at_, hg]
      by_cases hd : due < ts[n].d
      · simp only [if_pos hd]
        refine ⟨by omega, fun j hj hk hjn => ?_, i3⟩
        rcases Nat.lt_succ_iff_lt_or_eq.1 hjn with h | rfl
        · exact i2 j hj hk h
        · exact hd
      · simp only [if_neg hd]
        refine ⟨Nat.le_refl _, fun j hj hk hjn => by omega, fun h _ => ?_⟩
        simp only [Nat.add_sub_cancel]
        omega
  obtain ⟨h1, h2, h3⟩ := h _ (Nat.le_refl _)
  exact ⟨h1, fun j hj hk => h2 j hj hk hj, h3⟩

theorem filter_all {p : Tm → Bool} {l : List Tm} (h : ∀ t, t ∈ l → p t = true) : l.filter p = l := List.filter_eq_self.2 h
theorem filter_none {p : Tm → Bool} {l : List Tm} (h : ∀ t, t ∈ l → p t = false) : l.filter p = [] := List.filter_eq_nil_iff.2 (fun t ht => by simp [h t ht])

/-- Behind all that are due no later, ahead of the others. -/
theorem insT_eq {ts : List Tm} (hs : Sorted ts) (t : Tm) : insT ts t = ts.filter (fun u => decide (u.d ≤ t.d)) ++ [t] ++ ts.filter (fun u => !decide (u.d ≤ t.d)) := by
  obtain ⟨h1, h2, h3⟩ := at_set t.d ts
  unfold insT
  generalize at_ t.d ts ts.length = k at *
  have htk : ∀ u, u ∈ ts.take k → u.d ≤ t.d := by
    intro u hu
    obtain ⟨j, hj, rfl⟩ := List.mem_iff_getElem.1 hu
    simp at hj
    have hk0 := h3 (by omega) (by omega)
    rcases Nat.lt_or_ge j (k - 1) with h | h
    · have := List.pairwise_iff_getElem.1 hs j (k - 1) (by omega) (by omega) h
      simp; omega
    · obtain rfl : j = k - 1 := by omega
      simpa using hk0
  have hdk : ∀ u, u ∈ ts.drop k → t.d < u.d := by
    intro u hu
    obtain ⟨j, hj, rfl⟩ := List.mem_iff_getElem.1 hu
    simp at hj
    have := h2 (k + j) (by omega) (by omega)
    simpa using this
  have e : ts = ts.take k ++ ts.drop k := (List.take_append_drop k ts).symm
  have e1 : ts.filter (fun u => decide (u.d ≤ t.d)) = ts.take k := by
    conv => lhs; rw [e]
    rw [List.filter_append, filter_all (fun u hu => by simpa using htk u hu), filter_none (fun u hu => by simpa using hdk u hu), List.append_nil]
  have e2 : ts.filter (fun u => !decide (u.d ≤ t.d)) = ts.drop k := by
    conv => lhs; rw [e]
    rw [List.filter_append, filter_none (fun u hu => by simpa using htk u hu), filter_all (fun u hu => by simpa using hdk u hu), List.nil_append]
  rw [e1, e2]

theorem insT_sorted {ts : List Tm} (hs : Sorted ts) (t : Tm) : Sorted (insT ts t) := by
  rw [insT_eq hs]
  unfold Sorted
  rw [List.pairwise_append, List.pairwise_append]
  refine ⟨⟨List.Pairwise.filter _ hs, List.pairwise_singleton _ _, fun a ha b hb => ?_⟩, List.Pairwise.filter _ hs, fun a ha b hb => ?_⟩
  · simp at ha hb; subst hb; exact ha.2
  · simp at ha hb
    rcases ha with ha | rfl
    · omega
    · omega

theorem St.set_sorted {s : St} (h : Sorted s.ts) (o : Int) (i : ByteArray) (delay n : Int) : Sorted (s.set o i delay n).2.ts := by
  unfold St.set
  split
  · exact h
  · split
    · exact h
    · exact insT_sorted h _
theorem St.cut_sorted {s : St} (h : Sorted s.ts) (p : Tm → Bool) : Sorted (s.cut p).2.ts := List.Pairwise.filter _ h
theorem St.tick_sorted {s : St} (h : Sorted s.ts) (b : Int) : Sorted (s.tick b).2.2.ts := by
  unfold St.tick
  split
  · exact h
  · exact List.Pairwise.filter _ h
theorem St.play_sorted {s : St} (h : Sorted s.ts) (x : Call) : Sorted (s.play x).2.2.ts := by
  unfold St.play
  split
  · exact St.set_sorted h _ _ _ _
  · exact St.cut_sorted h _
  · exact St.cut_sorted h _
  · exact St.tick_sorted h _
  · exact h

/-! ### ClockSorts -/
/-- The clock behind k of the delays. -/
def fill (ds : List Int) : Nat → St
  | 0 => ⟨0, []⟩
  | k + 1 => ((fill ds k).set (k % 3) ⟨#[120]⟩ (ds[k]?.getD 0) k).2

def Lex (a b : Tm) : Prop := a.d < b.d ∨ a.d = b.d ∧ a.n < b.n

structure FillInv (ds : List Int) (k : Nat) (s : St) : Prop where
  now : s.now = 0
  len : s.ts.length = k
  lex : s.ts.Pairwise Lex
  mem : ∀ t, t ∈ s.ts → 0 ≤ t.n ∧ t.n < k ∧ t.d = ds[t.n.toNat]?.getD 0

theorem fill_inv (ds : List Int) (hd : ∀ j (h : j < ds.length), 0 ≤ ds[j] ∧ ds[j] ≤ 65535) (hl : ds.length ≤ 128) : ∀ k, k ≤ ds.length → FillInv ds k (fill ds k) ∧ (∀ (h : k < ds.length), (fill ds k).set (k % 3) ⟨#[120]⟩ (ds[k]?.getD 0) k = (0, fill ds (k + 1))) := by
  intro k
  induction k with
  | zero =>
    intro _
    refine ⟨⟨rfl, rfl, List.Pairwise.nil, fun t ht => by cases ht⟩, fun h => ?_⟩
    have := hd 0 h
    have hg : ds[0]?.getD 0 = ds[0] := by rw [List.getElem?_eq_getElem h]; rfl
    simp only [fill, St.set, hg]
    rw [if_neg (by omega), if_neg (by simp)]
  | succ k ih =>
    intro hk
    obtain ⟨⟨i1, i2, i3, i4⟩, i5⟩ := ih (by omega)
    have h1 := i5 (by omega)
    have hb := hd k (by omega)
    have hg : ds[k]?.getD 0 = ds[k] := by rw [List.getElem?_eq_getElem (by omega)]; rfl
    have hs : Sorted (fill ds k).ts := i3.imp (fun {a b} h => by rcases h with h | h <;> omega)
    have e : fill ds (k + 1) = ⟨0, insT (fill ds k).ts ⟨(k : Int) % 3, ⟨#[120]⟩, ds[k], k⟩⟩ := by
      have : (fill ds k).set ((k : Int) % 3) ⟨#[120]⟩ (ds[k]?.getD 0) k = (0, ⟨(fill ds k).now, insT (fill ds k).ts ⟨(k : Int) % 3, ⟨#[120]⟩, (fill ds k).now + ds[k], k⟩⟩) := by
        rw [hg]
        unfold St.set
        rw [if_neg (by omega), if_neg (by omega)]
      rw [this] at h1
      rw [i1] at h1
      simp only [Int.zero_add] at h1
      injection h1 with _ h1
      exact h1.symm
    have hinv : FillInv ds (k + 1) (fill ds (k + 1)) := by
      rw [e]
      refine ⟨rfl, by rw [insT_length, i2], ?_, fun t ht => ?_⟩
      · rw [insT_eq hs, List.pairwise_append, List.pairwise_append]
        refine ⟨⟨List.Pairwise.filter _ i3, List.pairwise_singleton _ _, fun a ha b hb => ?_⟩, List.Pairwise.filter _ i3, fun a ha b hb => ?_⟩
        · simp at ha hb
          subst hb
          have := i4 a ha.1
          unfold Lex
          dsimp
          omega
        · simp at ha hb
          unfold Lex
          rcases ha with ha | rfl
          · omega
          · dsimp; omega
      · rcases mem_insT.1 ht with rfl | ht
        · refine ⟨by dsimp; omega, by dsimp; omega, ?_⟩
          simp [hg]
        · have := i4 t ht
          exact ⟨this.1, by omega, this.2.2⟩
    refine ⟨hinv, fun h => ?_⟩
    have hb2 := hd (k + 1) h
    have hg2 : ds[k + 1]?.getD 0 = ds[k + 1] := by rw [List.getElem?_eq_getElem h]; rfl
    have h2 := hinv.len
    conv => rhs; rw [fill]
    have h0 : ((fill ds (k + 1)).set ((k + 1 : Nat) % 3 : Int) ⟨#[120]⟩ (ds[k + 1]?.getD 0) (k + 1 : Nat)).1 = 0 := by
      unfold St.set
      rw [hg2, if_neg (by omega), if_neg (by omega)]
    exact Prod.ext h0 rfl


theorem fill_tick (ds : List Int) (hd : ∀ j (h : j < ds.length), 0 ≤ ds[j] ∧ ds[j] ≤ 65535) (hl : ds.length ≤ 128) :
    (fill ds ds.length).tick 70000 = ((fill ds ds.length).ts.map Tm.n, 0, ⟨70000, []⟩) := by
  obtain ⟨⟨i1, i2, i3, i4⟩, _⟩ := fill_inv ds hd hl _ (Nat.le_refl _)
  have hall : ∀ t, t ∈ (fill ds ds.length).ts → t.d ≤ 70000 := fun t ht => by
    obtain ⟨h1, h2, h3⟩ := i4 t ht
    have hg : ds[t.n.toNat]?.getD 0 = ds[t.n.toNat]'(by omega) := by rw [List.getElem?_eq_getElem (by omega)]; rfl
    have := hd t.n.toNat (by omega)
    omega
  unfold St.tick
  rw [if_neg (by omega), i1]
  rw [filter_all (fun t ht => by have := hall t ht; simp; omega), filter_none (fun t ht => by have := hall t ht; simp; omega)]
  rfl

theorem fill_order (ds : List Int) (hd : ∀ j (h : j < ds.length), 0 ≤ ds[j] ∧ ds[j] ≤ 65535) (hl : ds.length ≤ 128) (l : List Int) (hle : l = (fill ds ds.length).ts.map Tm.n) :
    l.length = ds.length ∧ (∀ j (h : j < l.length), 0 ≤ l[j] ∧ l[j] < ds.length) ∧
    ∀ j (h : j + 1 < l.length), ds[l[j].toNat]?.getD 0 < ds[l[j + 1].toNat]?.getD 0 ∨ (ds[l[j].toNat]?.getD 0 = ds[l[j + 1].toNat]?.getD 0 ∧ l[j] < l[j + 1]) := by
  subst hle
  obtain ⟨⟨i1, i2, i3, i4⟩, _⟩ := fill_inv ds hd hl _ (Nat.le_refl _)
  refine ⟨by simp [i2], fun j h => ?_, fun j h => ?_⟩
  · simp at h
    have := i4 _ (List.getElem_mem h)
    simp; omega
  · simp at h
    have h1 := i4 _ (List.getElem_mem (show j < _ by omega))
    have h2 := i4 _ (List.getElem_mem h)
    have := List.pairwise_iff_getElem.1 i3 j (j + 1) (by omega) h (by omega)
    unfold Lex at this
    simp only [List.getElem_map]
    rw [← h1.2.2, ← h2.2.2]
    exact this

end Go.Proofs.Ytifjablnplpfnaa
