/- Plain law of ClockOnce: each timer comes once, and by the clock only when it is due. -/
import Derived.Test.YtifjablnplpfnaaD0
set_option linter.unusedVariables false
set_option linter.unusedSimpArgs false
namespace Go.Proofs.Ytifjablnplpfnaa

def kindOf (xs : List Call) (j : Nat) : Nat := match xs[j]? with | some x => x.kind % 5 | none => 5

structure OnceInv (xs : List Call) (i : Nat) (s : St) (due came : List Int) : Prop where
  ok : s.Ok
  ld : due.length = xs.length
  lc : came.length = xs.length
  nd : (s.ts.map Tm.n).Nodup
  mem : ∀ t, t ∈ s.ts → ∃ j : Nat, t.n = (j : Int) ∧ j < i ∧ kindOf xs j = 0 ∧ came[j]? = some 0 ∧ due[j]? = some t.d
  zero : ∀ j, i ≤ j → j < xs.length → came[j]? = some 0

theorem OnceInv.start (xs : List Call) : OnceInv xs 0 ⟨0, []⟩ (List.replicate xs.length 0) (List.replicate xs.length 0) :=
  ⟨⟨by decide, by decide, by decide, by simp⟩, by simp, by simp, by simp, by simp, fun j _ h => by simp [List.getElem?_replicate, h]⟩

/-- The numbers that came are marked. -/
def bump (came : List Int) : List Int → List Int
  | [] => came
  | n :: l => bump (came.set n.toNat 1) l
theorem bump_length (l : List Int) : ∀ came : List Int, (bump came l).length = came.length := by
  induction l with
  | nil => exact fun _ => rfl
  | cons n l ih => exact fun came => by rw [bump, ih]; simp
theorem bump_snoc (l : List Int) (n : Int) : ∀ came : List Int, bump came (l ++ [n]) = (bump came l).set n.toNat 1 := by
  induction l with
  | nil => exact fun _ => rfl
  | cons m l ih => exact fun came => ih _
theorem bump_other (l : List Int) (j : Nat) (hj : ∀ n, n ∈ l → n.toNat ≠ j) : ∀ came : List Int, (bump came l)[j]? = came[j]? := by
  induction l with
  | nil => exact fun _ => rfl
  | cons n l ih =>
    intro came
    rw [bump, ih (fun m hm => hj m (List.mem_cons_of_mem _ hm)), List.getElem?_set_ne (hj n (List.mem_cons_self ..))]

/-- What a step's list of numbers is like. -/
structure Came (xs : List Call) (i : Nat) (s' : St) (due came : List Int) (l : List Int) : Prop where
  nd : l.Nodup
  mem : ∀ n, n ∈ l → ∃ j : Nat, n = (j : Int) ∧ j < i ∧ kindOf xs j = 0 ∧ came[j]? = some 0 ∧ (kindOf xs i = 3 → ∃ d, due[j]? = some d ∧ d ≤ s'.now)

theorem cut_came {xs : List Call} {i : Nat} {s : St} {due came : List Int} (h : OnceInv xs i s due came) (p : Tm → Bool) (now : Int) (hk : kindOf xs i = 3 → ∀ t, t ∈ s.ts → p t = true → t.d ≤ now) (hi : i < xs.length)
    (hok : (⟨now, s.ts.filter fun t => !p t⟩ : St).Ok) :
    Came xs i ⟨now, s.ts.filter fun t => !p t⟩ due came ((s.ts.filter p).map Tm.n) ∧ OnceInv xs (i + 1) ⟨now, s.ts.filter fun t => !p t⟩ due (bump came ((s.ts.filter p).map Tm.n)) := by
  have hnd : ((s.ts.filter p).map Tm.n).Nodup := List.Nodup.sublist (List.Sublist.map _ List.filter_sublist) h.nd
  refine ⟨⟨hnd, fun n hn => ?_⟩, hok, h.ld, by rw [bump_length]; exact h.lc, List.Nodup.sublist (List.Sublist.map _ List.filter_sublist) h.nd, fun t ht => ?_, fun j hj hjl => ?_⟩
  · obtain ⟨t, ht, rfl⟩ := List.mem_map.1 hn
    obtain ⟨ht, hp⟩ := List.mem_filter.1 ht
    obtain ⟨j, h1, h2, h3, h4, h5⟩ := h.mem t ht
    exact ⟨j, h1, h2, h3, h4, fun hk3 => ⟨t.d, h5, hk hk3 t ht hp⟩⟩
  · obtain ⟨ht, hp⟩ := List.mem_filter.1 ht
    obtain ⟨j, h1, h2, h3, h4, h5⟩ := h.mem t ht
    refine ⟨j, h1, by omega, h3, ?_, h5⟩
    rw [bump_other _ j (fun n hn => ?_)]
    · exact h4
    · obtain ⟨u, hu, rfl⟩ := List.mem_map.1 hn
      obtain ⟨hu, hpu⟩ := List.mem_filter.1 hu
      obtain ⟨k, k1, _⟩ := h.mem u hu
      intro e
      have hn : u.n = t.n := by rw [h1, ← e, k1]; simp
      have hut : u = t := by
        have hinj := List.pairwise_map.1 (List.nodup_iff_pairwise_ne.1 h.nd)
        rcases Classical.em (u = t) with e | hne
        · exact e
        · exfalso
          obtain ⟨a, ha, rfl⟩ := List.mem_iff_getElem.1 hu
          obtain ⟨b, hb, rfl⟩ := List.mem_iff_getElem.1 ht
          have hab : a ≠ b := fun e => hne (by subst e; rfl)
          rcases Nat.lt_or_gt_of_ne hab with hl | hl
          · exact List.pairwise_iff_getElem.1 hinj a b ha hb hl hn
          · exact List.pairwise_iff_getElem.1 hinj b a hb ha hl hn.symm
      subst hut
      simp [hpu] at hp
  · rw [bump_other _ j (fun n hn => ?_)]
    · exact h.zero j (by omega) hjl
    · obtain ⟨u, hu, rfl⟩ := List.mem_map.1 hn
      obtain ⟨hu, hpu⟩ := List.mem_filter.1 hu
      obtain ⟨k, k1, k2, _⟩ := h.mem u hu
      rw [k1]; simp; omega

theorem filter_len (l : List Tm) (p : Tm → Bool) : l.length = (l.filter p).length + (l.filter fun t => !p t).length := by
  induction l with
  | nil => rfl
  | cons t l ih => cases hp : p t <;> simp [List.filter_cons, hp, ih] <;> omega

/-- One step: what play answers, and the invariant behind it. -/
theorem once_step {xs : List Call} {i : Nat} {s : St} {due came : List Int} (h : OnceInv xs i s due came) (hi : i < xs.length) (x : Call) (hx : x = { xs[i] with n := i }) :
    (kindOf xs i = 0 ∧ (s.play x).2.1 = 0 ∧ (s.play x).1 = [] ∧ (s.play x).2.2.ts.length = s.ts.length + 1 ∧ (s.play x).2.2.now = s.now ∧ OnceInv xs (i + 1) (s.play x).2.2 (due.set i (s.now + x.delay)) came ∧ 0 ≤ s.now + x.delay ∧ s.now + x.delay ≤ 9007200254740992) ∨
    (¬ (kindOf xs i = 0 ∧ (s.play x).2.1 = 0) ∧ (kindOf xs i = 0 → (s.play x).1 = []) ∧ Came xs i (s.play x).2.2 due came (s.play x).1 ∧ OnceInv xs (i + 1) (s.play x).2.2 due (bump came (s.play x).1) ∧ (s.play x).2.2.ts.length + (s.play x).1.length = s.ts.length) := by
  have hki : kindOf xs i = x.kind % 5 := by unfold kindOf; rw [List.getElem?_eq_getElem hi, hx]
  have hxn : x.n = i := by rw [hx]
  have stay : ∀ e : Int, ¬ (kindOf xs i = 0 ∧ e = 0) → (¬ (kindOf xs i = 0 ∧ e = 0) ∧ (kindOf xs i = 0 → ([] : List Int) = []) ∧ Came xs i s due came [] ∧ OnceInv xs (i + 1) s due (bump came []) ∧ s.ts.length + ([] : List Int).length = s.ts.length) := fun e he =>
    ⟨he, fun _ => rfl, ⟨List.nodup_nil, fun n hn => by cases hn⟩, ⟨h.ok, h.ld, h.lc, h.nd, fun t ht => by obtain ⟨j, h1, h2, h3⟩ := h.mem t ht; exact ⟨j, h1, by omega, h3⟩, fun j hj hl => h.zero j (by omega) hl⟩, rfl⟩
  have hsum : ∀ p : Tm → Bool, (s.ts.filter fun t => !p t).length + ((s.ts.filter p).map Tm.n).length = s.ts.length := fun p => by
    have := filter_len s.ts p
    simp only [List.length_map]
    omega
  have hcases : x.kind % 5 = 0 ∨ x.kind % 5 = 1 ∨ x.kind % 5 = 2 ∨ x.kind % 5 = 3 ∨ x.kind % 5 = 4 := by omega
  rcases hcases with hk | hk | hk | hk | hk
  · have hp : s.play x = ([], s.set x.owner x.id x.delay x.n) := by unfold St.play; rw [hk]; rfl
    rw [hp]
    unfold St.set
    split
    · exact .inr (stay 1 (by omega))
    · split
      · exact .inr (stay 4 (by omega))
      · rename_i h1 h2
        have h0 := h.ok.n0
        have hn1 := h.ok.n1
        refine .inl ⟨by omega, rfl, rfl, insT_length _ _, rfl, ?_, by omega, by omega⟩
        have hok := St.Ok.set h.ok x.owner x.id x.delay x.n
        unfold St.set at hok
        rw [if_neg h1, if_neg h2] at hok
        refine ⟨hok, by simp [h.ld], h.lc, ?_, fun t ht => ?_, fun j hj hl => h.zero j (by omega) hl⟩
        · have hperm : ((insT s.ts ⟨x.owner, x.id, s.now + x.delay, x.n⟩).map Tm.n).Perm (x.n :: s.ts.map Tm.n) := by
            unfold insT
            generalize at_ _ s.ts s.ts.length = k
            have h1 : (s.ts.take k ++ [(⟨x.owner, x.id, s.now + x.delay, x.n⟩ : Tm)] ++ s.ts.drop k).map Tm.n = (s.ts.take k).map Tm.n ++ x.n :: (s.ts.drop k).map Tm.n := by simp
            have h2 : s.ts.map Tm.n = (s.ts.take k).map Tm.n ++ (s.ts.drop k).map Tm.n := by rw [← List.map_append, List.take_append_drop]
            rw [h1, h2]
            exact List.perm_middle
          refine hperm.nodup_iff.2 (List.nodup_cons.2 ⟨fun hm => ?_, h.nd⟩)
          obtain ⟨t, ht, e⟩ := List.mem_map.1 hm
          obtain ⟨j, h1, h2, _⟩ := h.mem t ht
          omega
        · rcases mem_insT.1 ht with rfl | ht
          · refine ⟨i, hxn, by omega, by omega, h.zero i (Nat.le_refl _) hi, ?_⟩
            rw [List.getElem?_set_self (by rw [h.ld]; exact hi)]
          · obtain ⟨j, h1, h2, h3, h4, h5⟩ := h.mem t ht
            refine ⟨j, h1, by omega, h3, h4, ?_⟩
            rw [List.getElem?_set_ne (by omega)]
            exact h5
  · have hp : s.play x = ((s.cut (fun t => t.o == x.owner && t.i.toList == x.id.toList)).1, 0, (s.cut (fun t => t.o == x.owner && t.i.toList == x.id.toList)).2) := by unfold St.play; rw [hk]; rfl
    rw [hp]
    obtain ⟨c1, c2⟩ := cut_came h (fun t => t.o == x.owner && t.i.toList == x.id.toList) s.now (fun h3 => by omega) hi (h.ok.cut _)
    exact .inr ⟨by omega, fun h => by omega, c1, c2, hsum _⟩
  · have hp : s.play x = ((s.cut (fun t => t.o == x.owner)).1, 0, (s.cut (fun t => t.o == x.owner)).2) := by unfold St.play; rw [hk]; rfl
    rw [hp]
    obtain ⟨c1, c2⟩ := cut_came h (fun t => t.o == x.owner) s.now (fun h3 => by omega) hi (h.ok.cut _)
    exact .inr ⟨by omega, fun h => by omega, c1, c2, hsum _⟩
  · have hp : s.play x = s.tick x.by_ := by unfold St.play; rw [hk]; rfl
    rw [hp]
    have hokt := h.ok.tick x.by_
    unfold St.tick at hokt ⊢
    split
    · exact .inr (stay 1 (by omega))
    · rename_i hb
      rw [if_neg hb] at hokt
      obtain ⟨c1, c2⟩ := cut_came h (fun t => decide (t.d ≤ s.now + x.by_)) (s.now + x.by_) (fun _ t _ hp => by simpa using hp) hi hokt
      exact .inr ⟨by omega, fun h => by omega, c1, c2, hsum _⟩
  · have hp : s.play x = ([], 0, s) := by unfold St.play; rw [hk]; rfl
    rw [hp]
    exact .inr (stay 0 (by omega))

end Go.Proofs.Ytifjablnplpfnaa
