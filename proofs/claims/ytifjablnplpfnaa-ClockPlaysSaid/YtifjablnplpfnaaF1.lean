/- Two clocks, a script of calls; the plain law of ClockSplits. -/
import Derived.Test.YtifjablnplpfnaaD0
import Derived.Test.YtifjablnplpfnaaC4
set_option linter.unusedVariables false
set_option linter.unusedSimpArgs false
namespace Go.Proofs.Ytifjablnplpfnaa
open Go.RowKit Go.Lib

/-- A slice of calls that came in. -/
def RC (w : World) (v : Value) (xs : List Call) : Prop :=
  ∃ A c, v = .slice A xs.length c ∧ xs.length ≤ 9223372036854775807 ∧ ∀ j (h : j < xs.length), xs[j].Ok ∧ ∃ g o, A = some ⟨g, o, none⟩ ∧
    w.cell? ⟨g, o + j * 6, none⟩ = some (.int .u8 xs[j].kind) ∧ w.cell? ⟨g, o + j * 6 + 1, none⟩ = some (.int .i64 xs[j].owner) ∧ w.cell? ⟨g, o + j * 6 + 2, none⟩ = some (.string xs[j].id) ∧
    w.cell? ⟨g, o + j * 6 + 3, none⟩ = some (.int .i64 xs[j].delay) ∧ w.cell? ⟨g, o + j * 6 + 4, none⟩ = some (.int .i64 xs[j].n) ∧ w.cell? ⟨g, o + j * 6 + 5, none⟩ = some (.int .i64 xs[j].by_)
theorem RC.fr {w w' : World} {v : Value} {xs : List Call} (h : RC w v xs) (f : Fr [] w w') : RC w' v xs := by
  obtain ⟨A, c, hv, hl, hr⟩ := h
  refine ⟨A, c, hv, hl, fun j hj => ?_⟩
  obtain ⟨ho, g, o, hA, c0, c1, c2, c3, c4, c5⟩ := hr j hj
  have e : ∀ (i : Nat) (u : Value), w.cell? ⟨g, i, none⟩ = some u → w'.cell? ⟨g, i, none⟩ = some u := fun i u h => by
    rw [← h]; exact World.cell?_of_block (f.block g (World.block_lt_of_cell? w _ h) (by simp))
  exact ⟨ho, g, o, hA, e _ _ c0, e _ _ c1, e _ _ c2, e _ _ c3, e _ _ c4, e _ _ c5⟩

/-- Two clocks of the call's own, apart from each other. -/
def Al2 (W w : World) (gc gd : Nat) (s t : St) : Prop :=
  s.Ok ∧ t.Ok ∧ ∃ rb rd, CkAt w gc rb s ∧ CkAt w gd rd t ∧ gc ≠ gd ∧ (∀ k, rb = some k → rd ≠ some k) ∧ W.heap.size ≤ gc ∧ W.heap.size ≤ gd ∧ (∀ k, rb = some k → W.heap.size ≤ k) ∧ (∀ k, rd = some k → W.heap.size ≤ k) ∧ Fr [] W w
theorem Al2.symm {W w : World} {gc gd : Nat} {s t : St} (h : Al2 W w gc gd s t) : Al2 W w gd gc t s := by
  obtain ⟨h1, h2, rb, rd, hc, hd, hne, hr, g1, g2, g3, g4, hf⟩ := h
  exact ⟨h2, h1, rd, rb, hd, hc, hne.symm, fun k hk hb => hr k hb hk, g2, g1, g4, g3, hf⟩
theorem Al2.fr {W w w' : World} {gc gd : Nat} {s t : St} (h : Al2 W w gc gd s t) (f : Fr [] w w') : Al2 W w' gc gd s t := by
  obtain ⟨h1, h2, rb, rd, hc, hd, hne, hr, g1, g2, g3, g4, hf⟩ := h
  exact ⟨h1, h2, rb, rd, Clk.fr hc f (by simp) (by simp), Clk.fr hd f (by simp) (by simp), hne, hr, g1, g2, g3, g4, hf.trans' f⟩
theorem Al2.frame {W w : World} {gc gd : Nat} {s t : St} (h : Al2 W w gc gd s t) : Fr [] W w := by obtain ⟨_, _, _, _, _, _, _, _, _, _, _, _, h⟩ := h; exact h
theorem Al2.step {W w w' : World} {gc gd : Nat} {s s' t : St} {rb rb' rd : Option Nat} (hs' : s'.Ok) (ht : t.Ok) (hc : CkAt w gc rb s) (hd : CkAt w gd rd t) (hne : gc ≠ gd) (hr : ∀ k, rb = some k → rd ≠ some k)
    (g1 : W.heap.size ≤ gc) (g2 : W.heap.size ≤ gd) (g3 : ∀ k, rb = some k → W.heap.size ≤ k) (g4 : ∀ k, rd = some k → W.heap.size ≤ k) (h3 : Fr [] W w)
    (hc' : CkAt w' gc rb' s') (hn : NewRow w rb rb') (hf : Fr (gc :: rb.toList) w w') : Al2 W w' gc gd s' t ∧ Oth w w' := by
  have hsz := h3.size
  have hal := Al.step (W := W) hs' hc g1 g3 h3 hc' hn hf
  have hdl : ∀ k, rd = some k → k < w.heap.size := by obtain ⟨v, _, hr'⟩ := hd; exact fun k hk => (hr'.lt k hk).1
  refine ⟨⟨hs', ht, rb', rd, hc', Clk.fr hd hf ?_ ?_, hne, ?_, g1, g2, ?_, g4, hal.1.frame⟩, hal.2⟩
  · obtain ⟨v, hb, _⟩ := hd
    obtain ⟨v2, hb2, hr2⟩ := hc
    simp
    refine ⟨hne.symm, fun e => ?_⟩
    obtain ⟨_, c, hc⟩ := hr2.lt gd e
    exact hb.ne hc (by decide) rfl
  · intro k hk
    simp
    refine ⟨fun e => ?_, fun e => hr k e hk⟩
    subst e
    obtain ⟨v, hb, hr'⟩ := hd
    obtain ⟨v2, hb2, hr2⟩ := hc
    obtain ⟨_, c, hc⟩ := hr'.lt k hk
    exact hc.ne hb2 (by decide) rfl
  · intro k hk e
    rcases hn with rfl | ⟨b, rfl, hb⟩
    · exact hr k hk e
    · injection hk with hk
      have := hdl k e
      omega
  · intro k hk
    rcases hn with rfl | ⟨b, rfl, hb⟩
    · exact g3 k hk
    · injection hk with hk; omega

theorem play_al2 {W w : World} {gc gd : Nat} {s t : St} (h : Al2 W w gc gd s t) (x : Call) (hx : x.Ok) :
    Calls Try.prog 9 #[.pointer (some ⟨gc, 0, none⟩), x.val] w fun e w' =>
      ∃ vr, e = .returned (.agg #[vr, .int .i64 (s.play x).2.1]) ∧ OwnI w' w.heap.size vr (s.play x).1 ∧ Al2 W w' gc gd (s.play x).2.2 t ∧ Oth w w' := by
  obtain ⟨h1, h2, rb, rd, hc, hd, hne, hr, g1, g2, g3, g4, hf⟩ := h
  refine (play_any w gc rb s hc h1 x hx).mono ?_
  rintro e w' ⟨vr, rb', rfl, ho, hc', hn, hf'⟩
  exact ⟨vr, rfl, ho, Al2.step (h1.play _) h2 hc hd hne hr g1 g2 g3 g4 hf hc' hn hf'⟩
theorem tick_al2 {W w : World} {gc gd : Nat} {s t : St} (h : Al2 W w gc gd s t) (b : Int) (hb0 : -9223372036854775808 ≤ b) (hb1 : b ≤ 9223372036854775807) :
    Calls Try.prog 18 #[.pointer (some ⟨gc, 0, none⟩), .int .i64 b] w fun e w' =>
      ∃ vr, e = .returned (.tuple #[vr, .int .i64 (s.tick b).2.1]) ∧ OwnI w' W.heap.size vr (s.tick b).1 ∧ Al2 W w' gc gd (s.tick b).2.2 t ∧ Oth w w' := by
  obtain ⟨h1, h2, rb, rd, hc, hd, hne, hr, g1, g2, g3, g4, hf⟩ := h
  refine (tick_st w gc rb s hc h1 b hb0 hb1).mono ?_
  rintro e w' ⟨vr, rfl, ho, hc', hf'⟩
  exact ⟨vr, rfl, ho.low hf.size, Al2.step (h1.tick _) h2 hc hd hne hr g1 g2 g3 g4 hf hc' (.inl rfl) hf'⟩
theorem now_al2 {W w : World} {gc gd : Nat} {s t : St} (h : Al2 W w gc gd s t) :
    Calls Try.prog 15 #[.pointer (some ⟨gc, 0, none⟩)] w fun e w' => e = .returned (.int .i64 s.now) ∧ w' = w := by
  obtain ⟨h1, h2, rb, rd, hc, _⟩ := h
  exact now_any w gc rb s.now s.ts hc
theorem timers_al2 {W w : World} {gc gd : Nat} {s t : St} (h : Al2 W w gc gd s t) :
    Calls Try.prog 14 #[.pointer (some ⟨gc, 0, none⟩)] w fun e w' => ∃ v', e = .returned v' ∧ RT w' v' s.ts ∧ Al2 W w' gc gd s t ∧ Fr [] w w' := by
  have h0 := h
  obtain ⟨h1, h2, rb, rd, hc, _⟩ := h
  have := h1.len
  refine (timers_any w gc rb s.now s.ts hc (by omega)).mono ?_
  rintro e w' ⟨v', rfl, ho, hf⟩
  exact ⟨v', rfl, RT.of_own ho (by omega), h0.fr hf, hf⟩
theorem new_al2 (W w : World) (hw : Fr [] W w) {gc : Nat} {s : St} (h : Al W w gc s) :
    Calls Try.prog 8 #[] w fun e w' => ∃ gd, e = .returned (.pointer (some ⟨gd, 0, none⟩)) ∧ Al2 W w' gc gd s ⟨0, []⟩ := by
  refine (new_any w).mono ?_
  rintro e w' ⟨gd, rfl, h1, h2, h3⟩
  obtain ⟨hs, rb, hc, g1, g2, _⟩ := h
  have hsz := hw.size
  have hgl : gc < w.heap.size := by obtain ⟨v, hb, _⟩ := hc; exact hb.lt
  exact ⟨gd, rfl, hs, ⟨by decide, by decide, by decide, by simp⟩, rb, none, Clk.fr hc h3 (by simp) (by simp), h2, by omega, (fun _ _ e => by cases e), g1, by omega, g2, (fun k e => by cases e), hw.trans' h3⟩
theorem RT.fr {w w' : World} {v : Value} {ts : List Tm} (h : RT w v ts) (f : Fr [] w w') : RT w' v ts := by
  obtain ⟨A, c, hv, hl, hr⟩ := h
  refine ⟨A, c, hv, hl, fun j hj => ?_⟩
  obtain ⟨g, hA, c0, c1, c2, c3⟩ := hr j hj
  have e : ∀ (i : Nat) (u : Value), w.cell? ⟨g, i, none⟩ = some u → w'.cell? ⟨g, i, none⟩ = some u := fun i u h => by
    rw [← h]; exact World.cell?_of_block (f.block g (World.block_lt_of_cell? w _ h) (by simp))
  exact ⟨g, hA, e _ _ c0, e _ _ c1, e _ _ c2, e _ _ c3⟩

/-- append of a row of ints to a row of ints. -/
theorem run_append_ints (w : World) (base base2 : Nat) (v v2 : Value) (a b : List Int) (h : OwnI w base v a) (h2 : OwnI w base2 v2 b) (hbase : base ≤ w.heap.size) (ha : a.length ≤ 1000000) (hb : b.length ≤ 1000000) (ty : TypeId) :
    ∃ v' w', (Builtin.append_ #[32, 32] ty #[v, v2]).run Try.prog w = .ok v' w' ∧ OwnI w' base v' (a ++ b) ∧ w.grownBy w' v.ownBlock := by
  obtain ⟨i0, hi, hz0, hz1, hz2⟩ := info_parts info3
  rcases h2.2 with ⟨rfl, h0⟩ | ⟨g, cap, cur, rfl, hb', hg, h1', h2', h3, h4⟩
  · have := List.eq_nil_of_length_eq_zero h0; subst this
    exact ⟨v, w, run_append_owned_none (w := w) base 32 ty 3 i0 1 Try.underlying32 hi v a.length _ h, by simpa using h, ⟨rfl, rfl, rfl, Nat.le_refl _, fun _ _ _ => rfl⟩⟩
  · obtain ⟨v', w', hr, ho, hg', _⟩ := run_append_own (P := Try.prog) w base 32 ty 3 i0 _ 1 8 Try.underlying32 hi hz0 hz1 hz2 rfl (by decide) v a.length _ h ⟨g, 0, none⟩ b.length cap (b.map (Value.int .i64)) (by simp)
      (World.ownsRow.cells h2 rfl) (by simp; intro x _; rfl) (by unfold maxLen; omega) (by omega) hbase
    exact ⟨v', w', hr, by simpa [OwnI] using ho, hg'⟩

/-! ### ClockSplits -/
def runP : List Call → St → St
  | [], s => s
  | x :: xs, s => runP xs (s.play x).2.2
theorem runP_snoc (xs : List Call) (x : Call) (s : St) : runP (xs ++ [x]) s = ((runP xs s).play x).2.2 := by
  induction xs generalizing s with
  | nil => rfl
  | cons y ys ih => exact ih _
theorem runP_sorted (xs : List Call) : ∀ s : St, Sorted s.ts → Sorted (runP xs s).ts := by
  induction xs with
  | nil => exact fun s h => h
  | cons y ys ih => exact fun s h => ih _ (St.play_sorted h y)

theorem filter_split {ts : List Tm} (hs : Sorted ts) (a b : Int) (hab : a ≤ b) :
    ts.filter (fun t => decide (t.d ≤ a)) ++ (ts.filter (fun t => !decide (t.d ≤ a))).filter (fun t => decide (t.d ≤ b)) = ts.filter (fun t => decide (t.d ≤ b)) := by
  induction ts with
  | nil => rfl
  | cons t ts ih =>
    have h1 := List.pairwise_cons.1 hs
    have ih := ih h1.2
    by_cases ht : t.d ≤ a
    · have hb : t.d ≤ b := by omega
      simp only [List.filter_cons, ht, hb, decide_true, Bool.not_true, if_true, Bool.false_eq_true, if_false, List.cons_append]
      rw [ih]
    · have e : ts.filter (fun t => decide (t.d ≤ a)) = [] := filter_none (fun u hu => by have := h1.1 u hu; simp; omega)
      have e2 : ts.filter (fun t => !decide (t.d ≤ a)) = ts := filter_all (fun u hu => by have := h1.1 u hu; simp; omega)
      simp only [List.filter_cons, ht, decide_false, Bool.false_eq_true, if_false, Bool.not_false, if_true, e, e2, List.nil_append]

theorem splits_law {s : St} (hs : s.Ok) (ho : Sorted s.ts) (a b : Int) (ha : 0 ≤ a) (hb : 0 ≤ b) :
    ((s.tick a).2.1 = 0 ∧ ((s.tick a).2.2.tick b).2.1 = 0 ∧ (s.tick (a + b)).2.1 = 0 ∧ (s.tick a).1 ++ ((s.tick a).2.2.tick b).1 = (s.tick (a + b)).1 ∧ ((s.tick a).2.2.tick b).2.2 = (s.tick (a + b)).2.2) ∨
    ((s.tick a).2.1 = 1 ∧ (s.tick (a + b)).2.1 = 1) ∨ ((s.tick a).2.1 = 0 ∧ ((s.tick a).2.2.tick b).2.1 = 1 ∧ (s.tick (a + b)).2.1 = 1) := by
  have h0 := hs.n0
  by_cases h1 : a > 9007199254740992 - s.now
  · refine .inr (.inl ⟨?_, ?_⟩)
    · unfold St.tick; rw [if_pos (.inr h1)]
    · unfold St.tick; rw [if_pos (.inr (by omega))]
  · have ea : s.tick a = ((s.ts.filter fun t => decide (t.d ≤ s.now + a)).map Tm.n, 0, ⟨s.now + a, s.ts.filter fun t => !decide (t.d ≤ s.now + a)⟩) := by
      unfold St.tick; rw [if_neg (by omega)]
    by_cases h2 : a + b > 9007199254740992 - s.now
    · refine .inr (.inr ⟨by rw [ea], ?_, ?_⟩)
      · rw [ea]; unfold St.tick; dsimp; rw [if_pos (.inr (by omega))]
      · unfold St.tick; rw [if_pos (.inr (by omega))]
    · refine .inl ⟨by rw [ea], ?_, ?_, ?_, ?_⟩
      · rw [ea]; unfold St.tick; dsimp; rw [if_neg (by omega)]
      · unfold St.tick; rw [if_neg (by omega)]
      · rw [ea]; unfold St.tick; dsimp; rw [if_neg (by omega), if_neg (by omega)]
        dsimp
        rw [← List.map_append, Int.add_assoc, filter_split ho _ _ (by omega)]
      · rw [ea]; unfold St.tick; dsimp; rw [if_neg (by omega), if_neg (by omega)]
        dsimp
        rw [Int.add_assoc, List.filter_filter]
        congr 1
        refine List.filter_congr (fun t _ => ?_)
        rw [Bool.eq_iff_iff]
        simp
        omega

theorem sameTs_self (ts : List Tm) : sameTs ts ts = true := sameTs_yes rfl (fun j h => by simp [Tm.same])

end Go.Proofs.Ytifjablnplpfnaa
