/- A clock and the reference's, side by side. -/
import Derived.Test.YtifjablnplpfnaaG4
import Derived.Test.YtifjablnplpfnaaO0
set_option linter.unusedVariables false
set_option linter.unusedSimpArgs false
namespace Go.Proofs.Ytifjablnplpfnaa
open Go.RowKit Go.Lib

/-- Blocks of other types than the two clocks' stay as they are. -/
def Ot (w w' : World) : Prop := w.heap.size ≤ w'.heap.size ∧ ∀ b c t, Blk w b c t → t ≠ 59 → t ≠ 44 → t ≠ 29 → Blk w' b c t
theorem Ot.trans {a b c : World} (h : Ot a b) (k : Ot b c) : Ot a c := ⟨Nat.le_trans h.1 k.1, fun x y z hx h1 h2 h3 => k.2 x y z (h.2 x y z hx h1 h2 h3) h1 h2 h3⟩
theorem Ot.of {w w' : World} (h : Oth w w') : Ot w w' := ⟨h.1, fun b c t hb h1 h2 _ => h.2 b c t hb h1 h2⟩
theorem Ot.own {w w' : World} {base : Nat} {v : Value} {ns : List Int} (h : OwnI w base v ns) (f : Ot w w') : OwnI w' base v ns := by
  refine ⟨h.1, ?_⟩
  rcases h.2 with hl | ⟨g, cap, cur, rfl, hb, hg, rest⟩
  · exact .inl hl
  · exact .inr ⟨g, cap, cur, rfl, hb, f.2 _ _ _ hg (by decide) (by decide) (by decide), rest⟩

/-- In w, which came of W: a clock at gc holds s, the reference's at gr holds t; both are the call's own, and apart. -/
def Two (W w : World) (gc gr : Nat) (s t : St) : Prop :=
  s.Ok ∧ t.Ok ∧ ∃ rb rd, CkAt w gc rb s ∧ Rs w gr rd t ∧ (∀ k, rb = some k → rd ≠ some k) ∧ W.heap.size ≤ gc ∧ W.heap.size ≤ gr ∧ (∀ k, rb = some k → W.heap.size ≤ k) ∧ (∀ k, rd = some k → W.heap.size ≤ k) ∧ Fr [] W w
theorem Two.frame {W w : World} {gc gr : Nat} {s t : St} (h : Two W w gc gr s t) : Fr [] W w := by obtain ⟨_, _, _, _, _, _, _, _, _, _, _, h⟩ := h; exact h
theorem Two.fr {W w w' : World} {gc gr : Nat} {s t : St} (h : Two W w gc gr s t) (f : Fr [] w w') : Two W w' gc gr s t := by
  obtain ⟨h1, h2, rb, rd, hc, hd, hr, g1, g2, g3, g4, hf⟩ := h
  exact ⟨h1, h2, rb, rd, Clk.fr hc f (by simp) (by simp), hd.fr f (by simp) (by simp), hr, g1, g2, g3, g4, hf.trans' f⟩
theorem Two.set {W w : World} {gc gr : Nat} {s t : St} (h : Two W w gc gr s t) {b : Nat} {c : Array Value} {y : TypeId} (hb : Blk w b c y) (y1 : y ≠ 59) (y2 : y ≠ 44) (y3 : y ≠ 29) (hW : W.heap.size ≤ b) (i : Nat) (v : Value) : Two W (w.setCell ⟨b, i, none⟩ v) gc gr s t := by
  obtain ⟨h1, h2, rb, rd, hc, hd, hr, g1, g2, g3, g4, hf⟩ := h
  have hf1 : Fr [b] w (w.setCell ⟨b, i, none⟩ v) := (Fr.refl [b] w).setCell (by simp) v
  refine ⟨h1, h2, rb, rd, Clk.fr hc hf1 ?_ (fun k hk => ?_), hd.fr hf1 ?_ (fun k hk => ?_), hr, g1, g2, g3, g4, hf.trans hf1 (fun x hx hxl => by simp at hx; omega)⟩
  · obtain ⟨v', hg, _⟩ := hc
    simp
    exact (hb.ne hg y1).symm
  · obtain ⟨v', hg, hr⟩ := hc
    obtain ⟨_, d, hd⟩ := hr.lt k hk
    simp
    exact (hb.ne hd y2).symm
  · obtain ⟨ts, hst, v', hg, _⟩ := hd
    simp
    exact (hb.ne hg y3).symm
  · obtain ⟨ts, hst, v', hg, hr⟩ := hd
    obtain ⟨_, d, hd⟩ := hr.lt k hk
    simp
    exact (hb.ne hd y2).symm

theorem play_two {W w : World} {gc gr : Nat} {s t : St} (h : Two W w gc gr s t) (x : Call) (hx : x.Ok) :
    Calls Try.prog 9 #[.pointer (some ⟨gc, 0, none⟩), x.val] w fun e w' =>
      ∃ vr, e = .returned (.agg #[vr, .int .i64 (s.play x).2.1]) ∧ OwnI w' W.heap.size vr (s.play x).1 ∧ Two W w' gc gr (s.play x).2.2 t ∧ Ot w w' := by
  obtain ⟨h1, h2, rb, rd, hc, hd, hr, g1, g2, g3, g4, hf⟩ := h
  refine (play_any w gc rb s hc h1 x hx).mono ?_
  rintro e w' ⟨vr, rb', rfl, ho, hc', hn, hf'⟩
  have hst := Al.step (W := W) (h1.play x) hc g1 g3 hf hc' hn hf'
  have hdl := hd.lt.2
  have hsz := hf.size
  refine ⟨vr, rfl, ho.low hf.size, ⟨h1.play _, h2, rb', rd, hc', hd.fr hf' ?_ ?_, ?_, g1, g2, ?_, g4, hst.1.frame⟩, .of hst.2⟩
  · obtain ⟨ts, _, v, hb, _⟩ := hd
    obtain ⟨v2, hb2, hr2⟩ := hc
    simp
    refine ⟨fun e => hb.ne hb2 (by decide) e, fun e => ?_⟩
    obtain ⟨_, c, hc⟩ := hr2.lt gr e
    exact hb.ne hc (by decide) rfl
  · intro k hk
    simp
    refine ⟨fun e => ?_, fun e => hr k e hk⟩
    subst e
    obtain ⟨ts, _, v, hb, hr'⟩ := hd
    obtain ⟨v2, hb2, hr2⟩ := hc
    obtain ⟨_, c, hc⟩ := hr'.lt k hk
    exact hc.ne hb2 (by decide) rfl
  · intro k hk e
    rcases hn with rfl | ⟨b, rfl, hb⟩
    · exact hr k hk e
    · injection hk with hk
      have := hdl k e
      omega
  · intro k hk
    rcases hn with rfl | ⟨b, rfl, hb⟩
    · exact g3 k hk
    · injection hk with hk; omega

theorem want_two {W w : World} {gc gr : Nat} {s t : St} (h : Two W w gc gr s t) (x : Call) (hx : x.Ok) :
    Calls Try.prog 10 #[.pointer (some ⟨gr, 0, none⟩), x.val] w fun e w' =>
      ∃ vr, e = .returned (.agg #[vr, .int .i64 (t.play x).2.1]) ∧ OwnI w' W.heap.size vr (t.play x).1 ∧ Two W w' gc gr s (t.play x).2.2 ∧ Ot w w' := by
  obtain ⟨h1, h2, rb, rd, hc, hd, hr, g1, g2, g3, g4, hf⟩ := h
  refine (want_any w gr rd t hd h2 x hx).mono ?_
  rintro e w' ⟨vr, rd', rfl, ho, hd', hn, hf'⟩
  have hcl : ∀ k, rb = some k → k < w.heap.size := by obtain ⟨v, _, hr⟩ := hc; exact fun k hk => (hr.lt k hk).1
  have hsz := hf.size
  refine ⟨vr, rfl, ho.low hf.size, ⟨h1, h2.play _, rb, rd', Clk.fr hc hf' ?_ ?_, hd', ?_, g1, g2, g3, ?_, hf.trans hf' ?_⟩, hf'.size, fun b c y hb y1 y2 y3 => hb.fr hf' ?_⟩
  · obtain ⟨ts, _, v, hb, hr'⟩ := hd
    obtain ⟨v2, hb2, hr2⟩ := hc
    simp
    refine ⟨fun e => hb2.ne hb (by decide) e, fun e => ?_⟩
    obtain ⟨_, c, hc⟩ := hr'.lt gc e
    exact hb2.ne hc (by decide) rfl
  · intro k hk
    simp
    refine ⟨fun e => ?_, fun e => hr k hk e⟩
    subst e
    obtain ⟨ts, _, v, hb, hr'⟩ := hd
    obtain ⟨v2, hb2, hr2⟩ := hc
    obtain ⟨_, c, hc⟩ := hr2.lt k hk
    exact hc.ne hb (by decide) rfl
  · intro k hk e
    rcases hn k e with h | h
    · exact hr k hk h
    · have := hcl k hk; omega
  · intro k hk
    rcases hn k hk with h | h
    · exact g4 k h
    · omega
  · intro x hx hxl
    rcases List.mem_cons.1 hx with rfl | hx
    · omega
    · have := g4 x (by simpa [eq_comm] using hx); omega
  · obtain ⟨ts, _, v, hg, hr'⟩ := hd
    intro hm
    rcases List.mem_cons.1 hm with rfl | hm
    · exact hb.ne hg y3 rfl
    · obtain ⟨_, d, hd⟩ := hr'.lt b (by simpa [eq_comm] using hm)
      exact hb.ne hd y2 rfl

theorem next_two {W w : World} {gc gr : Nat} {s t : St} (h : Two W w gc gr s t) :
    Calls Try.prog 12 #[.pointer (some ⟨gc, 0, none⟩)] w fun e w' => e = .returned (.tuple #[.int .i64 (nextOf s.now s.ts).1, .bool (nextOf s.now s.ts).2]) ∧ Fr [] w w' := by
  obtain ⟨h1, h2, rb, rd, hc, hd, hr, g1, g2, g3, g4, hf⟩ := h
  exact next_any w gc rb s.now s.ts hc h1.n0 h1.n1 (fun t ht => by have := h1.due t ht; omega)
theorem now_two {W w : World} {gc gr : Nat} {s t : St} (h : Two W w gc gr s t) :
    Calls Try.prog 15 #[.pointer (some ⟨gc, 0, none⟩)] w fun e w' => e = .returned (.int .i64 s.now) ∧ w' = w := by
  obtain ⟨h1, h2, rb, rd, hc, hd, hr, g1, g2, g3, g4, hf⟩ := h
  exact now_any w gc rb s.now s.ts hc
theorem timers_two {W w : World} {gc gr : Nat} {s t : St} (h : Two W w gc gr s t) :
    Calls Try.prog 14 #[.pointer (some ⟨gc, 0, none⟩)] w fun e w' => ∃ v', e = .returned v' ∧ w'.ownsRow w.heap.size 44 4 v' s.ts.length (flat s.ts) ∧ Fr [] w w' := by
  obtain ⟨h1, h2, rb, rd, hc, hd, hr, g1, g2, g3, g4, hf⟩ := h
  exact timers_any w gc rb s.now s.ts hc (by have := h1.len; omega)
theorem rnext_two {W w : World} {gc gr : Nat} {s t : St} (h : Two W w gc gr s t) :
    Calls Try.prog 13 #[.pointer (some ⟨gr, 0, none⟩)] w fun e w' => e = .returned (.int .i64 (rnext t.now t.ts)) ∧ Fr [] w w' := by
  obtain ⟨h1, h2, rb, rd, hc, ⟨ts, hst, hR⟩, hr, g1, g2, g3, g4, hf⟩ := h
  have hl := hst.length
  have hl2 := h2.len
  refine (rnext_any w gr rd t.now ts hR (by omega) h2.n0 h2.n1 (fun u hu => h2.due u ?_)).mono ?_
  · have h1 : u ∈ due_ u.d ts := List.mem_filter.2 ⟨hu, by simp⟩
    rw [← hst.2] at h1
    exact (List.mem_filter.1 h1).1
  · rintro e w' ⟨out, ho, rfl, hf'⟩
    obtain rfl := stable_eq ho hst
    exact ⟨rfl, hf'⟩
theorem sorted_two {W w : World} {gc gr : Nat} {s t : St} (h : Two W w gc gr s t) :
    Calls Try.prog 17 #[.pointer (some ⟨gr, 0, none⟩)] w fun e w' => ∃ v', e = .returned v' ∧ RT w' v' t.ts ∧ Fr [] w w' := by
  obtain ⟨h1, h2, rb, rd, hc, ⟨ts, hst, hR⟩, hr, g1, g2, g3, g4, hf⟩ := h
  have hl := hst.length
  have hl2 := h2.len
  refine (sorted_any w gr rd t.now ts hR (by omega)).mono ?_
  rintro e w' ⟨v', out, rfl, ho, hos, hf'⟩
  obtain rfl := stable_eq ho hst
  exact ⟨v', rfl, RT.of_own hos (by omega), hf'⟩
theorem rnow_two {W w : World} {gc gr : Nat} {s t : St} (h : Two W w gc gr s t) : ∃ v, Blk w gr #[.int .i64 t.now, v] 29 := by
  obtain ⟨h1, h2, rb, rd, hc, ⟨ts, hst, v, hb, _⟩, _⟩ := h
  exact ⟨v, hb⟩
theorem new_two (W w : World) {gc : Nat} (h : Al W w gc ⟨0, []⟩) : Two W (w.alloc (.cells #[.int .i64 0, .slice none 0 0] 29)) gc w.heap.size ⟨0, []⟩ ⟨0, []⟩ := by
  obtain ⟨hs, rb, hc, g1, g2, hf⟩ := h
  have hsz := hf.size
  have f1 : Fr [] w (w.alloc (.cells #[.int .i64 0, .slice none 0 0] 29)) := (Fr.refl [] w).alloc _
  exact ⟨hs, hs, rb, none, Clk.fr hc f1 (by simp) (by simp), ⟨[], ⟨List.Pairwise.nil, fun _ => rfl⟩, _, Blk.new w _ 29, .inl ⟨rfl, rfl, rfl⟩⟩, (fun k _ e => by cases e), g1, hsz, g2, (fun k e => by cases e), hf.trans' f1⟩
end Go.Proofs.Ytifjablnplpfnaa
