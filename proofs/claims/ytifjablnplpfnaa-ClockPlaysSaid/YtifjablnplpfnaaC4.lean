/- One clock alone: the calls told for a law that has one clock. -/
import Derived.Test.YtifjablnplpfnaaC3
set_option linter.unusedVariables false
set_option linter.unusedSimpArgs false
namespace Go.Proofs.Ytifjablnplpfnaa
open Go.RowKit Go.Lib

/-- Blocks of other types than a clock's stay as they are. -/
def Oth (w w' : World) : Prop := w.heap.size ≤ w'.heap.size ∧ ∀ b c t, Blk w b c t → t ≠ 59 → t ≠ 44 → Blk w' b c t
theorem Oth.trans {a b c : World} (h : Oth a b) (k : Oth b c) : Oth a c := ⟨Nat.le_trans h.1 k.1, fun x y z hx h1 h2 => k.2 x y z (h.2 x y z hx h1 h2) h1 h2⟩
theorem Oth.refl (a : World) : Oth a a := ⟨Nat.le_refl _, fun _ _ _ h _ _ => h⟩
theorem Oth.of_fr {w w' : World} (h : Fr [] w w') : Oth w w' := ⟨h.size, fun b c t hb _ _ => hb.fr h (by simp)⟩
theorem Oth.of_ck {w w' : World} {gc : Nat} {rb : Option Nat} {s : St} (hc : CkAt w gc rb s) (h : Fr (gc :: rb.toList) w w') : Oth w w' := by
  refine ⟨h.size, fun b c t hb h1 h2 => hb.fr h (fun hm => ?_)⟩
  obtain ⟨v, hg, hr⟩ := hc
  rcases List.mem_cons.1 hm with rfl | hm
  · exact hb.ne hg h1 rfl
  · obtain ⟨_, d, hd⟩ := hr.lt b (by simpa [eq_comm] using hm)
    exact hb.ne hd h2 rfl
theorem OwnI.oth {w w' : World} {base : Nat} {v : Value} {ns : List Int} (h : OwnI w base v ns) (f : Oth w w') : OwnI w' base v ns := by
  refine ⟨h.1, ?_⟩
  rcases h.2 with hl | ⟨g, cap, cur, rfl, hb, hg, rest⟩
  · exact .inl hl
  · exact .inr ⟨g, cap, cur, rfl, hb, f.2 _ _ _ hg (by decide) (by decide), rest⟩

/-- In w, which came of W, lies a clock of the call's own at gc, and it holds s. -/
def Al (W w : World) (gc : Nat) (s : St) : Prop :=
  s.Ok ∧ ∃ rb, CkAt w gc rb s ∧ W.heap.size ≤ gc ∧ (∀ k, rb = some k → W.heap.size ≤ k) ∧ Fr [] W w

theorem Al.fr {W w w' : World} {gc : Nat} {s : St} (h : Al W w gc s) (f : Fr [] w w') : Al W w' gc s := by
  obtain ⟨hs, rb, hc, h1, h2, h3⟩ := h
  exact ⟨hs, rb, Clk.fr hc f (by simp) (by simp), h1, h2, h3.trans' f⟩
theorem Al.frame {W w : World} {gc : Nat} {s : St} (h : Al W w gc s) : Fr [] W w := by obtain ⟨_, _, _, _, _, h⟩ := h; exact h
theorem Al.size {W w : World} {gc : Nat} {s : St} (h : Al W w gc s) : W.heap.size ≤ w.heap.size := h.frame.size

theorem new_al (W w : World) (hw : Fr [] W w) : Calls Try.prog 8 #[] w fun e w' => ∃ gc, e = .returned (.pointer (some ⟨gc, 0, none⟩)) ∧ Al W w' gc ⟨0, []⟩ ∧ Oth w w' := by
  refine (new_any w).mono ?_
  rintro e w' ⟨gc, rfl, h1, h2, h3⟩
  have := hw.size
  exact ⟨gc, rfl, ⟨⟨by decide, by decide, by decide, by simp⟩, none, h2, by omega, by simp, hw.trans' h3⟩, .of_fr h3⟩

theorem Al.step {W w w' : World} {gc : Nat} {s s' : St} {rb rb' : Option Nat} (hs' : s'.Ok) (hc : CkAt w gc rb s) (h1 : W.heap.size ≤ gc) (h2 : ∀ k, rb = some k → W.heap.size ≤ k) (h3 : Fr [] W w)
    (hc' : CkAt w' gc rb' s') (hn : NewRow w rb rb') (hf : Fr (gc :: rb.toList) w w') : Al W w' gc s' ∧ Oth w w' := by
  have hsz := h3.size
  refine ⟨⟨hs', rb', hc', h1, fun k hk => ?_, h3.trans hf (fun x hx hxl => ?_)⟩, .of_ck hc hf⟩
  · rcases hn with rfl | ⟨b, rfl, hb⟩
    · exact h2 k hk
    · injection hk with hk; omega
  · rcases List.mem_cons.1 hx with rfl | hx
    · omega
    · have := h2 x (by simpa [eq_comm] using hx); omega

theorem set_al {W w : World} {gc : Nat} {s : St} (h : Al W w gc s) (ow : Int) (id : ByteArray) (delay n : Int) (hd0 : -9223372036854775808 ≤ delay) (hd1 : delay ≤ 9223372036854775807) :
    Calls Try.prog 19 #[.pointer (some ⟨gc, 0, none⟩), .int .i64 ow, .string id, .int .i64 delay, .int .i64 n] w fun e w' =>
      e = .returned (.int .i64 (s.set ow id delay n).1) ∧ Al W w' gc (s.set ow id delay n).2 ∧ Oth w w' := by
  obtain ⟨hs, rb, hc, h1, h2, h3⟩ := h
  refine (set_st w gc rb s hc hs ow id delay n hd0 hd1).mono ?_
  rintro e w' ⟨rfl, rb', hc', hn, hf⟩
  exact ⟨rfl, Al.step (hs.set _ _ _ _) hc h1 h2 h3 hc' hn hf⟩

theorem tick_al {W w : World} {gc : Nat} {s : St} (h : Al W w gc s) (b : Int) (hb0 : -9223372036854775808 ≤ b) (hb1 : b ≤ 9223372036854775807) :
    Calls Try.prog 18 #[.pointer (some ⟨gc, 0, none⟩), .int .i64 b] w fun e w' =>
      ∃ vr, e = .returned (.tuple #[vr, .int .i64 (s.tick b).2.1]) ∧ OwnI w' W.heap.size vr (s.tick b).1 ∧ Al W w' gc (s.tick b).2.2 ∧ Oth w w' := by
  obtain ⟨hs, rb, hc, h1, h2, h3⟩ := h
  refine (tick_st w gc rb s hc hs b hb0 hb1).mono ?_
  rintro e w' ⟨vr, rfl, ho, hc', hf⟩
  exact ⟨vr, rfl, ho.low h3.size, Al.step (hs.tick _) hc h1 h2 h3 hc' (.inl rfl) hf⟩

theorem cancel_al {W w : World} {gc : Nat} {s : St} (h : Al W w gc s) (ow : Int) (id : ByteArray) :
    Calls Try.prog 20 #[.pointer (some ⟨gc, 0, none⟩), .int .i64 ow, .string id] w fun e w' =>
      ∃ vr, e = .returned vr ∧ OwnI w' W.heap.size vr (s.cut fun t => t.o == ow && t.i.toList == id.toList).1 ∧ Al W w' gc (s.cut fun t => t.o == ow && t.i.toList == id.toList).2 ∧ Oth w w' := by
  obtain ⟨hs, rb, hc, h1, h2, h3⟩ := h
  refine (cancel_any w gc rb s.now s.ts ow id hc (by have := hs.len; omega)).mono ?_
  intro e w' hh
  obtain ⟨vr, rfl, ho, hc', hf⟩ := cut_st hh
  exact ⟨vr, rfl, ho.low h3.size, Al.step (hs.cut _) hc h1 h2 h3 hc' (.inl rfl) hf⟩

theorem drop_al {W w : World} {gc : Nat} {s : St} (h : Al W w gc s) (ow : Int) :
    Calls Try.prog 21 #[.pointer (some ⟨gc, 0, none⟩), .int .i64 ow] w fun e w' =>
      ∃ vr, e = .returned vr ∧ OwnI w' W.heap.size vr (s.cut fun t => t.o == ow).1 ∧ Al W w' gc (s.cut fun t => t.o == ow).2 ∧ Oth w w' := by
  obtain ⟨hs, rb, hc, h1, h2, h3⟩ := h
  refine (drop_any w gc rb s.now s.ts ow hc (by have := hs.len; omega)).mono ?_
  intro e w' hh
  obtain ⟨vr, rfl, ho, hc', hf⟩ := cut_st hh
  exact ⟨vr, rfl, ho.low h3.size, Al.step (hs.cut _) hc h1 h2 h3 hc' (.inl rfl) hf⟩

theorem next_al {W w : World} {gc : Nat} {s : St} (h : Al W w gc s) :
    Calls Try.prog 12 #[.pointer (some ⟨gc, 0, none⟩)] w fun e w' => e = .returned (.tuple #[.int .i64 (nextOf s.now s.ts).1, .bool (nextOf s.now s.ts).2]) ∧ Al W w' gc s ∧ Oth w w' := by
  have h0 := h
  obtain ⟨hs, rb, hc, h1, h2, h3⟩ := h
  refine (next_any w gc rb s.now s.ts hc hs.n0 hs.n1 (fun t ht => by have := hs.due t ht; omega)).mono ?_
  rintro e w' ⟨rfl, hf⟩
  exact ⟨rfl, h0.fr hf, .of_fr hf⟩

theorem now_al {W w : World} {gc : Nat} {s : St} (h : Al W w gc s) :
    Calls Try.prog 15 #[.pointer (some ⟨gc, 0, none⟩)] w fun e w' => e = .returned (.int .i64 s.now) ∧ w' = w := by
  obtain ⟨hs, rb, hc, h1, h2, h3⟩ := h
  exact now_any w gc rb s.now s.ts hc

theorem timers_al {W w : World} {gc : Nat} {s : St} (h : Al W w gc s) :
    Calls Try.prog 14 #[.pointer (some ⟨gc, 0, none⟩)] w fun e w' => ∃ v', e = .returned v' ∧ w'.ownsRow w.heap.size 44 4 v' s.ts.length (flat s.ts) ∧ Al W w' gc s ∧ Oth w w' := by
  have h0 := h
  obtain ⟨hs, rb, hc, h1, h2, h3⟩ := h
  refine (timers_any w gc rb s.now s.ts hc (by have := hs.len; omega)).mono ?_
  rintro e w' ⟨v', rfl, ho, hf⟩
  exact ⟨v', rfl, ho, h0.fr hf, .of_fr hf⟩

theorem play_al {W w : World} {gc : Nat} {s : St} (h : Al W w gc s) (x : Call) (hx : x.Ok) :
    Calls Try.prog 9 #[.pointer (some ⟨gc, 0, none⟩), x.val] w fun e w' =>
      ∃ vr, e = .returned (.agg #[vr, .int .i64 (s.play x).2.1]) ∧ OwnI w' w.heap.size vr (s.play x).1 ∧ Al W w' gc (s.play x).2.2 ∧ Oth w w' := by
  obtain ⟨hs, rb, hc, h1, h2, h3⟩ := h
  refine (play_any w gc rb s hc hs x hx).mono ?_
  rintro e w' ⟨vr, rb', rfl, ho, hc', hn, hf⟩
  exact ⟨vr, rfl, ho, Al.step (hs.play _) hc h1 h2 h3 hc' hn hf⟩

/-! ### awake -/
def a97 : ByteArray := ⟨#[97]⟩
def a98 : ByteArray := ⟨#[98]⟩
def a120 : ByteArray := ⟨#[120]⟩
def S1 : St := ⟨0, [⟨0, a97, 10, 1⟩]⟩
def S2 : St := ⟨0, [⟨0, a98, 5, 2⟩, ⟨0, a97, 10, 1⟩]⟩
def S3 : St := ⟨0, [⟨0, a98, 5, 2⟩, ⟨0, a97, 10, 1⟩, ⟨1, a97, 10, 3⟩]⟩
def S4 : St := ⟨5, [⟨0, a97, 10, 1⟩, ⟨1, a97, 10, 3⟩]⟩
def S5 : St := ⟨5, [⟨1, a97, 10, 3⟩]⟩
theorem aw1 : St.set ⟨0, []⟩ 0 a97 10 1 = (0, S1) := by rfl
theorem aw2 : S1.set 0 a98 5 2 = (0, S2) := by rfl
theorem aw3 : S2.set 1 a97 10 3 = (0, S3) := by rfl
theorem aw4 : S3.tick 5 = ([2], 0, S4) := by rfl
theorem aw5 : (S4.cut fun t => t.o == 0 && t.i.toList == a97.toList) = ([1], S5) := by simp only [St.cut, ByteArray.toList_eq]; rfl
theorem aw6 : nextOf S5.now S5.ts = (5, true) := by rfl
theorem aw7 : S5.set 0 a120 (-1) 0 = (1, S5) := by rfl
theorem aw8 : (S5.cut fun t => t.o == 1).1 = [3] := by rfl


set_option maxRecDepth 100000 in
set_option maxHeartbeats 2000000 in
theorem awake_any (W : World) : Calls Try.prog 7 #[] W fun e w' => e = .returned (.bool true) ∧ Fr [] W w' := by
  have HN := new_al W W (Fr.refl _ _)
  have heq : ∀ (w : World) (g : Nat), (binOp .eql 24 (.pointer (some ⟨g, 0, none⟩)) (.pointer none)).run Try.prog w = .ok (.bool false) w := fun _ _ => by kernel_rfl
  go_enter Try.func7, Try.ntmps7
  go_wp2_with fail
  refine HN.mono ?_
  rintro e w1 ⟨gc, rfl, h1, _⟩
  go_wp2_with fail
  refine (set_al h1 0 a97 10 1 (by decide) (by decide)).mono ?_
  rintro e w2 ⟨rfl, h2, _⟩
  rw [aw1] at h2 ⊢
  go_wp2_with fail
  refine (set_al h2 0 a98 5 2 (by decide) (by decide)).mono ?_
  rintro e w3 ⟨rfl, h3, _⟩
  rw [aw2] at h3 ⊢
  go_wp2_with fail
  refine (set_al h3 1 a97 10 3 (by decide) (by decide)).mono ?_
  rintro e w4 ⟨rfl, h4, _⟩
  rw [aw3] at h4 ⊢
  go_wp2_with fail
  refine (tick_al h4 5 (by decide) (by decide)).mono ?_
  rintro e w5 ⟨v5, rfl, o5, h5, _⟩
  rw [aw4] at o5 h5 ⊢
  go_wp2_with fail
  refine (cancel_al h5 0 a97).mono ?_
  rintro e w6 ⟨v6, rfl, o6, h6, t6⟩
  rw [aw5] at o6 h6
  have o5 := o5.oth t6
  go_wp2_with fail
  refine (next_al h6).mono ?_
  rintro e w7 ⟨rfl, h7, t7⟩
  rw [aw6]
  have o5 := o5.oth t7
  have o6 := o6.oth t7
  go_wp2_with fail
  have f8 : Fr [] w7 (w7.alloc (.cells #[.int .i64 2] 3)) := (Fr.refl _ _).alloc _
  refine (sameInts_any _ _ _ [2] [2] (o5.fr f8 (by simp)).ri (RI.lit (ns := [2]) (Blk.new w7 _ 3) (by decide) 1)).mono ?_
  rintro e w8 ⟨rfl, g8⟩
  have f8' := f8.trans' g8
  have o6 := o6.fr f8' (by simp)
  have h8 := h7.fr f8'
  rw [show (([2] : List Int) == [2]) = true from rfl]
  go_wp2_with fail
  have f9 : Fr [] w8 (w8.alloc (.cells #[.int .i64 1] 3)) := (Fr.refl _ _).alloc _
  refine (sameInts_any _ _ _ [1] [1] (o6.fr f9 (by simp)).ri (RI.lit (ns := [1]) (Blk.new w8 _ 3) (by decide) 1)).mono ?_
  rintro e w9 ⟨rfl, g9⟩
  have h9 := h8.fr (f9.trans' g9)
  rw [show (([1] : List Int) == [1]) = true from rfl]
  go_wp2_with fail
  refine (set_al h9 0 a120 (-1) 0 (by decide) (by decide)).mono ?_
  rintro e w10 ⟨rfl, h10, _⟩
  rw [aw7] at h10 ⊢
  go_wp2_with fail
  refine (now_al h10).mono ?_
  rintro e w11 ⟨rfl, rfl⟩
  go_wp2_with fail
  refine (drop_al h10 1).mono ?_
  rintro e w12 ⟨v12, rfl, o12, h12, _⟩
  rw [aw8] at o12
  obtain ⟨A12, c12, rfl⟩ := own_slice o12
  go_wp2
  go_ret
  exact ⟨rfl, h12.frame⟩

end Go.Proofs.Ytifjablnplpfnaa
