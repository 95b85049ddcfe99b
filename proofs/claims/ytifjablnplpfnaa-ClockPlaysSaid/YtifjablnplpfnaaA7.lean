/- (*Clock).Cancel, Drop, Tick, New, Now, Next. -/
import Derived.Test.YtifjablnplpfnaaA6
set_option linter.unusedVariables false
set_option linter.unusedSimpArgs false
namespace Go.Proofs.Ytifjablnplpfnaa
open Go.RowKit Go.Lib

theorem TookPost.back {W W1 : World} {gc : Nat} {rb : Option Nat} {now : Int} {ts : List Tm} {p : Tm → Bool} {e : Ending} {w' : World} (h : TookPost W1 gc rb now ts p e w') (f : Fr [] W W1) : TookPost W gc rb now ts p e w' := by
  obtain ⟨vr, he, ho, hC, hf⟩ := h
  exact ⟨vr, he, own_low ho f.size, hC, f.nil.trans hf (fun x hx _ => hx)⟩

theorem cancel_any (W : World) (gc : Nat) (rb : Option Nat) (now : Int) (ts : List Tm) (ow : Int) (id : ByteArray) (hC : Clk W gc rb now ts) (hn : ts.length ≤ 100000) :
    Calls Try.prog 20 #[.pointer (some ⟨gc, 0, none⟩), .int .i64 ow, .string id] W (TookPost W gc rb now ts (fun t => t.o == ow && t.i.toList == id.toList)) := by
  have hfr : Fr [] W ((W.alloc (.cells #[.int .i64 ow] 3)).alloc (.cells #[.string id] 9)) := ((Fr.refl [] W).alloc _).alloc _
  have hlt : ∀ k, rb = some k → k < W.heap.size := by obtain ⟨v, _, hr⟩ := hC; exact fun k hk => (hr.lt k hk).1
  have hT := take_any 29 _ _ _ (cancel_gone W.heap.size ow 3 (W.heap.size + 1) id 9) ((W.alloc (.cells #[.int .i64 ow] 3)).alloc (.cells #[.string id] 9)) gc rb now ts (hC.fr hfr (by simp) (by simp))
    (by
      intro x hx
      rcases List.mem_cons.1 hx with rfl | hx
      · exact (Blk.new W _ 3).alloc _
      · obtain rfl := List.mem_singleton.1 hx
        simpa using Blk.new (W.alloc (.cells #[.int .i64 ow] 3)) #[.string id] 9)
    (fun x hx k hk => by
      have := hlt k hk
      rcases List.mem_cons.1 hx with rfl | hx
      · dsimp; omega
      · obtain rfl := List.mem_singleton.1 hx
        dsimp; omega) hn
  clear hC
  go_enter Try.func20, Try.ntmps20
  go_wp2_with fail
  refine hT.mono ?_
  rintro e w1 h1
  obtain ⟨vr, rfl, ho, hC, hf⟩ := h1
  go_wp2
  go_ret
  exact TookPost.back ⟨vr, rfl, ho, hC, hf⟩ hfr

theorem drop_any (W : World) (gc : Nat) (rb : Option Nat) (now : Int) (ts : List Tm) (ow : Int) (hC : Clk W gc rb now ts) (hn : ts.length ≤ 100000) :
    Calls Try.prog 21 #[.pointer (some ⟨gc, 0, none⟩), .int .i64 ow] W (TookPost W gc rb now ts (fun t => t.o == ow)) := by
  have hfr : Fr [] W (W.alloc (.cells #[.int .i64 ow] 3)) := (Fr.refl [] W).alloc _
  have hlt : ∀ k, rb = some k → k < W.heap.size := by obtain ⟨v, _, hr⟩ := hC; exact fun k hk => (hr.lt k hk).1
  have hT := take_any 30 _ _ _ (drop_gone W.heap.size ow 3) (W.alloc (.cells #[.int .i64 ow] 3)) gc rb now ts (hC.fr hfr (by simp) (by simp))
    (by
      intro x hx
      obtain rfl := List.mem_singleton.1 hx
      exact Blk.new W _ 3)
    (fun x hx k hk => by
      have := hlt k hk
      obtain rfl := List.mem_singleton.1 hx
      dsimp; omega) hn
  clear hC
  go_enter Try.func21, Try.ntmps21
  go_wp2_with fail
  refine hT.mono ?_
  rintro e w1 h1
  obtain ⟨vr, rfl, ho, hC, hf⟩ := h1
  go_wp2
  go_ret
  exact TookPost.back ⟨vr, rfl, ho, hC, hf⟩ hfr

/-- What Tick comes to. -/
def TickPost (W : World) (gc : Nat) (rb : Option Nat) (now by_ : Int) (ts : List Tm) (e : Ending) (w' : World) : Prop :=
  if by_ < 0 ∨ by_ > 9007199254740992 - now then
    e = .returned (.tuple #[.slice none 0 0, .int .i64 1]) ∧ Fr [] W w'
  else
    ∃ vr, e = .returned (.tuple #[vr, .int .i64 0]) ∧ w'.ownsRow W.heap.size 3 1 vr (ts.filter fun t => decide (t.d ≤ now + by_)).length (((ts.filter fun t => decide (t.d ≤ now + by_)).map Tm.n).map (Value.int .i64))
      ∧ Clk w' gc rb (now + by_) (ts.filter (fun t => !decide (t.d ≤ now + by_))) ∧ Fr (gc :: rb.toList) W w'

set_option maxHeartbeats 1000000 in
theorem tick_any (W : World) (gc : Nat) (rb : Option Nat) (now by_ : Int) (ts : List Tm) (hC : Clk W gc rb now ts) (hn : ts.length ≤ 100000) (hn0 : 0 ≤ now) (hn1 : now ≤ 9007199254740992) (hb0 : -9223372036854775808 ≤ by_) (hb1 : by_ ≤ 9223372036854775807) :
    Calls Try.prog 18 #[.pointer (some ⟨gc, 0, none⟩), .int .i64 by_] W (TickPost W gc rb now by_ ts) := by
  have hC0 := hC
  obtain ⟨v, hgc, hr⟩ := hC
  have hgl := hgc.lt
  have hg0 := hgc.cell 0
  have hf0 := hgc.free 0
  simp at hg0
  by_cases h1 : by_ < 0
  · have hpost : ∀ e w', (e = .returned (.tuple #[.slice none 0 0, .int .i64 1]) ∧ Fr [] W w') → TickPost W gc rb now by_ ts e w' := fun e w' h => by unfold TickPost; rw [if_pos (.inl h1)]; exact h
    go_enter Try.func18, Try.ntmps18
    go_wp2
    go_ret2
    exact hpost _ _ ⟨rfl, (Fr.refl [] W).alloc _⟩
  · by_cases h2 : by_ > 9007199254740992 - now
    · have hpost : ∀ e w', (e = .returned (.tuple #[.slice none 0 0, .int .i64 1]) ∧ Fr [] W w') → TickPost W gc rb now by_ ts e w' := fun e w' h => by unfold TickPost; rw [if_pos (.inr h2)]; exact h
      go_enter Try.func18, Try.ntmps18
      go_wp2
      go_ret2
      exact hpost _ _ ⟨rfl, (Fr.refl [] W).alloc _⟩
    · have hpost : ∀ (e : Ending) (w' : World), (∃ vr, e = .returned (.tuple #[vr, .int .i64 0]) ∧ w'.ownsRow W.heap.size 3 1 vr (ts.filter fun t => decide (t.d ≤ now + by_)).length (((ts.filter fun t => decide (t.d ≤ now + by_)).map Tm.n).map (Value.int .i64))
      ∧ Clk w' gc rb (now + by_) (ts.filter (fun t => !decide (t.d ≤ now + by_))) ∧ Fr (gc :: rb.toList) W w') → TickPost W gc rb now by_ ts e w' := fun (e : Ending) (w' : World) h => by unfold TickPost; rw [if_neg (show ¬(by_ < 0 ∨ by_ > 9007199254740992 - now) by omega)]; exact h
      have hb' : Blk ((W.setCell ⟨gc, 0, none⟩ (.int .i64 (now + by_))).alloc (.cells #[.pointer (some ⟨gc, 0, none⟩)] 24)) gc #[.int .i64 (now + by_), v] 59 := by simpa using (hgc.set 0 (.int .i64 (now + by_))).alloc (.cells #[.pointer (some ⟨gc, 0, none⟩)] 24)
      have hbx : Blk ((W.setCell ⟨gc, 0, none⟩ (.int .i64 (now + by_))).alloc (.cells #[.pointer (some ⟨gc, 0, none⟩)] 24)) W.heap.size #[.pointer (some ⟨gc, 0, none⟩)] 24 := by simpa [World.setCell] using Blk.new (W.setCell ⟨gc, 0, none⟩ (.int .i64 (now + by_))) #[.pointer (some ⟨gc, 0, none⟩)] 24
      have hfs : Fr [gc] W ((W.setCell ⟨gc, 0, none⟩ (.int .i64 (now + by_))).alloc (.cells #[.pointer (some ⟨gc, 0, none⟩)] 24)) := ((Fr.refl [gc] W).setCell (by simp) _).alloc _
      have hrl := hr.lt
      have hrg : ∀ k, rb = some k → k ≠ gc := fun k hk => by obtain ⟨_, c, e⟩ := hrl k hk; exact e.ne hgc (by decide)
      have hr' := hr.fr hfs (fun k hk => by simpa using hrg k hk)
      have hT := take_any 27 _ _ _ (tick_gone W.heap.size gc (now + by_) v 24) _ gc rb (now + by_) ts ⟨v, hb', hr'⟩
        (by
          intro x hx
          rcases List.mem_cons.1 hx with rfl | hx
          · exact hbx
          · obtain rfl := List.mem_singleton.1 hx
            exact hb')
        (fun x hx k hk => by
          have h1 := (hrl k hk).1
          rcases List.mem_cons.1 hx with rfl | hx
          · dsimp; omega
          · obtain rfl := List.mem_singleton.1 hx
            exact (hrg k hk).symm) hn
      clear hrl hr' hr hC0 hrg
      go_enter Try.func18, Try.ntmps18
      go_wp2_with fail
      refine hT.mono ?_
      rintro e w1 h1
      obtain ⟨vr, rfl, ho, hC, hf⟩ := h1
      go_wp2
      go_ret2
      exact hpost _ _ ⟨vr, rfl, own_low ho (by simp [World.setCell]), hC, hfs.wide (by simp) |>.trans hf (fun x hx _ => hx)⟩

theorem now_any (W : World) (gc : Nat) (rb : Option Nat) (now : Int) (ts : List Tm) (hC : Clk W gc rb now ts) :
    Calls Try.prog 15 #[.pointer (some ⟨gc, 0, none⟩)] W fun e w' => e = .returned (.int .i64 now) ∧ w' = W := by
  obtain ⟨v, hgc, hr⟩ := hC
  have hgl := hgc.lt
  have hg0 := hgc.cell 0
  simp at hg0
  clear hr hgc
  go_enter Try.func15, Try.ntmps15
  go_wp2
  go_ret
  exact ⟨rfl, rfl⟩

theorem new_any (W : World) : Calls Try.prog 8 #[] W fun e w' => ∃ gc, e = .returned (.pointer (some ⟨gc, 0, none⟩)) ∧ W.heap.size ≤ gc ∧ Clk w' gc none 0 [] ∧ Fr [] W w' := by
  go_enter Try.func8, Try.ntmps8
  go_wp2
  go_ret
  refine ⟨W.heap.size, rfl, Nat.le_refl _, ⟨.slice none 0 0, Blk.new W _ 59, .inl ⟨rfl, rfl, rfl⟩⟩, (Fr.refl [] W).alloc _⟩

/-- What Next answers. -/
def nextOf (now : Int) (ts : List Tm) : Int × Bool := match ts with | [] => (0, false) | t :: _ => (max 0 (t.d - now), true)

theorem next_any (W : World) (gc : Nat) (rb : Option Nat) (now : Int) (ts : List Tm) (hC : Clk W gc rb now ts) (hn0 : 0 ≤ now) (hn1 : now ≤ 9007199254740992) (hd : ∀ t, t ∈ ts → 0 ≤ t.d ∧ t.d ≤ 9107199254740992) :
    Calls Try.prog 12 #[.pointer (some ⟨gc, 0, none⟩)] W fun e w' => e = .returned (.tuple #[.int .i64 (nextOf now ts).1, .bool (nextOf now ts).2]) ∧ Fr [] W w' := by
  obtain ⟨v, hgc, hr⟩ := hC
  have hgl := hgc.lt
  have hg0 := hgc.cell 0
  have hg1 := hgc.cell 1
  simp at hg0 hg1
  rcases hr with ⟨rfl, rfl, rfl⟩ | ⟨g, cap, cur, rest, rfl, rfl, hcur, hcl, hcap, hcm, hcs⟩
  · go_enter Try.func12, Try.ntmps12
    go_wp2
    go_ret2
    exact ⟨rfl, Fr.refl _ _⟩
  · match ts, hd, hcl, hcap with
    | [], _, _, _ =>
      go_enter Try.func12, Try.ntmps12
      go_wp2
      go_ret2
      exact ⟨rfl, Fr.refl _ _⟩
    | t :: ts, hd, hcl, hcap =>
      have hf := four_of_blk hcur hcl 0 (by simp)
      obtain ⟨f0, f1, f2, f3⟩ := hf
      simp at f0 f1 f2 f3
      have hdt := hd t (by simp)
      have hm1 : now < t.d → (nextOf now (t :: ts)).1 = t.d - now := fun h => by simp only [nextOf]; omega
      have hm2 : ¬ now < t.d → (nextOf now (t :: ts)).1 = 0 := fun h => by simp only [nextOf]; omega
      have hm3 : (nextOf now (t :: ts)).2 = true := rfl
      have HM1 := Lib.hid hm1
      have HM2 := Lib.hid hm2
      have HM3 := Lib.hid hm3
      clear hm1 hm2 hm3
      have hle : ts.length + 1 ≤ 9223372036854775807 := by simp [maxLen] at hcap hcm; omega
      clear hd hcl hcap hcur hgc
      go_enter Try.func12, Try.ntmps12
      go_wp2
      by_cases hlt : now < t.d
      all_goals
        go_quiet (fail)
        go_wp2
        go_ret2
        refine ⟨?_, (Fr.refl _ _).drewN _⟩
        rw [HM3.out]
        first | (rw [HM1.out hlt]; rfl) | (rw [HM2.out hlt]; rfl)
end Go.Proofs.Ytifjablnplpfnaa
