/- (*Clock).Set. -/
import Derived.Test.YtifjablnplpfnaaB1
import Derived.Deep.RegionWith
set_option linter.unusedVariables false
set_option linter.unusedSimpArgs false
namespace Go.Proofs.Ytifjablnplpfnaa
open Go.RowKit Go.Lib

/-- Where a timer goes: behind all that are due no later, ahead of those due later (as the loop finds it from the end). -/
def SetAt (ts : List Tm) (due : Int) (k : Nat) : Prop :=
  k ≤ ts.length ∧ (∀ j (h : j < ts.length), k ≤ j → due < ts[j].d) ∧ (∀ h : k - 1 < ts.length, 0 < k → (ts[k - 1]'h).d ≤ due)

def SetPost (W : World) (gc : Nat) (rb : Option Nat) (now : Int) (ts : List Tm) (ow : Int) (id : ByteArray) (delay n : Int) (e : Ending) (w' : World) : Prop :=
  if delay < 0 ∨ delay > 1000000000 then e = .returned (.int .i64 1) ∧ w' = W
  else if 128 ≤ ts.length then e = .returned (.int .i64 4) ∧ w' = W
  else e = .returned (.int .i64 0) ∧ ∃ k rb', SetAt ts (now + delay) k ∧ Clk w' gc rb' now (ts.take k ++ [⟨ow, id, now + delay, n⟩] ++ ts.drop k) ∧ (rb' = rb ∨ ∃ b, rb' = some b ∧ W.heap.size ≤ b) ∧ Fr (gc :: rb.toList) W w'

theorem TRow.slice' {w : World} {v : Value} {rb : Option Nat} {ts : List Tm} (h : TRow w v rb ts) : ∃ A c, v = .slice A ts.length c ∧ ∀ j (hj : j < ts.length), ∃ g, A = some ⟨g, 0, none⟩ ∧ Four w g j ts[j] := by
  rcases h with ⟨rfl, _, rfl⟩ | ⟨g, cap, cur, rest, rfl, _, hb, hl, _⟩
  · exact ⟨none, 0, rfl, fun j hj => absurd hj (by simp)⟩
  · exact ⟨_, cap, rfl, fun j hj => ⟨g, rfl, four_of_blk hb hl j hj⟩⟩

theorem set_frame (W : World) (A B : Obj) (m : Nat) (w' : World) {S : List Nat} (hf : Fr S (((W.alloc A).drewN m).alloc B) w') : Fr S W w' :=
  ((((Fr.refl [] W).alloc A).drewN m).alloc B).nil.trans hf (fun x hx _ => hx)

/-- The call of Insert in Set: what its caller needs of the world behind it. -/
theorem set_call (W : World) (gc : Nat) (rb : Option Nat) (now : Int) (ts : List Tm) (A : Option Addr) (c : Nat) (ow : Int) (id : ByteArray) (due n : Int) (m : Nat) (hr : TRow W (.slice A ts.length c) rb ts) (hgc : Blk W gc #[.int .i64 now, .slice A ts.length c] 59)
    (hrl : ∀ x, rb = some x → x < W.heap.size) (hrg : ∀ x, rb = some x → x ≠ gc) (hn : ts.length ≤ 100000) (x : Int) (hx0 : 0 ≤ x) (hx : x ≤ ts.length) :
    Calls Try.prog 28 #[.slice A ts.length c, .int .i64 x, .slice (some ⟨W.heap.size + 1, 0, none⟩) 1 1]
      (((W.alloc (.cells #[.int .i64 ow, .string id, .int .i64 due, .int .i64 n] 44)).drewN m).alloc (.cells #[.int .i64 ow, .string id, .int .i64 due, .int .i64 n] 44)) fun e w' =>
      ∃ A' n' c' rb', e = .returned (.slice A' n' c') ∧ gc < w'.heap.size ∧ w'.cell? ⟨gc, 1, none⟩ = some (.slice A ts.length c) ∧ w'.frozen? ⟨gc, 1, none⟩ = false ∧
        Aside (Clk (w'.setCell ⟨gc, 1, none⟩ (.slice A' n' c')) gc rb' now (ts.take x.toNat ++ [⟨ow, id, due, n⟩] ++ ts.drop x.toNat) ∧ (rb' = rb ∨ ∃ b, rb' = some b ∧ W.heap.size ≤ b) ∧ Fr (gc :: rb.toList) W (w'.setCell ⟨gc, 1, none⟩ (.slice A' n' c'))) := by
  have hf0 : Fr [] W (((W.alloc (.cells #[.int .i64 ow, .string id, .int .i64 due, .int .i64 n] 44)).drewN m).alloc (.cells #[.int .i64 ow, .string id, .int .i64 due, .int .i64 n] 44)) := (((Fr.refl [] W).alloc _).drewN m).alloc _
  refine (insert_int _ _ rb ts (hr.fr hf0 (by simp)) (W.heap.size + 1) ⟨ow, id, due, n⟩ (by simpa [Tm.cells] using Blk.new ((W.alloc (.cells #[.int .i64 ow, .string id, .int .i64 due, .int .i64 n] 44)).drewN m) #[.int .i64 ow, .string id, .int .i64 due, .int .i64 n] 44) (fun k hk => by have := hrl k hk; omega) hn x hx0 hx).mono ?_
  rintro e w' ⟨v', rb', rfl, hr', hrb, hf⟩
  obtain ⟨A', n', c', rfl⟩ := hr'.slice
  have hfw : Fr rb.toList W w' := hf0.nil.trans hf (fun x hx _ => hx)
  have hgc' := hgc.fr hfw (by simp; intro h; exact hrg gc h rfl)
  have hcl := hgc'.cell 1
  simp at hcl
  refine ⟨A', n', c', rb', rfl, hgc'.lt, hcl, hgc'.free 1, ⟨_, by simpa using hgc'.set 1 (.slice A' n' c'), hr'.fr (Fr.setCell (Fr.refl [gc] w') (p := ⟨gc, 1, none⟩) (by simp) _) (fun k hk => ?_)⟩, ?_, (hfw.wide (by simp_all)).setCell (by simp) _⟩
  · obtain ⟨_, d, e⟩ := hr'.lt k hk
    simp
    exact e.ne hgc' (by decide)
  · rcases hrb with h | ⟨k, h1, h2⟩
    · exact .inl h
    · exact .inr ⟨k, h1, by simp at h2; omega⟩

set_option maxRecDepth 100000 in
set_option maxHeartbeats 2000000 in
theorem set_any (W : World) (gc : Nat) (rb : Option Nat) (now : Int) (ts : List Tm) (ow : Int) (id : ByteArray) (delay n : Int) (hC : Clk W gc rb now ts) (hn : ts.length ≤ 100000) (hn0 : 0 ≤ now) (hn1 : now ≤ 9007199254740992)
    (hd0 : -9223372036854775808 ≤ delay) (hd1 : delay ≤ 9223372036854775807) :
    Calls Try.prog 19 #[.pointer (some ⟨gc, 0, none⟩), .int .i64 ow, .string id, .int .i64 delay, .int .i64 n] W (SetPost W gc rb now ts ow id delay n) := by
  obtain ⟨v, hgc, hr⟩ := hC
  have hgl := hgc.lt
  have hg0 := hgc.cell 0
  have hg1 := hgc.cell 1
  simp at hg0 hg1
  obtain ⟨A, c, rfl, hfour⟩ := hr.slice'
  by_cases h1 : delay < 0
  · have hpost : ∀ (e : Ending) (w' : World), (e = .returned (.int .i64 1) ∧ w' = W) → SetPost W gc rb now ts ow id delay n e w' := fun e w' h => by unfold SetPost; rw [if_pos (.inl h1)]; exact h
    clear hr hgc hfour
    go_enter Try.func19, Try.ntmps19
    go_wp2
    go_ret
    exact hpost _ _ ⟨rfl, rfl⟩
  by_cases h2 : delay > 1000000000
  · have hpost : ∀ (e : Ending) (w' : World), (e = .returned (.int .i64 1) ∧ w' = W) → SetPost W gc rb now ts ow id delay n e w' := fun e w' h => by unfold SetPost; rw [if_pos (.inr h2)]; exact h
    clear hr hgc hfour
    go_enter Try.func19, Try.ntmps19
    go_wp2
    go_ret
    exact hpost _ _ ⟨rfl, rfl⟩
  by_cases h3 : 128 ≤ ts.length
  · have hpost : ∀ (e : Ending) (w' : World), (e = .returned (.int .i64 4) ∧ w' = W) → SetPost W gc rb now ts ow id delay n e w' := fun e w' h => by unfold SetPost; rw [if_neg (by omega), if_pos h3]; exact h
    clear hr hgc hfour
    go_enter Try.func19, Try.ntmps19
    go_wp2
    go_ret
    exact hpost _ _ ⟨rfl, rfl⟩
  have hpost : ∀ (e : Ending) (w' : World), (e = .returned (.int .i64 0) ∧ ∃ k rb', SetAt ts (now + delay) k ∧ Clk w' gc rb' now (ts.take k ++ [⟨ow, id, now + delay, n⟩] ++ ts.drop k) ∧ (rb' = rb ∨ ∃ b, rb' = some b ∧ W.heap.size ≤ b) ∧ Fr (gc :: rb.toList) W w') → SetPost W gc rb now ts ow id delay n e w' := fun e w' h => by
    unfold SetPost; rw [if_neg (by omega), if_neg h3]; exact h
  have HP := Lib.hid hpost
  have HF := Lib.hid hfour
  have HG := Lib.hid hgc
  have HR := Lib.hid hr
  have hrg : ∀ x, rb = some x → x ≠ gc := fun x hx => by obtain ⟨_, c, e⟩ := hr.lt x hx; exact e.ne hgc (by decide)
  have hrl : ∀ x, rb = some x → x < W.heap.size := fun x hx => (hr.lt x hx).1
  have HRG := Lib.hid hrg
  have HRL := Lib.hid hrl
  clear hrg hrl
  have hk0 : 0 ≤ now + delay := by omega
  clear hpost hfour hgc hr
  go_enter Try.func19, Try.ntmps19
  go_wp2
  go_loopg [12] ts.length (fun gg s12 wr => ∃ k q : Nat, k ≤ ts.length ∧ k ≤ gg ∧ s12 = .int .i64 k ∧ wr = (W.alloc (.cells #[.int .i64 ow, .string id, .int .i64 (now + delay), .int .i64 n] 44)).drewN q ∧ Aside (∀ j (h : j < ts.length), k ≤ j → now + delay < ts[j].d))
  case atStart => exact ⟨ts.length, 0, Nat.le_refl _, Nat.le_refl _, rfl, rfl, fun j h hk => by omega⟩
  case round =>
    obtain ⟨k, q, hk, hg, rfl, rfl, HA⟩ := hrel
    rcases Nat.eq_zero_or_pos k with rfl | hkp
    · go_wp2
      go_quiet (fail)
      go_wp2
      have hcon := set_call W gc rb now ts A c ow id (now + delay) n (q + nq + 1) HR.out HG.out HRL.out HRG.out hn 0 (by omega) (by omega)
      go_region_with (go_at_call 28; refine hcon.mono ?_; rintro e w' ⟨A', n', c', rb', rfl, hgl', hcl', hfl', KA⟩)
      all_goals
        go_wp2
        go_ret
        exact HP.out _ _ ⟨rfl, 0, rb', ⟨by omega, fun j h _ => HA j h (by omega), fun _ h => absurd h (by omega)⟩, KA⟩
    · obtain ⟨k, rfl⟩ : ∃ m, k = m + 1 := ⟨k - 1, by omega⟩
      obtain ⟨g, rfl, f0, f1, f2, f3⟩ := HF.out k (by omega)
      have hgg : g < W.heap.size := World.block_lt_of_cell? W _ f0
      have hlen : ts.length ≤ 9223372036854775807 := by omega
      have hw1 : IntKind.i64.wrap (((k + 1 : Nat) : Int) - 1) = (k : Int) := by rw [IntKind.wrap_i64]; omega
      have hk1 : (k : Int) < (ts.length : Int) := by omega
      by_cases hlt : now + delay < ts[k].d
      · go_wp2
        go_quiet (fail)
        go_wp2
        go_roundg k
        case measure => omega
        case rel =>
          refine ⟨k, q + nq, by omega, Nat.le_refl _, by go_num, rfl, (show Aside _ from fun j hj hkj => ?_)⟩
          rcases Nat.eq_or_lt_of_le hkj with rfl | hkj
          · exact hlt
          · exact HA j hj hkj
      · go_wp2
        go_quiet (fail)
        go_wp2
        have hcon := set_call W gc rb now ts (some ⟨g, 0, none⟩) c ow id (now + delay) n (q + nq + 1) HR.out HG.out HRL.out HRG.out hn ((k : Int) + 1) (by omega) (by omega)
        go_region_with (go_at_call 28; refine hcon.mono ?_; rintro e w' ⟨A', n', c', rb', rfl, hgl', hcl', hfl', KA⟩)
        all_goals
          go_wp2
          go_ret
          exact HP.out _ _ ⟨rfl, k + 1, rb', ⟨by omega, fun j h hk => HA j h hk, fun _ _ => by simpa using hlt⟩, KA⟩
end Go.Proofs.Ytifjablnplpfnaa
