/- slices.IndexFunc at timers, with a predicate that may turn the world. -/
import Derived.Test.YtifjablnplpfnaaA0
import Derived.Shelf.Abstract
set_option linter.unusedVariables false
set_option linter.unusedSimpArgs false
namespace Go.Proofs.Ytifjablnplpfnaa
open Go.RowKit Go.Lib

/-- What IndexFunc answers. -/
def IdxPost (p : Tm → Bool) (ts : List Tm) (I : Nat → World → Prop) (e : Ending) (w' : World) : Prop :=
  (e = .returned (.int .i64 (-1)) ∧ (∀ j (h : j < ts.length), p ts[j] = false) ∧ I ts.length w') ∨
  (∃ k : Nat, ∃ h : k < ts.length, e = .returned (.int .i64 k) ∧ p ts[k] = true ∧ (∀ j (hj : j < k), p (ts[j]'(by omega)) = false) ∧ I (k + 1) w')

set_option maxHeartbeats 1000000 in
theorem indexFunc (fv : Nat) (lb : Array Value) (p : Tm → Bool) (ts : List Tm) (A : Option Addr) (c : Nat) (w : World) (I : Nat → World → Prop)
    (eg : ∀ args w, (callFunc fv args).run Try.prog w = .ok (.enter fv args) w)
    (hbig : ts.length ≤ 9223372036854775807)
    (h0 : I 0 w)
    (hI : ∀ k W, I k W → ∀ h : k < ts.length, (∃ g, A = some ⟨g, 0, none⟩ ∧ Four W g k ts[k]) ∧
      Calls Try.prog fv (#[ts[k].val] ++ lb) W fun e w' => e = .returned (.bool (p ts[k])) ∧ I (k + 1) w') :
    Calls Try.prog 36 #[.slice A ts.length c, .func (.func fv) #[] lb] w (IdxPost p ts I) := by
  have HI := Lib.hid hI
  clear hI
  have H0 := Lib.hid h0
  clear h0
  go_enter Try.func36, Try.ntmps36
  go_wp2
  go_loopg [5, 8] ts.length (fun gg _ s8 wr => ∃ k : Nat, k ≤ ts.length ∧ ts.length - k ≤ gg ∧ s8 = .int .i64 k ∧ Aside (I k wr) ∧ Aside (∀ j (hj : j < k) (hl : j < ts.length), p ts[j] = false))
  case atStart => exact ⟨0, Nat.zero_le _, by omega, rfl, H0.out, fun j hj => absurd hj (Nat.not_lt_zero _)⟩
  case round =>
    obtain ⟨k, hk, hg, rfl, BI, A1⟩ := hrel
    by_cases hlt : k < ts.length
    · have hltz : (k : Int) < (ts.length : Int) := by omega
      obtain ⟨⟨g, rfl, f0, f1, f2, f3⟩, hcall⟩ := HI.out k wr BI.out hlt
      unfold Tm.val at hcall
      generalize hy : ts[k] = y at *
      have B : Aside (ts[k] = y) := hy
      clear hy
      cases hq : p y with
      | true =>
        rw [hq] at hcall
        go_wp2_with (go_at_fn fv; refine hcall.mono ?_; rintro e w' ⟨rfl, hb'⟩)
        go_ret
        exact Or.inr ⟨k, hlt, rfl, by rw [B.out]; exact hq, fun j hj => A1.out j hj (by omega), hb'⟩
      | false =>
        rw [hq] at hcall
        go_wp2_with (go_at_fn fv; refine hcall.mono ?_; rintro e w' ⟨rfl, hb'⟩)
        go_roundg (ts.length - (k + 1))
        case measure => omega
        case rel =>
          refine ⟨k + 1, by omega, by omega, by go_num, hb', (show Aside _ from fun j hj hl => ?_)⟩
          by_cases e : j = k
          · subst e
            rw [B.out]; exact hq
          · exact A1.out j (by omega) hl
    · have hltz : ¬ (k : Int) < (ts.length : Int) := by omega
      have : k = ts.length := by omega
      subst this
      go_wp2
      go_ret
      exact Or.inl ⟨rfl, fun j h => A1.out j h h, BI.out⟩
end Go.Proofs.Ytifjablnplpfnaa
