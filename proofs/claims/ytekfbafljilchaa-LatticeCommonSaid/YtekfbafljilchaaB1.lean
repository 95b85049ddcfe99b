/- (*Lattice).Atomic, Compound, plain, together. -/
import Derived.Test.YtekfbafljilchaaB0
set_option linter.unusedVariables false
set_option linter.unusedSimpArgs false
namespace Go.Proofs.Ytekfbafljilchaa
open Go.RowKit Go.Lib

def atomB (c : DChart) (a : Int) : Bool := isSt c a && decide (knd c a.toNat < 4) && decide ((kidsOf c a.toNat).length = 0)
def compB (c : DChart) (a : Int) : Bool := isSt c a && decide (knd c a.toNat ≤ 1) && decide (0 < (kidsOf c a.toNat).length)
/-- A state itself, or a history's Parent. -/
def plainOf (c : DChart) (i : Nat) : Nat := if 4 ≤ knd c i then up c i else i
def lcaF (c : DChart) (b : Nat) : Nat → Nat → Nat
  | 0, p => p
  | f + 1, p => if ab c b p then p else lcaF c b f (up c p)
def togP (c : DChart) (a b : Nat) : Bool := if a = b ∨ ab c a b = true ∨ ab c b a = true then false else decide (knd c (lcaF c b a (up c a)) = 2)
def togB (c : DChart) (a b : Nat) : Bool := togP c (plainOf c a) (plainOf c b)

theorem kids_len {c : DChart} (i : Nat) : (kidsOf c i).length ≤ c.states.length := by
  unfold kidsOf
  rw [List.length_map]
  exact Nat.le_trans (List.length_filter_le _ _) (by simp)

theorem atomic_any (w : World) (g : Nat) (c : DChart) (a : Int) (hL : Lat (fun _ => True) w g c) :
    Calls Try.prog 31 #[.pointer (some ⟨g, 0, none⟩), .int .i64 a] w fun e w' => e = .returned (.bool (atomB c a)) ∧ w = w' := by
  obtain ⟨As, cs, At, ct, Aa, ca, Ak, ck, hC⟩ := hL.open_
  have hl := hC.S.len
  have sa := state_any w g c a hL
  have hg := hL.lt
  cases ha : isSt c a with
  | false =>
    have e : atomB c a = false := by simp [atomB, ha]
    rw [e]
    rw [ha] at sa
    clear hC hL ha e
    go_enter Try.func31, Try.ntmps31
    go_wp2_with (with_reducible refine sa.mono ?_; rintro e w' ⟨rfl, rfl⟩)
    go_ret
    exact ⟨rfl, rfl⟩
  | true =>
    obtain ⟨i, rfl, hi⟩ := isSt_true ha
    have e : atomB c (i : Int) = (decide (knd c i < 4) && decide ((kidsOf c i).length = 0)) := by simp [atomB, ha]
    rw [e]
    rw [ha] at sa
    obtain ⟨gs, os, rfl, h1, h2⟩ := hC.st hi
    obtain ⟨gk, ok, B, d, rfl, h3, _⟩ := hC.kd hi
    have h4 := hC.s
    have h5 := hC.k
    have hkl := kids_len (c := c) i
    clear hC hL ha e h2
    have hiz : (i : Int) < (c.states.length : Int) := by omega
    by_cases hk : knd c i < 4
    · by_cases hn : (kidsOf c i).length = 0
      · have hb : (((kidsOf c i).length : Int) == 0) = true := by simpa using hn
        have ee : (decide (knd c i < 4) && decide ((kidsOf c i).length = 0)) = true := by simp [hk, hn]
        rw [ee]
        have HN := Lib.hid hn
        clear hn ee
        go_enter Try.func31, Try.ntmps31
        go_wp2_with (with_reducible refine sa.mono ?_; rintro e w' ⟨rfl, rfl⟩)
        go_ret
        exact ⟨rfl, rfl⟩
      · have hb : (((kidsOf c i).length : Int) == 0) = false := by
          have : ((kidsOf c i).length : Int) ≠ 0 := by omega
          simpa using this
        have ee : (decide (knd c i < 4) && decide ((kidsOf c i).length = 0)) = false := by simp [hn]
        rw [ee]
        clear hn ee
        go_enter Try.func31, Try.ntmps31
        go_wp2_with (with_reducible refine sa.mono ?_; rintro e w' ⟨rfl, rfl⟩)
        go_ret
        exact ⟨rfl, rfl⟩
    · have ee : (decide (knd c i < 4) && decide ((kidsOf c i).length = 0)) = false := by simp [hk]
      rw [ee]
      have hkd : decide (knd c i < 4) = false := by simpa using hk
      clear ee
      go_enter Try.func31, Try.ntmps31
      go_wp2_with (with_reducible refine sa.mono ?_; rintro e w' ⟨rfl, rfl⟩)
      go_ret
      exact ⟨rfl, rfl⟩

theorem compound_any (w : World) (g : Nat) (c : DChart) (a : Int) (hL : Lat (fun _ => True) w g c) :
    Calls Try.prog 33 #[.pointer (some ⟨g, 0, none⟩), .int .i64 a] w fun e w' => e = .returned (.bool (compB c a)) ∧ w = w' := by
  obtain ⟨As, cs, At, ct, Aa, ca, Ak, ck, hC⟩ := hL.open_
  have hl := hC.S.len
  have sa := state_any w g c a hL
  have hg := hL.lt
  cases ha : isSt c a with
  | false =>
    have e : compB c a = false := by simp [compB, ha]
    rw [e]
    rw [ha] at sa
    clear hC hL ha e
    go_enter Try.func33, Try.ntmps33
    go_wp2_with (with_reducible refine sa.mono ?_; rintro e w' ⟨rfl, rfl⟩)
    go_ret
    exact ⟨rfl, rfl⟩
  | true =>
    obtain ⟨i, rfl, hi⟩ := isSt_true ha
    have e : compB c (i : Int) = (decide (knd c i ≤ 1) && decide (0 < (kidsOf c i).length)) := by simp [compB, ha]
    rw [e]
    rw [ha] at sa
    obtain ⟨gs, os, rfl, h1, h2⟩ := hC.st hi
    obtain ⟨gk, ok, B, d, rfl, h3, _⟩ := hC.kd hi
    have h4 := hC.s
    have h5 := hC.k
    have hkl := kids_len (c := c) i
    clear hC hL ha e h2
    have hiz : (i : Int) < (c.states.length : Int) := by omega
    by_cases hk : knd c i ≤ 1
    · have ee : (decide (knd c i ≤ 1) && decide (0 < (kidsOf c i).length)) = decide (0 < (kidsOf c i).length) := by simp [hk]
      rw [ee]
      clear ee
      go_enter Try.func33, Try.ntmps33
      go_wp2_with (with_reducible refine sa.mono ?_; rintro e w' ⟨rfl, rfl⟩)
      go_ret
      exact ⟨by simp, rfl⟩
    · have ee : (decide (knd c i ≤ 1) && decide (0 < (kidsOf c i).length)) = false := by simp [hk]
      rw [ee]
      have hkd : decide (knd c i ≤ 1) = false := by simpa using hk
      clear ee
      go_enter Try.func33, Try.ntmps33
      go_wp2_with (with_reducible refine sa.mono ?_; rintro e w' ⟨rfl, rfl⟩)
      go_ret
      exact ⟨rfl, rfl⟩

theorem plain_any (w : World) (g : Nat) (c : DChart) (i : Nat) (hi : i < c.states.length) (T : Tree c) (hL : Lat (fun _ => True) w g c) :
    Calls Try.prog 119 #[.pointer (some ⟨g, 0, none⟩), .int .i64 i] w fun e w' => e = .returned (.int .i64 (plainOf c i)) ∧ w = w' := by
  obtain ⟨As, cs, At, ct, Aa, ca, Ak, ck, hC⟩ := hL.open_
  have hl := hC.S.len
  have hg := hL.lt
  obtain ⟨gs, os, rfl, h1, h2⟩ := hC.st hi
  have h4 := hC.s
  clear hC hL
  have hiz : (i : Int) < (c.states.length : Int) := by omega
  by_cases hk : 4 ≤ knd c i
  · have h0 : 0 < i := by
      rcases Nat.eq_zero_or_pos i with rfl | h
      · have := T.root; omega
      · exact h
    rw [T.par_up h0 hi] at h2
    have e : plainOf c i = up c i := by simp [plainOf, hk]
    rw [e]
    clear e T
    go_enter Try.func119, Try.ntmps119
    go_wp2
    go_ret
    exact ⟨rfl, rfl⟩
  · have e : plainOf c i = i := by simp [plainOf, hk]
    rw [e]
    clear e T
    go_enter Try.func119, Try.ntmps119
    go_wp2
    go_ret
    exact ⟨rfl, rfl⟩
end Go.Proofs.Ytekfbafljilchaa
