/- (*Lattice).together. -/
import Derived.Test.YtekfbafljilchaaB1
set_option linter.unusedVariables false
set_option linter.unusedSimpArgs false
namespace Go.Proofs.Ytekfbafljilchaa
open Go.RowKit Go.Lib

theorem Tree.plain_ns {c : DChart} (T : Tree c) {i : Nat} (h : i < c.states.length) : plainOf c i < c.states.length := by
  unfold plainOf
  split
  · exact T.up_ns h
  · exact h

set_option maxHeartbeats 1000000 in
theorem together_any (w : World) (g : Nat) (c : DChart) (i j : Nat) (hi : i < c.states.length) (hj : j < c.states.length) (T : Tree c) (hL : Lat (fun _ => True) w g c) :
    Calls Try.prog 96 #[.pointer (some ⟨g, 0, none⟩), .int .i64 i, .int .i64 j] w fun e w' => e = .returned (.bool (togB c i j)) ∧ w = w' := by
  have pi := plain_any w g c i hi T hL
  have pj := plain_any w g c j hj T hL
  have hg := hL.lt
  unfold togB
  have hi' := T.plain_ns hi
  have hj' := T.plain_ns hj
  generalize plainOf c i = a at *
  generalize plainOf c j = b at *
  clear hi hj
  obtain ⟨As, cs, At, ct, Aa, ca, Ak, ck, hC⟩ := hL.open_
  have hl := hC.S.len
  have h4 := hC.s
  have h8 := hC.a
  have haz : (a : Int) < (c.states.length : Int) := by omega
  have hbz : (b : Int) < (c.states.length : Int) := by omega
  obtain ⟨ga, oa, gb, ob, db, e1, r1, r2⟩ := hC.row hi' hj'
  obtain ⟨ga', oa', gb', ob', db', e2, q1, q2⟩ := hC.row hj' hi'
  have HC := Lib.hid hC
  subst e1
  injection e2 with e2
  injection e2 with e2 e3
  subst e2 e3
  clear hL hC
  by_cases he : a = b
  · have hb' : ((a : Int) == (b : Int)) = true := by simp [he]
    have hp : togP c a b = false := by simp [togP, he]
    rw [hp]
    have HE := Lib.hid he
    clear he hp T
    go_enter Try.func96, Try.ntmps96
    go_wp2_with (first | (with_reducible refine pi.mono ?_; rintro e w' ⟨rfl, rfl⟩) | (with_reducible refine pj.mono ?_; rintro e w' ⟨rfl, rfl⟩))
    go_ret
    exact ⟨rfl, rfl⟩
  · have hb' : ((a : Int) == (b : Int)) = false := by
      have : (a : Int) ≠ (b : Int) := by omega
      simpa using this
    cases hab : ab c a b with
    | true =>
      rw [hab] at r2
      have hp : togP c a b = false := by simp [togP, hab]
      rw [hp]
      clear he hp T hab
      go_enter Try.func96, Try.ntmps96
      go_wp2_with (first | (with_reducible refine pi.mono ?_; rintro e w' ⟨rfl, rfl⟩) | (with_reducible refine pj.mono ?_; rintro e w' ⟨rfl, rfl⟩))
      go_ret
      exact ⟨rfl, rfl⟩
    | false =>
      cases hba : ab c b a with
      | true =>
        rw [hab] at r2
        rw [hba] at q2
        have hp : togP c a b = false := by simp [togP, hba]
        rw [hp]
        clear he hp T hab hba
        go_enter Try.func96, Try.ntmps96
        go_wp2_with (first | (with_reducible refine pi.mono ?_; rintro e w' ⟨rfl, rfl⟩) | (with_reducible refine pj.mono ?_; rintro e w' ⟨rfl, rfl⟩))
        go_ret
        exact ⟨rfl, rfl⟩
      | false =>
        rw [hab] at r2
        rw [hba] at q2
        have hp : togP c a b = decide (knd c (lcaF c b a (up c a)) = 2) := by simp [togP, hab, hba, he]
        have ha0 : 0 < a := by
          rcases Nat.eq_zero_or_pos a with h | h
          · subst h
            rw [T.ab_root (by omega) hj'] at hba
            cases hba
          · exact h
        have hb0 : 0 < b := by
          rcases Nat.eq_zero_or_pos b with h | h
          · subst h
            rw [T.ab_root ha0 hi'] at hab
            cases hab
          · exact h
        rw [hp]
        obtain ⟨L, hL⟩ : ∃ L, L = lcaF c b a (up c a) := ⟨_, rfl⟩
        rw [← hL]
        have HL := Lib.hid hL
        have TT := Lib.hid T
        obtain ⟨gs, os, e4, k1, k2⟩ := HC.out.st hi'
        subst e4
        rw [T.par_up ha0 hi'] at k2
        have hul := T.up_lt ha0 hi'
        clear he hp T hab hba hL
        go_enter Try.func96, Try.ntmps96
        go_wp2_with (first | (with_reducible refine pi.mono ?_; rintro e w' ⟨rfl, rfl⟩) | (with_reducible refine pj.mono ?_; rintro e w' ⟨rfl, rfl⟩))
        go_loop [7] (fun s7 => ∃ p f : Nat, s7 = .int .i64 p ∧ p < a ∧ p ≤ f ∧ Aside (lcaF c b f p = L)) (fun s7 => (intOf s7).toNat)
        case atStart => exact ⟨up c a, a, rfl, hul, by omega, HL.out.symm⟩
        case round =>
          obtain ⟨p, f, rfl, hpa, hpf, hLc⟩ := hrel
          have hpn : p < c.states.length := by omega
          have hpz : (p : Int) < (c.states.length : Int) := by omega
          obtain ⟨gb2, ob2, gb3, ob3, db3, e5, s1, s2⟩ := HC.out.row hj' hpn
          injection e5 with e5
          injection e5 with e5 e6
          subst e5 e6
          have e9 := Option.some.inj (s1.symm.trans q1)
          injection e9 with e9 e10 e11
          injection e9 with e9
          injection e9 with e9 e12
          subst e9 e11 e12
          clear s1
          obtain ⟨gs2, os2, e7, m1, m2⟩ := HC.out.st hpn
          injection e7 with e7
          injection e7 with e7 e8
          subst e7 e8
          cases hbp : ab c b p with
          | true =>
            rw [hbp] at s2
            have hpl : p = L := by
              have h1 := hLc.out
              cases f with
              | zero => exact h1
              | succ f => simpa [lcaF, hbp] using h1
            have hfin : (knd c p == 2) = decide (knd c L = 2) := by rw [hpl]; rfl
            have HF := Lib.hid hfin
            clear hpl hbp hfin
            go_wp2
            go_ret
            exact ⟨by rw [← HF.out]; rfl, rfl⟩
          | false =>
            rw [hbp] at s2
            have hp0 : 0 < p := by
              rcases Nat.eq_zero_or_pos p with h | h
              · subst h
                rw [TT.out.ab_root hb0 hj'] at hbp
                cases hbp
              · exact h
            rw [TT.out.par_up hp0 hpn] at m2
            have hup := TT.out.up_lt hp0 hpn
            obtain ⟨f', rfl⟩ : ∃ f', f = f' + 1 := ⟨f - 1, by omega⟩
            have hnext : lcaF c b f' (up c p) = L := by
              have h1 := hLc.out
              simpa [lcaF, hbp] using h1
            have HX := Lib.hid hnext
            clear hbp hnext
            go_wp2
            go_round
            case rel => exact ⟨up c p, f', rfl, by omega, by omega, HX.out⟩
            case measure => simp [intOf]; omega
end Go.Proofs.Ytekfbafljilchaa
