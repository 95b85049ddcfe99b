/- LatticeCommon: the walk. -/
import Derived.Test.YtekfbafljilchaaH3
set_option linter.unusedVariables false
set_option linter.unusedSimpArgs false
namespace Go.Proofs.Ytekfbafljilchaa
open Go.RowKit Go.Lib

set_option maxRecDepth 100000 in
set_option maxHeartbeats 16000000 in
theorem common_law (W : World) (c : DChart) (vS vT vB vD vI : Value) (l : List Int) (A : Option Addr) (d : Nat) (h : Rows8 (fun k => k < W.heap.size) W c vS vT vB vD vI) (hC : Sl rInt (fun k => k < W.heap.size) W (.slice A l.length d) l) :
    Calls Try.prog 7 #[chartV c vS vT vB vD vI, .slice A l.length d] W (Yes W) := by
  have HR := Lib.hid h
  have lC := hC.len
  have HC := Lib.hid hC
  have hf0 := Lib.hid ((Fr.refl [] W).alloc (.cells (chartA c vS vT vB vD vI) 28))
  have hbx := Lib.hid (Blk.new W (chartA c vS vT vB vD vI) 28)
  clear h hC
  unfold chartV
  unfold chartA at hf0 hbx
  have haw := awake13_any (W.alloc (.cells #[.string c.name, .bool c.late, .int .i64 c.script, vS, vT, vB, vD, vI] 28))
  go_enter Try.func7, Try.ntmps7
  go_wp2_with fail
  refine haw.mono ?_
  rintro e w1 ⟨rfl, f1⟩
  have HF1 := Lib.hid (hf0.out.trans' f1)
  have HB1 := Lib.hid (hbx.out.fr f1 (by simp))
  clear f1 haw
  have hl1 := large13_any w1 c vS vT vB vD vI (HR.out.fr (fun k hk hlt => ⟨Nat.lt_of_lt_of_le hk HF1.out.size, HF1.out.block k hlt (by simp)⟩))
  have k0 := HB1.out.cell 0
  have k1 := HB1.out.cell 1
  have k2 := HB1.out.cell 2
  have k3 := HB1.out.cell 3
  have k4 := HB1.out.cell 4
  have k5 := HB1.out.cell 5
  have k6 := HB1.out.cell 6
  have k7 := HB1.out.cell 7
  simp at k0 k1 k2 k3 k4 k5 k6 k7
  unfold chartV at hl1
  go_wp2_with fail
  refine hl1.mono ?_
  rintro e w2 ⟨⟨b, rfl⟩, f2⟩
  have HF2 := Lib.hid (HF1.out.trans' f2)
  have HB2 := Lib.hid (HB1.out.fr f2 (by simp))
  clear f2 hl1 k0 k1 k2 k3 k4 k5 k6 k7
  cases b with
  | true =>
    go_wp2
    go_ret
    exact ⟨rfl, HF2.out⟩
  | false =>
  by_cases h50 : (50 : Int) < (l.length : Int)
  · go_wp2
    go_ret
    exact ⟨rfl, HF2.out⟩
  have k0 := HB2.out.cell 0
  have k1 := HB2.out.cell 1
  have k2 := HB2.out.cell 2
  have k3 := HB2.out.cell 3
  have k4 := HB2.out.cell 4
  have k5 := HB2.out.cell 5
  have k6 := HB2.out.cell 6
  have k7 := HB2.out.cell 7
  simp at k0 k1 k2 k3 k4 k5 k6 k7
  have hn := new_any w2 c vS vT vB vD vI (HR.out.fr (fun k hk hlt => ⟨Nat.lt_of_lt_of_le hk HF2.out.size, HF2.out.block k hlt (by simp)⟩))
  unfold chartV at hn
  go_wp2_with fail
  refine hn.mono ?_
  rintro e w3 ⟨f3, hcase⟩
  have HF3 := Lib.hid (HF2.out.trans' f3)
  have HB3 := Lib.hid (HB2.out.fr f3 (by simp))
  clear f3 hn k0 k1 k2 k3 k4 k5 k6 k7 HB1 HB2
  rcases hcase with ⟨hright, rfl⟩ | ⟨hright, g, rfl, hgl, hlat⟩
  · go_wp2
    go_ret
    exact ⟨rfl, HF3.out⟩
  have HT := Lib.hid (newB_tree hright)
  have HL := Lib.hid hlat.any
  clear hlat
  have HC3 := Lib.hid (HC.out.fr (q := fun _ => True) (fun k hk hlt => ⟨trivial, HF3.out.block k hlt (by simp)⟩))
  obtain ⟨hp1, hp2, hp3⟩ := HT.out.com (l := l)
  have HP2 := Lib.hid hp2
  have HP3 := Lib.hid hp3
  have hcom := common_any w3 g c l A d (fun _ => True) HT.out HC3.out HL.out
  clear hp2 hp3 hright
  generalize comB c l = p at *
  go_wp2_with fail
  refine hcom.mono ?_
  rintro e w4 ⟨rfl, f4⟩
  have HF4 := Lib.hid (HF3.out.trans' f4)
  have HL4 := Lib.hid (HL.out.on f4)
  have HC4 := Lib.hid (HC3.out.fr (q := fun _ => True) (fun k hk hlt => ⟨trivial, f4.block k hlt (by simp)⟩))
  have HB4 := Lib.hid (HB3.out.fr f4 (by simp))
  have HS4 := Lib.hid (HR.out.s.fr (q := fun _ => True) (fun k hk hlt => ⟨trivial, HF4.out.block k hlt (by simp)⟩))
  clear f4 hcom HL HC3 HF3
  have b3 := HB4.out.cell 3
  simp at b3
  obtain ⟨As, cs, rfl, _⟩ := HS4.out.form
  have lS := HS4.out.len
  have hp1b : decide (-1 ≤ p) = true := by simpa using hp1
  go_wp2
  go_loopg [37] c.states.length (fun gg s37 wr => ∃ k : Nat, k ≤ c.states.length ∧ c.states.length - k ≤ gg ∧ s37 = .int .i64 k ∧ Aside (Fr [] w4 wr))
  case atStart => exact ⟨0, Nat.zero_le _, by omega, rfl, Fr.refl _ _⟩
  case round =>
    obtain ⟨k, hk, hg, rfl, hfr⟩ := hrel
    by_cases hlt : k < c.states.length
    · have hltz : (k : Int) < (c.states.length : Int) := by omega
      have hk0 : (0 : Int) ≤ (k : Int) := by omega
      have HSr := Lib.hid (HS4.out.fr (q := fun _ => True) (w' := wr) (fun x hx hlt => ⟨trivial, hfr.out.block x hlt (by simp)⟩))
      obtain ⟨gs, os, A3, d3, A5, d5, A6, d6, A7, d7, A8, d8, A9, d9, A11, d11, rfl, _, hgs, c0, c1, c2, c3, c4, c5, c6, c7, c8, c9, c10, c11, c12, _⟩ := HSr.out.state_at k hlt
      have hkd : Hid (c.states[k].kind = knd c k) := Lib.hid (by rw [st_at hlt]; rfl)
      generalize c.states[k].kind = kd at *
      have hks := Lib.hid (HP3.out k hlt)
      have HLr := Lib.hid (HL4.out.on hfr.out)
      have HCr := Lib.hid (HC4.out.fr (q := fun _ => True) (w' := wr) (fun x hx hlt => ⟨trivial, hfr.out.block x hlt (by simp)⟩))
      have hcase : ¬ 0 < l.length ∨ (0 < l.length ∧ ¬ kd ≤ 1) ∨ (0 < l.length ∧ kd ≤ 1) := by
        by_cases h1 : 0 < l.length
        · by_cases h2 : kd ≤ 1
          · exact .inr (.inr ⟨h1, h2⟩)
          · exact .inr (.inl ⟨h1, h2⟩)
        · exact .inl h1
      rcases hcase with h1 | ⟨h1, h2⟩ | ⟨h1, h2⟩
      · have hz0 : Hid (false = true → 0 < l.length ∧ knd c k ≤ 1) := Lib.hid (fun h => absurd h (by decide))
        have hlz : ¬ (0 : Int) < (l.length : Int) := by omega
        go_wp2
        generalize hws : wr.alloc (.cells _ 50) = ws
        have HFs : Hid (Fr [] w4 ws) := Lib.hid (by rw [← hws]; exact hfr.out.alloc _)
        have HLs := Lib.hid (HL4.out.on HFs.out)
        have HCs := Lib.hid (HC4.out.fr (q := fun _ => True) (w' := ws) (fun x hx hlt => ⟨trivial, HFs.out.block x hlt (by simp)⟩))
        clear hws c0 c1 c2 c3 c4 c5 c6 c7 c8 c9 c10 c11 c12
        go_loopg [10, 52] l.length (fun gg s10 s52 wi => ∃ (j : Nat) (z : Bool), j ≤ l.length ∧ l.length - j ≤ gg ∧ s52 = .int .i64 j ∧ s10 = .bool z ∧ wi = ws ∧ Aside (z = true → 0 < l.length ∧ knd c k ≤ 1 ∧ ∀ x, x ∈ l.take j → inB c x (k : Int) = true))
        case atStart => exact ⟨0, _, Nat.zero_le _, by omega, rfl, rfl, rfl, (show Aside _ from fun h => ⟨(hz0.out (by first | exact h | trivial | exact absurd h (by decide))).1, (hz0.out (by first | exact h | trivial | exact absurd h (by decide))).2, fun x hx => by simp at hx⟩)⟩
        case round =>
          obtain ⟨j, z, hj, hgj, rfl, rfl, hwi, hz⟩ := hrel
          subst hwi
          by_cases hjt : j < l.length
          · have hjz : (j : Int) < (l.length : Int) := by omega
            have hj0 : (0 : Int) ≤ (j : Int) := by omega
            obtain ⟨gx, ox, rfl, _, hgx, hcx⟩ := HCs.out.int_at j hjt
            have htk := Lib.hid (List.take_succ_eq_append_getElem hjt)
            generalize l[j] = x at *
            cases z with
            | false =>
              go_wp2
              go_roundg (l.length - (j + 1))
              case measure => omega
              case rel => exact ⟨j + 1, false, by omega, by omega, by go_num, rfl, rfl, (show Aside _ from fun h => absurd h (by decide))⟩
            | true =>
              have hin := inside_any wr g c x (k : Int) HLs.out
              cases hib : inB c x (k : Int) with
              | false =>
                rw [hib] at hin
                clear hib
                go_wp2_with (with_reducible refine hin.mono ?_; rintro e w' ⟨rfl, rfl⟩)
                go_roundg (l.length - (j + 1))
                case measure => omega
                case rel => exact ⟨j + 1, false, by omega, by omega, by go_num, rfl, rfl, (show Aside _ from fun h => absurd h (by decide))⟩
              | true =>
                rw [hib] at hin
                have HIB := Lib.hid hib
                clear hib
                go_wp2_with (with_reducible refine hin.mono ?_; rintro e w' ⟨rfl, rfl⟩)
                go_roundg (l.length - (j + 1))
                case measure => omega
                case rel =>
                  refine ⟨j + 1, true, by omega, by omega, by go_num, rfl, rfl, (show Aside _ from fun h => ⟨(hz.out (by first | exact h | trivial | exact absurd h (by decide))).1, (hz.out (by first | exact h | trivial | exact absurd h (by decide))).2.1, fun y hy => ?_⟩)⟩
                  rw [htk.out] at hy
                  rcases List.mem_append.1 hy with hy | hy
                  · exact (hz.out (by first | exact h | trivial | exact absurd h (by decide))).2.2 y hy
                  · rw [List.mem_singleton.1 hy]; exact HIB.out
          · obtain rfl : j = l.length := by omega
            have hjz : ¬ (l.length : Int) < (l.length : Int) := by omega
            cases z with
            | false =>
              go_wp2
              go_roundg (c.states.length - (k + 1))
              case measure => omega
              case rel => exact ⟨k + 1, by omega, by omega, by go_num, HFs.out⟩
            | true =>
              have hfin := Lib.hid (hks.out (hz.out (by first | rfl | trivial)).2.1 (hz.out (by first | rfl | trivial)).1 (fun a ha => (hz.out (by first | rfl | trivial)).2.2 a (by rw [List.take_length]; exact ha)))
              by_cases hkp : (k : Int) = p
              · have hne : ((k : Int) != p) = false := by simp [hkp]
                clear hkp
                go_wp2
                go_roundg (c.states.length - (k + 1))
                case measure => omega
                case rel => exact ⟨k + 1, by omega, by omega, by go_num, HFs.out⟩
              · have hin2 : inB c p (k : Int) = true := by
                  rcases hfin.out with h | h
                  · exact absurd h hkp
                  · exact h
                have hne : ((k : Int) != p) = true := by simpa using hkp
                have hcl := inside_any wr g c p (k : Int) HLs.out
                rw [hin2] at hcl
                clear hkp hin2
                go_wp2_with (with_reducible refine hcl.mono ?_; rintro e w' ⟨rfl, rfl⟩)
                go_roundg (c.states.length - (k + 1))
                case measure => omega
                case rel => exact ⟨k + 1, by omega, by omega, by go_num, HFs.out⟩
      · have hz0 : Hid (false = true → 0 < l.length ∧ knd c k ≤ 1) := Lib.hid (fun h => absurd h (by decide))
        have hlz : (0 : Int) < (l.length : Int) := by omega
        go_wp2
        generalize hws : wr.alloc (.cells _ 50) = ws
        have HFs : Hid (Fr [] w4 ws) := Lib.hid (by rw [← hws]; exact hfr.out.alloc _)
        have HLs := Lib.hid (HL4.out.on HFs.out)
        have HCs := Lib.hid (HC4.out.fr (q := fun _ => True) (w' := ws) (fun x hx hlt => ⟨trivial, HFs.out.block x hlt (by simp)⟩))
        clear hws c0 c1 c2 c3 c4 c5 c6 c7 c8 c9 c10 c11 c12
        go_loopg [10, 52] l.length (fun gg s10 s52 wi => ∃ (j : Nat) (z : Bool), j ≤ l.length ∧ l.length - j ≤ gg ∧ s52 = .int .i64 j ∧ s10 = .bool z ∧ wi = ws ∧ Aside (z = true → 0 < l.length ∧ knd c k ≤ 1 ∧ ∀ x, x ∈ l.take j → inB c x (k : Int) = true))
        case atStart => exact ⟨0, _, Nat.zero_le _, by omega, rfl, rfl, rfl, (show Aside _ from fun h => ⟨(hz0.out (by first | exact h | trivial | exact absurd h (by decide))).1, (hz0.out (by first | exact h | trivial | exact absurd h (by decide))).2, fun x hx => by simp at hx⟩)⟩
        case round =>
          obtain ⟨j, z, hj, hgj, rfl, rfl, hwi, hz⟩ := hrel
          subst hwi
          by_cases hjt : j < l.length
          · have hjz : (j : Int) < (l.length : Int) := by omega
            have hj0 : (0 : Int) ≤ (j : Int) := by omega
            obtain ⟨gx, ox, rfl, _, hgx, hcx⟩ := HCs.out.int_at j hjt
            have htk := Lib.hid (List.take_succ_eq_append_getElem hjt)
            generalize l[j] = x at *
            cases z with
            | false =>
              go_wp2
              go_roundg (l.length - (j + 1))
              case measure => omega
              case rel => exact ⟨j + 1, false, by omega, by omega, by go_num, rfl, rfl, (show Aside _ from fun h => absurd h (by decide))⟩
            | true =>
              have hin := inside_any wr g c x (k : Int) HLs.out
              cases hib : inB c x (k : Int) with
              | false =>
                rw [hib] at hin
                clear hib
                go_wp2_with (with_reducible refine hin.mono ?_; rintro e w' ⟨rfl, rfl⟩)
                go_roundg (l.length - (j + 1))
                case measure => omega
                case rel => exact ⟨j + 1, false, by omega, by omega, by go_num, rfl, rfl, (show Aside _ from fun h => absurd h (by decide))⟩
              | true =>
                rw [hib] at hin
                have HIB := Lib.hid hib
                clear hib
                go_wp2_with (with_reducible refine hin.mono ?_; rintro e w' ⟨rfl, rfl⟩)
                go_roundg (l.length - (j + 1))
                case measure => omega
                case rel =>
                  refine ⟨j + 1, true, by omega, by omega, by go_num, rfl, rfl, (show Aside _ from fun h => ⟨(hz.out (by first | exact h | trivial | exact absurd h (by decide))).1, (hz.out (by first | exact h | trivial | exact absurd h (by decide))).2.1, fun y hy => ?_⟩)⟩
                  rw [htk.out] at hy
                  rcases List.mem_append.1 hy with hy | hy
                  · exact (hz.out (by first | exact h | trivial | exact absurd h (by decide))).2.2 y hy
                  · rw [List.mem_singleton.1 hy]; exact HIB.out
          · obtain rfl : j = l.length := by omega
            have hjz : ¬ (l.length : Int) < (l.length : Int) := by omega
            cases z with
            | false =>
              go_wp2
              go_roundg (c.states.length - (k + 1))
              case measure => omega
              case rel => exact ⟨k + 1, by omega, by omega, by go_num, HFs.out⟩
            | true =>
              have hfin := Lib.hid (hks.out (hz.out (by first | rfl | trivial)).2.1 (hz.out (by first | rfl | trivial)).1 (fun a ha => (hz.out (by first | rfl | trivial)).2.2 a (by rw [List.take_length]; exact ha)))
              by_cases hkp : (k : Int) = p
              · have hne : ((k : Int) != p) = false := by simp [hkp]
                clear hkp
                go_wp2
                go_roundg (c.states.length - (k + 1))
                case measure => omega
                case rel => exact ⟨k + 1, by omega, by omega, by go_num, HFs.out⟩
              · have hin2 : inB c p (k : Int) = true := by
                  rcases hfin.out with h | h
                  · exact absurd h hkp
                  · exact h
                have hne : ((k : Int) != p) = true := by simpa using hkp
                have hcl := inside_any wr g c p (k : Int) HLs.out
                rw [hin2] at hcl
                clear hkp hin2
                go_wp2_with (with_reducible refine hcl.mono ?_; rintro e w' ⟨rfl, rfl⟩)
                go_roundg (c.states.length - (k + 1))
                case measure => omega
                case rel => exact ⟨k + 1, by omega, by omega, by go_num, HFs.out⟩
      · have hz0 : Hid (true = true → 0 < l.length ∧ knd c k ≤ 1) := Lib.hid (fun _ => ⟨h1, by rw [← hkd.out]; exact h2⟩)
        have hlz : (0 : Int) < (l.length : Int) := by omega
        go_wp2
        generalize hws : wr.alloc (.cells _ 50) = ws
        have HFs : Hid (Fr [] w4 ws) := Lib.hid (by rw [← hws]; exact hfr.out.alloc _)
        have HLs := Lib.hid (HL4.out.on HFs.out)
        have HCs := Lib.hid (HC4.out.fr (q := fun _ => True) (w' := ws) (fun x hx hlt => ⟨trivial, HFs.out.block x hlt (by simp)⟩))
        clear hws c0 c1 c2 c3 c4 c5 c6 c7 c8 c9 c10 c11 c12
        go_loopg [10, 52] l.length (fun gg s10 s52 wi => ∃ (j : Nat) (z : Bool), j ≤ l.length ∧ l.length - j ≤ gg ∧ s52 = .int .i64 j ∧ s10 = .bool z ∧ wi = ws ∧ Aside (z = true → 0 < l.length ∧ knd c k ≤ 1 ∧ ∀ x, x ∈ l.take j → inB c x (k : Int) = true))
        case atStart => exact ⟨0, _, Nat.zero_le _, by omega, rfl, rfl, rfl, (show Aside _ from fun h => ⟨(hz0.out (by first | exact h | trivial | exact absurd h (by decide))).1, (hz0.out (by first | exact h | trivial | exact absurd h (by decide))).2, fun x hx => by simp at hx⟩)⟩
        case round =>
          obtain ⟨j, z, hj, hgj, rfl, rfl, hwi, hz⟩ := hrel
          subst hwi
          by_cases hjt : j < l.length
          · have hjz : (j : Int) < (l.length : Int) := by omega
            have hj0 : (0 : Int) ≤ (j : Int) := by omega
            obtain ⟨gx, ox, rfl, _, hgx, hcx⟩ := HCs.out.int_at j hjt
            have htk := Lib.hid (List.take_succ_eq_append_getElem hjt)
            generalize l[j] = x at *
            cases z with
            | false =>
              go_wp2
              go_roundg (l.length - (j + 1))
              case measure => omega
              case rel => exact ⟨j + 1, false, by omega, by omega, by go_num, rfl, rfl, (show Aside _ from fun h => absurd h (by decide))⟩
            | true =>
              have hin := inside_any wr g c x (k : Int) HLs.out
              cases hib : inB c x (k : Int) with
              | false =>
                rw [hib] at hin
                clear hib
                go_wp2_with (with_reducible refine hin.mono ?_; rintro e w' ⟨rfl, rfl⟩)
                go_roundg (l.length - (j + 1))
                case measure => omega
                case rel => exact ⟨j + 1, false, by omega, by omega, by go_num, rfl, rfl, (show Aside _ from fun h => absurd h (by decide))⟩
              | true =>
                rw [hib] at hin
                have HIB := Lib.hid hib
                clear hib
                go_wp2_with (with_reducible refine hin.mono ?_; rintro e w' ⟨rfl, rfl⟩)
                go_roundg (l.length - (j + 1))
                case measure => omega
                case rel =>
                  refine ⟨j + 1, true, by omega, by omega, by go_num, rfl, rfl, (show Aside _ from fun h => ⟨(hz.out (by first | exact h | trivial | exact absurd h (by decide))).1, (hz.out (by first | exact h | trivial | exact absurd h (by decide))).2.1, fun y hy => ?_⟩)⟩
                  rw [htk.out] at hy
                  rcases List.mem_append.1 hy with hy | hy
                  · exact (hz.out (by first | exact h | trivial | exact absurd h (by decide))).2.2 y hy
                  · rw [List.mem_singleton.1 hy]; exact HIB.out
          · obtain rfl : j = l.length := by omega
            have hjz : ¬ (l.length : Int) < (l.length : Int) := by omega
            cases z with
            | false =>
              go_wp2
              go_roundg (c.states.length - (k + 1))
              case measure => omega
              case rel => exact ⟨k + 1, by omega, by omega, by go_num, HFs.out⟩
            | true =>
              have hfin := Lib.hid (hks.out (hz.out (by first | rfl | trivial)).2.1 (hz.out (by first | rfl | trivial)).1 (fun a ha => (hz.out (by first | rfl | trivial)).2.2 a (by rw [List.take_length]; exact ha)))
              by_cases hkp : (k : Int) = p
              · have hne : ((k : Int) != p) = false := by simp [hkp]
                clear hkp
                go_wp2
                go_roundg (c.states.length - (k + 1))
                case measure => omega
                case rel => exact ⟨k + 1, by omega, by omega, by go_num, HFs.out⟩
              · have hin2 : inB c p (k : Int) = true := by
                  rcases hfin.out with h | h
                  · exact absurd h hkp
                  · exact h
                have hne : ((k : Int) != p) = true := by simpa using hkp
                have hcl := inside_any wr g c p (k : Int) HLs.out
                rw [hin2] at hcl
                clear hkp hin2
                go_wp2_with (with_reducible refine hcl.mono ?_; rintro e w' ⟨rfl, rfl⟩)
                go_roundg (c.states.length - (k + 1))
                case measure => omega
                case rel => exact ⟨k + 1, by omega, by omega, by go_num, HFs.out⟩
    · obtain rfl : k = c.states.length := by omega
      have hltz : ¬ (c.states.length : Int) < (c.states.length : Int) := by omega
      go_wp2
      obtain ⟨wo, rfl⟩ : ∃ wo : World, wo = wr := ⟨_, rfl⟩
      have HLo := Lib.hid (HL4.out.on hfr.out)
      have HCo := Lib.hid (HC4.out.fr (q := fun _ => True) (w' := wo) (fun x hx hlt => ⟨trivial, hfr.out.block x hlt (by simp)⟩))
      go_loopg [80] l.length (fun gg s80 wi => ∃ j : Nat, j ≤ l.length ∧ l.length - j ≤ gg ∧ s80 = .int .i64 j ∧ wi = wo)
      case atStart => exact ⟨0, Nat.zero_le _, by omega, rfl, rfl⟩
      case round =>
        obtain ⟨j, hj, hgj, rfl, hwi⟩ := hrel
        subst hwi
        by_cases hjt : j < l.length
        · have hjz : (j : Int) < (l.length : Int) := by omega
          have hj0 : (0 : Int) ≤ (j : Int) := by omega
          obtain ⟨gx, ox, rfl, _, hgx, hcx⟩ := HCo.out.int_at j hjt
          have hm := Lib.hid (List.getElem_mem hjt)
          have hq : Hid (0 ≤ p → inB c l[j] p = true) := Lib.hid (fun h => HP2.out h _ hm.out)
          generalize l[j] = x at *
          by_cases hp0 : 0 ≤ p
          · have hin := inside_any wr g c x p HLo.out
            rw [hq.out hp0] at hin
            go_wp2_with (with_reducible refine hin.mono ?_; rintro e w' ⟨rfl, rfl⟩)
            go_roundg (l.length - (j + 1))
            case measure => omega
            case rel => exact ⟨j + 1, by omega, by omega, by go_num, rfl⟩
          · have hp0d : decide (0 ≤ p) = false := by simpa using hp0
            go_wp2
            go_roundg (l.length - (j + 1))
            case measure => omega
            case rel => exact ⟨j + 1, by omega, by omega, by go_num, rfl⟩
        · obtain rfl : j = l.length := by omega
          have hjz : ¬ (l.length : Int) < (l.length : Int) := by omega
          go_wp2
          go_ret
          exact ⟨rfl, HF4.out.trans' hfr.out⟩
end Go.Proofs.Ytekfbafljilchaa
