/- Kids, Chart. -/
import Derived.Test.YtekfbafljilchaaB2
import Derived.Test.YtekfbafljilchaaC0
set_option linter.unusedVariables false
set_option linter.unusedSimpArgs false
namespace Go.Proofs.Ytekfbafljilchaa
open Go.RowKit Go.Lib

def kidsV (c : DChart) (a : Int) : List Int := if isSt c a then kidsOf c a.toNat else []
set_option maxRecDepth 100000 in
set_option maxHeartbeats 4000000 in
theorem kids_any (W : World) (g : Nat) (c : DChart) (a : Int) (hL : Lat (fun _ => True) W g c) :
    Calls Try.prog 43 #[.pointer (some ⟨g, 0, none⟩), .int .i64 a] W (FromPost rInt 3 W W (kidsV c a)) := by
  have hst := state_any W g c a hL
  have hg := hL.lt
  obtain ⟨As, cs, At, ct, Aa, ca, Ak, ck, h⟩ := hL.open_
  have g9 := h.k
  have H := Lib.hid h
  clear h hL
  cases hs : isSt c a with
  | false =>
    simp only [hs] at hst
    have HZ : Hid (kidsV c a = []) := Lib.hid (by simp [kidsV, hs])
    clear hs
    go_enter Try.func43, Try.ntmps43
    go_wp2_with fail
    refine hst.mono ?_
    rintro e w' ⟨rfl, rfl⟩
    go_wp2
    go_ret
    rw [HZ.out]
    exact ⟨none, 0, rfl, Fr.refl _ _, Sl.nil _ _ _⟩
  | true =>
    obtain ⟨b, rfl, hb⟩ := isSt_true hs
    simp only [hs] at hst
    have HZ : Hid (kidsV c (b : Int) = kidsOf c b) := Lib.hid (by simp [kidsV, hs])
    clear hs
    obtain ⟨gk, ok, Bk, dk, rfl, kc, hks⟩ := H.out.kd hb
    have hbz : (b : Int) < (c.states.length : Int) := by omega
    have hb0 : (0 : Int) ≤ (b : Int) := by omega
    have HC := int_from W W _ _ _ (Fr.refl _ _) hks
    clear hks
    go_enter Try.func43, Try.ntmps43
    go_wp2_with fail
    refine hst.mono ?_
    rintro e w' ⟨rfl, rfl⟩
    go_wp2_with fail
    refine HC.mono ?_
    rintro e w' ⟨A', d', rfl, f1, s1⟩
    go_wp2
    go_ret
    rw [HZ.out]
    exact ⟨_, _, rfl, f1, s1⟩
/-- What Chart hands out: the chart's values as they lie. -/
def ChartPost (W : World) (g : Nat) (c : DChart) (e : Ending) (w' : World) : Prop :=
  ∃ vS vT vB vD vI, e = .returned (chartV c vS vT vB vD vI) ∧ Fr [] W w' ∧ Rows8 (fun _ => True) w' c vS vT vB vD vI
set_option maxRecDepth 100000 in
set_option maxHeartbeats 4000000 in
theorem chart_any (W : World) (g : Nat) (c : DChart) (hL : Lat (fun _ => True) W g c) :
    Calls Try.prog 28 #[.pointer (some ⟨g, 0, none⟩)] W (ChartPost W g c) := by
  have hg := hL.lt
  have HL := Lib.hid hL
  obtain ⟨vs, vt, vb, vd, vi, va, vk, hblk, hS, hT, hB, hD, hI, hA, hK⟩ := hL
  have HP : Hid (∀ w', Fr [] W w' → Rows8 (fun _ => True) w' c vs vt vb vd vi) := Lib.hid (fun w' f => Rows8.fr (p := fun _ => True) (w := W) ⟨hS, hT, hB, hD, hI⟩ (fun k _ hk => ⟨trivial, f.block k hk (by simp)⟩))
  obtain ⟨As, cs, rfl, _⟩ := hS.form
  obtain ⟨At, ct, rfl, _⟩ := hT.form
  obtain ⟨Ab, cb, rfl, _⟩ := hB.form
  obtain ⟨Ad, cd, rfl, _⟩ := hD.form
  obtain ⟨Ai, ci, rfl, _⟩ := hI.form
  have c0 := hblk.cell 0
  have c1 := hblk.cell 1
  have c2 := hblk.cell 2
  have c3 := hblk.cell 3
  have c4 := hblk.cell 4
  have c5 := hblk.cell 5
  have c6 := hblk.cell 6
  have c7 := hblk.cell 7
  simp at c0 c1 c2 c3 c4 c5 c6 c7
  clear hS hT hB hD hI hA hK hblk
  go_enter Try.func28, Try.ntmps28
  go_wp2
  refine bodyPost_ret (v := chartV c (.slice As c.states.length cs) (.slice At c.trans.length ct) (.slice Ab c.blocks.length cb) (.slice Ad c.data.length cd) (.slice Ai c.invokes.length ci)) (by simp [results, Try.results28, go_sem, chartV]) rfl ?_
  have f := (Fr.refl [] W).alloc (.cells #[.string c.name, .bool c.late, .int .i64 c.script, .slice As c.states.length cs, .slice At c.trans.length ct, .slice Ab c.blocks.length cb, .slice Ad c.data.length cd, .slice Ai c.invokes.length ci] 28)
  exact ⟨_, _, _, _, _, rfl, f, HP.out _ f⟩

set_option maxRecDepth 100000 in
set_option maxHeartbeats 4000000 in
theorem among_any (W : World) (a : Int) (l : List Int) (A : Option Addr) (d : Nat) (q : Nat → Prop) (hC : Sl rInt q W (.slice A l.length d) l) :
    Calls Try.prog 17 #[.int .i64 a, .slice A l.length d] W fun e w' => e = .returned (.bool (l.contains a)) ∧ W = w' := by
  have HC := Lib.hid hC
  have lC := hC.len
  obtain ⟨z, hz⟩ : ∃ z, z = l.contains a := ⟨_, rfl⟩
  rw [← hz]
  have HZ := Lib.hid hz
  clear hC hz
  go_enter Try.func17, Try.ntmps17
  go_wp2
  go_loopg [5] l.length (fun gg s5 wr => ∃ i : Nat, i ≤ l.length ∧ l.length - i ≤ gg ∧ s5 = .int .i64 i ∧ wr = W ∧ Aside (∀ j (h : j < l.length), j < i → l[j] ≠ a))
  case atStart => exact ⟨0, Nat.zero_le _, by omega, rfl, rfl, (show Aside _ from fun j _ h => absurd h (Nat.not_lt_zero _))⟩
  case round =>
    obtain ⟨i, hi, hgi, rfl, rfl, hno⟩ := hrel
    by_cases hit : i < l.length
    · have hiz : (i : Int) < (l.length : Int) := by omega
      obtain ⟨gx, ox, rfl, _, hgx, hx⟩ := HC.out.int_at i hit
      by_cases he : l[i] = a
      · have hb : (l[i] == a) = true := by simpa using he
        have HT : Hid (z = true) := Lib.hid (by rw [HZ.out, ← he]; simp)
        clear he
        go_wp2
        go_ret
        exact ⟨by rw [HT.out]; rfl, rfl⟩
      · have hb : (l[i] == a) = false := by simpa using he
        have HE := Lib.hid he
        clear he
        go_wp2
        go_roundg (l.length - (i + 1))
        case measure => omega
        case rel =>
          refine ⟨i + 1, by omega, by omega, by go_num, rfl, (show Aside _ from fun j h hj => ?_)⟩
          rcases Nat.lt_succ_iff_lt_or_eq.1 hj with hj | rfl
          · exact hno.out j h hj
          · exact HE.out
    · obtain rfl : i = l.length := by omega
      have hiz : ¬ (l.length : Int) < (l.length : Int) := by omega
      have HT : Hid (z = false) := Lib.hid (by
        rw [HZ.out]
        simp only [List.contains_eq_mem, decide_eq_false_iff_not]
        intro hm
        obtain ⟨j, hj, e⟩ := List.getElem_of_mem hm
        exact hno.out j hj hj e)
      go_wp2
      go_ret
      exact ⟨by rw [HT.out]; rfl, rfl⟩
end Go.Proofs.Ytekfbafljilchaa
