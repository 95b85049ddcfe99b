/- Above, Kids, Chart. -/
import Derived.Test.YtekfbafljilchaaB2
import Derived.Test.YtekfbafljilchaaE6
import Derived.Deep.AppendLies
import Derived.Test.YtekfbafljilchaaC1
set_option linter.unusedVariables false
set_option linter.unusedSimpArgs false
namespace Go.Proofs.Ytekfbafljilchaa
open Go.RowKit Go.Lib

/-- From p outwards, up to top. -/
def abvF (c : DChart) (top : Int) : Nat → Int → List Int
  | 0, _ => []
  | f + 1, p => if p < 0 ∨ p = top then [] else p :: abvF c top f (par c p.toNat)
def abv (c : DChart) (a top : Int) : List Int := if isSt c a then abvF c top (ns c) (par c a.toNat) else []
theorem abvF_neg (c : DChart) (top : Int) (f : Nat) : abvF c top f (-1) = [] := by cases f <;> simp [abvF]
theorem abvF_top (c : DChart) (f : Nat) (j : Int) : abvF c j f j = [] := by cases f <;> simp [abvF]
theorem abvF_step (c : DChart) (top : Int) (f j : Nat) (h : (j : Int) ≠ top) : abvF c top (f + 1) (j : Int) = (j : Int) :: abvF c top f (par c j) := by
  rw [abvF, if_neg (by omega)]
  simp
def RowPost (W : World) (l : List Int) (e : Ending) (w' : World) : Prop :=
  ∃ v, e = .returned v ∧ w'.ownsRow W.heap.size 3 1 v l.length (l.map (.int .i64)) ∧ Fr [] W w'
theorem Tree.par_cases {c : DChart} (T : Tree c) {j : Nat} (h : j < ns c) : par c j = -1 ∨ ∃ i : Nat, par c j = (i : Int) ∧ i < j := by
  rcases Nat.eq_zero_or_pos j with rfl | h0
  · exact .inl T.top
  · exact .inr ⟨up c j, T.par_up h0 h, T.up_lt h0 h⟩

set_option maxRecDepth 100000 in
set_option maxHeartbeats 16000000 in
theorem above_any (W : World) (g : Nat) (c : DChart) (a top : Int) (T : Tree c) (hL : Lat (fun _ => True) W g c) :
    Calls Try.prog 41 #[.pointer (some ⟨g, 0, none⟩), .int .i64 a, .int .i64 top] W (RowPost W (abv c a top)) := by
  have hst := state_any W g c a hL
  have hg := hL.lt
  obtain ⟨As, cs, At, ct, Aa, ca, Ak, ck, h⟩ := hL.open_
  have g3 := h.s
  have H := Lib.hid h
  have HT := Lib.hid T
  have hm : c.states.length ≤ 128 := T.many
  clear h hL T
  have hpc : ∀ j : Nat, j < c.states.length → par c j = -1 ∨ ∃ i : Nat, par c j = (i : Int) ∧ i < j := fun j h => HT.out.par_cases h
  have HPC := Lib.hid hpc
  clear hpc
  cases hs : isSt c a with
  | false =>
    simp only [hs] at hst
    have HZ : Hid (abv c a top = []) := Lib.hid (by simp [abv, hs])
    clear hs
    go_enter Try.func41, Try.ntmps41
    go_wp2_with fail
    refine hst.mono ?_
    rintro e w' ⟨rfl, rfl⟩
    go_wp2
    go_ret
    exact ⟨_, rfl, by rw [HZ.out]; exact World.ownsRow_nil _ _ _ _, Fr.refl _ _⟩
  | true =>
    obtain ⟨b, rfl, hb⟩ := isSt_true hs
    simp only [hs] at hst
    have HZ : Hid (abv c (b : Int) top = abvF c top c.states.length (par c b)) := Lib.hid (by simp [abv, hs])
    clear hs
    obtain ⟨gs, os, rfl, k1, k2⟩ := H.out.st hb
    have hbz : (b : Int) < (c.states.length : Int) := by omega
    have hb0 : (0 : Int) ≤ (b : Int) := by omega
    have HP := Lib.hid (HPC.out b hb)
    have HI := Lib.hid info3
    clear k1
    go_enter Try.func41, Try.ntmps41
    go_wp2_with fail
    refine hst.mono ?_
    rintro e w' ⟨rfl, rfl⟩
    go_wp2
    go_loopg [7, 8] c.states.length (fun gg s7 s8 wr => ∃ (f : Nat) (acc : List Int) (p : Int) (v7 : Value), v7 = s7 ∧ f ≤ gg ∧ s8 = .int .i64 p ∧ (p = -1 ∨ ∃ j : Nat, p = (j : Int) ∧ j < f ∧ j < c.states.length) ∧ acc.length + f ≤ c.states.length ∧ Aside (acc ++ abvF c top f p = abvF c top c.states.length (par c b)) ∧
      Aside (wr.ownsRow W.heap.size 3 1 v7 acc.length (acc.map (.int .i64))) ∧ Aside (Fr [] W wr))
    case atStart =>
      refine ⟨c.states.length, [], par c b, _, rfl, Nat.le_refl _, rfl, ?_, by simp, (show Aside _ from List.nil_append _), (show Aside _ from World.ownsRow_nil _ _ _ _), Fr.refl _ _⟩
      rcases HP.out with h | ⟨i, h, hi⟩
      · exact .inl h
      · exact .inr ⟨i, h, by omega, by omega⟩
    case round =>
      obtain ⟨f, acc, p, v7, rfl, hfg, rfl, hp, hlen, hacc, hown, hfr⟩ := hrel
      have hgw : g < wr.heap.size := Nat.lt_of_lt_of_le hg hfr.out.size
      have g3' : wr.cell? ⟨g, 3, none⟩ = some (.slice (some ⟨gs, os, none⟩) c.states.length cs) := (World.cell?_of_block (hfr.out.block g hg (by simp))).trans g3
      rcases hp with rfl | ⟨j, rfl, hjf, hjn⟩
      · have HD : Hid (acc = abv c (b : Int) top) := Lib.hid (by
          have h := hacc.out
          rw [abvF_neg, List.append_nil] at h
          rw [HZ.out, h])
        go_wp2
        go_ret
        exact ⟨_, rfl, by rw [← HD.out]; exact hown.out, hfr.out⟩
      · have hj0 : (0 : Int) ≤ (j : Int) := by omega
        by_cases hjt : (j : Int) = top
        · have HD : Hid (acc = abv c (b : Int) top) := Lib.hid (by
            have h := hacc.out
            rw [hjt, abvF_top, List.append_nil] at h
            rw [HZ.out, h])
          have hne : ((j : Int) != top) = false := by simp [hjt]
          clear hjt
          go_wp2
          go_ret
          exact ⟨_, rfl, by rw [← HD.out]; exact hown.out, hfr.out⟩
        · have hne : ((j : Int) != top) = true := by simpa using hjt
          have HJT := Lib.hid hjt
          clear hjt
          obtain ⟨f, rfl⟩ : ∃ f', f = f' + 1 := ⟨f - 1, by omega⟩
          obtain ⟨gs2, os2, e9, k1, k3⟩ := H.out.st hjn
          injection e9 with e9
          injection e9 with e9 e10
          subst e9 e10
          have hgl := World.block_lt_of_cell? W _ k3
          have hjz : (j : Int) < (c.states.length : Int) := by omega
          have HOWN := Lib.hid hown.out
          have hnb := Lib.hid (heap_alloc_new wr (.cells #[.int .i64 (j : Int)] 3))
          have HAP := Lib.hid (HOWN.out.alloc (.cells #[.int .i64 (j : Int)] 3))
          have hBw := (hfr.out.alloc (.cells #[.int .i64 (j : Int)] 3)).size
          obtain ⟨i0, hi0, hz0, hz1, hz2⟩ := info_parts HI.out
          have HPJ := Lib.hid (HPC.out j hjn)
          clear k1 hown
          go_wp2_with (at_builtin; refine wpList_append_lies _ rfl _ _ 29 rfl W.heap.size 3 i0 _ 1 8 Try.underlying29 hi0 hz0 hz1 hz2 rfl (by decide) v7 acc.length (acc.map (.int .i64)) rfl HAP.out ⟨_, 0, none⟩ 1 1 [.int .i64 (j : Int)] rfl rfl (World.news_of_block hnb.out) (by simp [Value.oneCell']) (by decide) (by simp only [maxLen]; omega) (by omega) hBw _ rfl ?_)
          intro g9 cap9 w9 hown9 hgrow hat hlt9
          have f9 := (hfr.out.alloc (.cells #[.int .i64 (j : Int)] 3)).trans (Fr.of_grown (S := v7.ownBlock.toList) hgrow (fun b hb _ => by simp [hb])) (fun b hb hlt => by
            have := (own_blk3 HOWN.out (by simpa using hb)).1
            omega)
          have HF9 := Lib.hid f9
          have HO9 : Hid (w9.ownsRow W.heap.size 3 1 (.slice (some ⟨g9, 0, none⟩) (acc.length + 1) cap9) (acc ++ [(j : Int)]).length ((acc ++ [(j : Int)]).map (.int .i64))) := Lib.hid (by simpa using hown9)
          have g3'' : w9.cell? ⟨g, 3, none⟩ = some (.slice (some ⟨gs, os, none⟩) c.states.length cs) := (World.cell?_of_block (f9.block g hg (by simp))).trans g3
          have k3' : w9.cell? ⟨gs, os + j * 13 + 2, none⟩ = some (.int .i64 (par c j)) := (World.cell?_of_block (f9.block gs hgl (by simp))).trans k3
          clear f9 hown9 hgrow
          go_wp2
          go_roundg f
          case measure => omega
          case rel =>
            refine ⟨f, acc ++ [(j : Int)], par c j, _, rfl, Nat.le_refl _, by go_num, ?_, by simp; omega, (show Aside _ from ?_), HO9.out, HF9.out⟩
            · rcases HPJ.out with h | ⟨i, h, hi⟩
              · exact .inl h
              · exact .inr ⟨i, h, by omega, by omega⟩
            · have h := hacc.out
              rw [abvF_step c top f j HJT.out] at h
              rw [List.append_assoc]
              exact h
end Go.Proofs.Ytekfbafljilchaa

/- Kids, Chart. -/
set_option linter.unusedVariables false
set_option linter.unusedSimpArgs false
namespace Go.Proofs.Ytekfbafljilchaa
open Go.RowKit Go.Lib

def kidsV (c : DChart) (a : Int) : List Int := if isSt c a then kidsOf c a.toNat else []
set_option maxRecDepth 100000 in
set_option maxHeartbeats 4000000 in
theorem kids_any (W : World) (g : Nat) (c : DChart) (a : Int) (hL : Lat (fun _ => True) W g c) :
    Calls Try.prog 43 #[.pointer (some ⟨g, 0, none⟩), .int .i64 a] W (FromPost rInt 3 W W (kidsV c a)) := by
  have hst := state_any W g c a hL
  have hg := hL.lt
  obtain ⟨As, cs, At, ct, Aa, ca, Ak, ck, h⟩ := hL.open_
  have g9 := h.k
  have H := Lib.hid h
  clear h hL
  cases hs : isSt c a with
  | false =>
    simp only [hs] at hst
    have HZ : Hid (kidsV c a = []) := Lib.hid (by simp [kidsV, hs])
    clear hs
    go_enter Try.func43, Try.ntmps43
    go_wp2_with fail
    refine hst.mono ?_
    rintro e w' ⟨rfl, rfl⟩
    go_wp2
    go_ret
    rw [HZ.out]
    exact ⟨none, 0, rfl, Fr.refl _ _, Sl.nil _ _ _⟩
  | true =>
    obtain ⟨b, rfl, hb⟩ := isSt_true hs
    simp only [hs] at hst
    have HZ : Hid (kidsV c (b : Int) = kidsOf c b) := Lib.hid (by simp [kidsV, hs])
    clear hs
    obtain ⟨gk, ok, Bk, dk, rfl, kc, hks⟩ := H.out.kd hb
    have hbz : (b : Int) < (c.states.length : Int) := by omega
    have hb0 : (0 : Int) ≤ (b : Int) := by omega
    have HC := int_from W W _ _ _ (Fr.refl _ _) hks
    clear hks
    go_enter Try.func43, Try.ntmps43
    go_wp2_with fail
    refine hst.mono ?_
    rintro e w' ⟨rfl, rfl⟩
    go_wp2_with fail
    refine HC.mono ?_
    rintro e w' ⟨A', d', rfl, f1, s1⟩
    go_wp2
    go_ret
    rw [HZ.out]
    exact ⟨_, _, rfl, f1, s1⟩
/-- What Chart hands out: the chart's values as they lie. -/
def ChartPost (W : World) (g : Nat) (c : DChart) (e : Ending) (w' : World) : Prop :=
  ∃ vS vT vB vD vI, e = .returned (chartV c vS vT vB vD vI) ∧ Fr [] W w' ∧ Rows8 (fun _ => True) w' c vS vT vB vD vI
set_option maxRecDepth 100000 in
set_option maxHeartbeats 4000000 in
theorem chart_any (W : World) (g : Nat) (c : DChart) (hL : Lat (fun _ => True) W g c) :
    Calls Try.prog 28 #[.pointer (some ⟨g, 0, none⟩)] W (ChartPost W g c) := by
  have hg := hL.lt
  have HL := Lib.hid hL
  obtain ⟨vs, vt, vb, vd, vi, va, vk, hblk, hS, hT, hB, hD, hI, hA, hK⟩ := hL
  have HP : Hid (∀ w', Fr [] W w' → Rows8 (fun _ => True) w' c vs vt vb vd vi) := Lib.hid (fun w' f => Rows8.fr (p := fun _ => True) (w := W) ⟨hS, hT, hB, hD, hI⟩ (fun k _ hk => ⟨trivial, f.block k hk (by simp)⟩))
  obtain ⟨As, cs, rfl, _⟩ := hS.form
  obtain ⟨At, ct, rfl, _⟩ := hT.form
  obtain ⟨Ab, cb, rfl, _⟩ := hB.form
  obtain ⟨Ad, cd, rfl, _⟩ := hD.form
  obtain ⟨Ai, ci, rfl, _⟩ := hI.form
  have c0 := hblk.cell 0
  have c1 := hblk.cell 1
  have c2 := hblk.cell 2
  have c3 := hblk.cell 3
  have c4 := hblk.cell 4
  have c5 := hblk.cell 5
  have c6 := hblk.cell 6
  have c7 := hblk.cell 7
  simp at c0 c1 c2 c3 c4 c5 c6 c7
  clear hS hT hB hD hI hA hK hblk
  go_enter Try.func28, Try.ntmps28
  go_wp2
  refine bodyPost_ret (v := chartV c (.slice As c.states.length cs) (.slice At c.trans.length ct) (.slice Ab c.blocks.length cb) (.slice Ad c.data.length cd) (.slice Ai c.invokes.length ci)) (by simp [results, Try.results28, go_sem, chartV]) rfl ?_
  have f := (Fr.refl [] W).alloc (.cells #[.string c.name, .bool c.late, .int .i64 c.script, .slice As c.states.length cs, .slice At c.trans.length ct, .slice Ab c.blocks.length cb, .slice Ad c.data.length cd, .slice Ai c.invokes.length ci] 28)
  exact ⟨_, _, _, _, _, rfl, f, HP.out _ f⟩

set_option maxRecDepth 100000 in
set_option maxHeartbeats 4000000 in
theorem among_any (W : World) (a : Int) (l : List Int) (A : Option Addr) (d : Nat) (q : Nat → Prop) (hC : Sl rInt q W (.slice A l.length d) l) :
    Calls Try.prog 17 #[.int .i64 a, .slice A l.length d] W fun e w' => e = .returned (.bool (l.contains a)) ∧ W = w' := by
  have HC := Lib.hid hC
  have lC := hC.len
  obtain ⟨z, hz⟩ : ∃ z, z = l.contains a := ⟨_, rfl⟩
  rw [← hz]
  have HZ := Lib.hid hz
  clear hC hz
  go_enter Try.func17, Try.ntmps17
  go_wp2
  go_loopg [5] l.length (fun gg s5 wr => ∃ i : Nat, i ≤ l.length ∧ l.length - i ≤ gg ∧ s5 = .int .i64 i ∧ wr = W ∧ Aside (∀ j (h : j < l.length), j < i → l[j] ≠ a))
  case atStart => exact ⟨0, Nat.zero_le _, by omega, rfl, rfl, (show Aside _ from fun j _ h => absurd h (Nat.not_lt_zero _))⟩
  case round =>
    obtain ⟨i, hi, hgi, rfl, rfl, hno⟩ := hrel
    by_cases hit : i < l.length
    · have hiz : (i : Int) < (l.length : Int) := by omega
      obtain ⟨gx, ox, rfl, _, hgx, hx⟩ := HC.out.int_at i hit
      by_cases he : l[i] = a
      · have hb : (l[i] == a) = true := by simpa using he
        have HT : Hid (z = true) := Lib.hid (by rw [HZ.out, ← he]; simp)
        clear he
        go_wp2
        go_ret
        exact ⟨by rw [HT.out]; rfl, rfl⟩
      · have hb : (l[i] == a) = false := by simpa using he
        have HE := Lib.hid he
        clear he
        go_wp2
        go_roundg (l.length - (i + 1))
        case measure => omega
        case rel =>
          refine ⟨i + 1, by omega, by omega, by go_num, rfl, (show Aside _ from fun j h hj => ?_)⟩
          rcases Nat.lt_succ_iff_lt_or_eq.1 hj with hj | rfl
          · exact hno.out j h hj
          · exact HE.out
    · obtain rfl : i = l.length := by omega
      have hiz : ¬ (l.length : Int) < (l.length : Int) := by omega
      have HT : Hid (z = false) := Lib.hid (by
        rw [HZ.out]
        simp only [List.contains_eq_mem, decide_eq_false_iff_not]
        intro hm
        obtain ⟨j, hj, e⟩ := List.getElem_of_mem hm
        exact hno.out j hj hj e)
      go_wp2
      go_ret
      exact ⟨by rw [HT.out]; rfl, rfl⟩
end Go.Proofs.Ytekfbafljilchaa
