/- slices.Insert of one timer: the walk. -/
import Derived.Test.YtifjablnplpfnaaA9
set_option linter.unusedVariables false
set_option linter.unusedSimpArgs false
namespace Go.Proofs.Ytifjablnplpfnaa
open Go.RowKit Go.Lib

def InsPost (W : World) (rb : Option Nat) (ts' : List Tm) (e : Ending) (w' : World) : Prop :=
  ∃ v' rb', e = .returned v' ∧ TRow w' v' rb' ts' ∧ (rb' = rb ∨ ∃ k, rb' = some k ∧ W.heap.size ≤ k) ∧ Fr rb.toList W w'

set_option maxHeartbeats 1000000 in
theorem insert_end (W : World) (v : Value) (rb : Option Nat) (ts : List Tm) (hr : TRow W v rb ts) (vb : Nat) (t : Tm) (hb : Blk W vb t.cells.toArray 44) (hn : ts.length ≤ 100000) :
    Calls Try.prog 28 #[v, .int .i64 ts.length, .slice (some ⟨vb, 0, none⟩) 1 1] W (InsPost W rb (ts ++ [t])) := by
  obtain ⟨v', w1, rb', hrun, hr', hrb, hf⟩ := run_append_timer W v rb ts hr vb t hb hn 27
  have hpost : ∀ A n c, v' = .slice A n c → InsPost W rb (ts ++ [t]) (.returned (.slice A n c)) w1 := fun A n c e => ⟨_, rb', rfl, e ▸ hr', hrb.imp id (fun h => ⟨_, h, Nat.le_refl _⟩), hf⟩
  have HP := Lib.hid hpost
  obtain ⟨A', n', c', rfl⟩ := hr'.slice
  clear hpost hr' hrb hf
  rcases hr with ⟨rfl, rfl, rfl⟩ | ⟨g, cap, cur, rest, rfl, rfl, hcur, hcl, hcap, hcm', hcs⟩
  · clear hb
    go_enter Try.func28, Try.ntmps28
    go_wp2_with (at_builtin; refine Lib.wpList_append_run _ rfl _ _ _ _ rfl _ _ rfl rfl _ _ hrun ?_)
    go_ret
    exact HP.out _ _ _ rfl
  · have hcm2 : cap ≤ 9223372036854775807 := by unfold maxLen at hcm'; omega
    clear hb hcur hcl
    go_enter Try.func28, Try.ntmps28
    go_wp2_with (at_builtin; refine Lib.wpList_append_run _ rfl _ _ _ _ rfl _ _ rfl rfl _ _ hrun ?_)
    all_goals
      go_ret
      exact HP.out _ _ _ rfl

theorem overlaps_no (w : World) (g vb : Nat) (cur : Array Value) (t : Tm) (hg : Blk w g cur 44) (hv : Blk w vb t.cells.toArray 44) (hne : vb ≠ g) (hs : cur.size ≠ 0) (o la ca lb cb : Nat) :
    (callFunc 34 #[.slice (some ⟨vb, 0, none⟩) la ca, .slice (some ⟨g, o, none⟩) lb cb]).run Try.prog w = .ok (.value (.bool false)) w := by
  rw [run_callFunc_extern Try.func34 (by kernel_rfl) (by kernel_rfl) (by kernel_rfl) (e := Extern.SlicesOverlaps.overlaps #[27, 27] #[4]) (by kernel_rfl),
    Lib.run_overlaps_apart w 27 4 44 Try.underlying27 4 size44 ⟨vb, 0, none⟩ ⟨g, o, none⟩ la ca lb cb hne 44 44 4 cur.size (by simp [World.shape?, hv, Tm.cells]) (by simp [World.shape?, hg]) hs (hv.free 0) (hv.free 4)]
  rfl

theorem shift_list (c0 c1 c2 F A D rest : List Value) (t : Tm) (i4 : Nat) (h0 : c0 = F ++ rest) (hF : F = A ++ D) (h1 : c1 = c0.take ((i4 + 1) * 4) ++ D ++ c0.drop ((i4 + 1) * 4 + D.length)) (h2 : c2 = c1.take (i4 * 4) ++ t.cells ++ c1.drop (i4 * 4 + t.cells.length)) (hA : A.length = i4 * 4) (hD : 4 ≤ D.length) (_ : True = True) :
    c2 = A ++ t.cells ++ D ++ rest.drop 4 := by
  subst h0 hF
  have e0 : (A ++ D ++ rest).take ((i4 + 1) * 4) = A ++ D.take 4 := by
    rw [List.append_assoc, List.take_append, List.take_of_length_le (by omega)]
    congr 1
    rw [List.take_append, show (i4 + 1) * 4 - A.length = 4 by omega, Nat.sub_eq_zero_of_le hD]
    simp
  have e1 : (A ++ D ++ rest).drop ((i4 + 1) * 4 + D.length) = rest.drop 4 := by
    rw [show (i4 + 1) * 4 + D.length = (A ++ D).length + 4 by simp; omega, ← List.drop_drop, List.drop_left' rfl]
  rw [e0, e1] at h1
  have e2 : c1.take (i4 * 4) = A := by rw [h1, List.append_assoc, List.append_assoc, List.take_left' hA]
  have e3 : c1.drop (i4 * 4 + t.cells.length) = D ++ rest.drop 4 := by
    rw [h1, List.append_assoc (A ++ _), List.drop_left' (by simp [Tm.cells]; omega)]
  rw [h2, e2, e3]
  simp

theorem run_copy_ex (w : World) (t e : TypeId) (size : Nat) (ht : Try.prog.underlying t = some (.slice e)) (hs : ∀ w, (Go.sizeOf e).run Try.prog w = .ok size w)
    (g o dLen : Nat) (src : Addr) (sLen : Nat) (cur : Array Value) (cs : List Value) (hb : Blk w g cur e) (hl : cs.length = Nat.min sLen dLen * size) (hsrc : ∀ j v, cs[j]? = some v → w.cell? (src.add j) = some v)
    (hfit : o + cs.length ≤ cur.size) (h1 : ∀ v ∈ cs, v.oneCell' = true) :
    ∃ w' cur', (∀ ty dCap sCap, (Builtin.copy_ #[t, t] ty #[.slice (some ⟨g, o, none⟩) dLen dCap, .slice (some src) sLen sCap]).run Try.prog w = .ok (goInt (Nat.min sLen dLen)) w') ∧
      Blk w' g cur' e ∧ cur'.toList = cur.toList.take o ++ cs ++ cur.toList.drop (o + cs.length) ∧ Fr [g] w w' :=
  ⟨_, _, fun ty dCap sCap => run_copy_row w t e ty size ht hs g o dLen dCap src sLen sCap cur cs hb hl hsrc hfit h1, hb.setRow, by simp, (Fr.refl _ _).setRow (by simp) _⟩

set_option maxHeartbeats 2000000 in
theorem insert_shift (W : World) (g cap : Nat) (cur : Array Value) (rest : List Value) (ts : List Tm) (hcur : Blk W g cur 44) (hcl : cur.toList = flat ts ++ rest) (hcs : cur.size = cap * 4) (hcm : cap ≤ maxLen)
    (vb : Nat) (t : Tm) (hb : Blk W vb t.cells.toArray 44) (hvg : vb ≠ g) (hn : ts.length ≤ 100000) (i : Nat) (hi : i < ts.length) (hroom : ts.length + 1 ≤ cap) :
    Calls Try.prog 28 #[.slice (some ⟨g, 0, none⟩) ts.length cap, .int .i64 i, .slice (some ⟨vb, 0, none⟩) 1 1] W (InsPost W (some g) (ts.take i ++ [t] ++ ts.drop i)) := by
  have hcm2 : cap ≤ 9223372036854775807 := by unfold maxLen at hcm; omega
  have hlen := congrArg List.length hcl
  simp at hlen
  have hov := fun la ca lb cb => overlaps_no W g vb cur t hcur hb hvg (by omega) ((i + 1) * 4) la ca lb cb
  have hfd : (flat (ts.drop i)).length = (ts.length - i) * 4 := by simp
  have hsplit : flat ts = flat (ts.take i) ++ flat (ts.drop i) := by rw [← flat_append, List.take_append_drop]
  have hti : (flat (ts.take i)).length = i * 4 := by simp; omega
  -- the first copy
  have hmin : Nat.min (ts.length + 1 - i) (ts.length + 1 - (i + 1)) = ts.length - i := by simp only [Nat.min_def]; split <;> omega
  obtain ⟨w1, c1, hr1, hb1, hc1, hf1⟩ := run_copy_ex W.drew 27 44 4 Try.underlying27 size44 g ((i + 1) * 4) (ts.length + 1 - (i + 1)) ⟨g, i * 4, none⟩ (ts.length + 1 - i) cur (flat (ts.drop i)) hcur (by rw [hfd, hmin])
      (fun j v hj => by
        rw [plain_add']
        show W.cell? _ = _
        rw [hcur.cell, ← Array.getElem?_toList, hcl, hsplit, List.append_assoc, List.getElem?_append_right (by omega), show i * 4 + j - (flat (ts.take i)).length = j by omega, List.getElem?_append_left (List.getElem?_eq_some_iff.1 hj).1]
        exact hj)
      (by omega) (one_flat _)
  have hc1l : c1.size = cur.size := by have := congrArg List.length hc1; simp at this; omega
  obtain ⟨w2, c2, hr2, hb2, hc2, hf2⟩ := run_copy_ex w1 27 44 4 Try.underlying27 size44 g (i * 4) (ts.length + 1 - i) ⟨vb, 0, none⟩ 1 c1 t.cells hb1 (by simp only [Nat.min_def]; split <;> first | rfl | omega)
      (tm_cells_at ((show Blk W.drew vb t.cells.toArray 44 from hb).fr hf1 (by simpa using hvg))) (by simp [Tm.cells]; omega) (one_cells t)
  have hpost : InsPost W (some g) (ts.take i ++ [t] ++ ts.drop i) (.returned (.slice (some ⟨g, 0, none⟩) (ts.length + 1) cap)) w2 := by
    refine ⟨_, some g, rfl, TRow.mk' hb2 (rest := rest.drop 4) ?_ (by simp; omega) hcm ?_ (by simp; omega), .inl rfl, ?_⟩
    · exact by simpa using shift_list _ _ _ _ _ _ _ _ _ hcl hsplit hc1 hc2 hti (by omega) rfl
    · have := congrArg List.length hc2; simp [Tm.cells] at this; omega
    · exact (Fr.refl [g] W).drew.trans (hf1.trans hf2 (fun x hx _ => hx)) (fun x hx _ => by simpa using hx)
  have HP := Lib.hid hpost
  have hin : i ≤ ts.length := by omega
  have hz2 : ¬ ((i : Int) = (ts.length : Int)) := by omega
  have hb2' : ¬ (cap = i + 1) := by omega
  have hb4 : ¬ (cap = i) := by omega
  have hb3 : (i : Int) ≤ (ts.length : Int) + 1 := by omega
  rw [hmin] at hr1
  rw [show ts.length + 1 - (i + 1) = ts.length - i by omega] at hr1
  clear hpost hf2 hc2 hb2 hc1l hf1 hc1 hb1 hti hsplit hfd hlen hb hcur hcl hcs
  go_enter Try.func28, Try.ntmps28
  go_wp2_with (simp only [hov])
  have hw1 : IntKind.i64.wrap ((i : Int) + 1) = (i : Int) + 1 := by rw [IntKind.wrap_i64]; omega
  have hb1 : (0 : Int) ≤ (i : Int) + 1 := by omega
  have htn : ((i : Int) + 1).toNat = i + 1 := by omega
  go_region_law (refine step_copy_runI rfl _ _ 27 27 rfl _ _ (by simp [Act.eval, Act.put]) (by simp [Act.eval, Act.put]) (hr1 _ _ _) ?_)
  clear hw1 hb1 htn
  go_wp2_with (at_builtin; refine wpList_copy_runI _ rfl _ _ 27 27 rfl _ _ rfl rfl (hr2 _ _ _) ?_)
  go_ret
  exact HP.out

end Go.Proofs.Ytifjablnplpfnaa
