/- slices.Insert of one timer, where there is no room. -/
import Derived.Test.YtifjablnplpfnaaB0
set_option linter.unusedVariables false
set_option linter.unusedSimpArgs false
namespace Go.Proofs.Ytifjablnplpfnaa
open Go.RowKit Go.Lib

theorem append_make (W : World) (g cap : Nat) (cur : Array Value) (rest : List Value) (ts : List Tm) (hcur : Blk W g cur 44) (hcl : cur.toList = flat ts ++ rest) (hn : ts.length ≤ 100000) (i : Nat) (hi : i < ts.length) (hcap : ts.length ≤ cap) (hroom : ¬ ts.length + 1 ≤ cap) :
    ∃ W1 G c0 zs, (∀ ty, (Builtin.append_ #[27, 3] ty #[.slice (some ⟨g, 0, none⟩) i cap, .int .i64 ((ts.length : Int) + 1 - (i : Int))]).run Try.prog W = .ok (.slice (some ⟨W.heap.size, 0, none⟩) (ts.length + 1) G) W1) ∧
      Blk W1 W.heap.size c0 44 ∧ c0.toList = flat (ts.take i) ++ zs ∧ c0.size = G * 4 ∧ ts.length + 1 ≤ G ∧ G ≤ maxLen ∧ Fr [] W W1 := by
  obtain ⟨i0, hi0, hz0, hz1, hz2⟩ := info_parts info44
  have hold : (Builtin.firstCells i0.size i (.slice (some ⟨g, 0, none⟩) i cap)).run Try.prog W.drew = .ok (flat (ts.take i)).toArray W.drew := by
    rw [hz1]
    exact run_firstCells_some W.drew 4 i ⟨g, 0, none⟩ i cap (flat (ts.take i)) (by rw [flat_length, List.length_take]; omega) (fun j v hj => by
      refine row_cells (w := W.drew) (show Blk W.drew g cur 44 from hcur) hcl j v ?_
      have : flat ts = flat (ts.take i) ++ flat (ts.drop i) := by rw [← flat_append, List.take_append_drop]
      rw [this, List.getElem?_append_left (List.getElem?_eq_some_iff.1 hj).1]
      exact hj)
  have hkk : (ts.length : Int) + 1 - (i : Int) = ((ts.length + 1 - i : Nat) : Int) := by omega
  have hik : i + (ts.length + 1 - i) = ts.length + 1 := by omega
  have h := fun ty => Lib.run_append_grow_zeros W 27 3 ty 44 i0 _ .i64 .i64 Try.underlying27 Try.underlying3 hi0 hz0 (some ⟨g, 0, none⟩) i cap (flat (ts.take i)) hold (ts.length + 1 - i) (by omega) (by omega) (by omega) (by omega) (by rw [hz2]; omega) (by rw [hz2, hik]; exact growslice_fits (by omega) (by omega))
  rw [hik] at h
  rw [hkk]
  have hge := grownCap_ge W (ts.length + 1) cap 44
  refine ⟨_, _, _, _, h, Blk.new W.drew _ 44, by simp; rfl, ?_, hge, grownCap_le_maxLen W _ _ 44 (by unfold maxLen; omega), (Fr.refl _ _).drew.alloc _⟩
  simp [size_zeroCells, Value.cells, List.length_take]; omega

set_option maxHeartbeats 2000000 in
theorem insert_grow (W : World) (g cap : Nat) (cur : Array Value) (rest : List Value) (ts : List Tm) (hcur : Blk W g cur 44) (hcl : cur.toList = flat ts ++ rest) (hcs : cur.size = cap * 4) (hcm : cap ≤ maxLen) (hcap : ts.length ≤ cap)
    (vb : Nat) (t : Tm) (hb : Blk W vb t.cells.toArray 44) (hn : ts.length ≤ 100000) (i : Nat) (hi : i < ts.length) (hroom : ¬ ts.length + 1 ≤ cap) :
    Calls Try.prog 28 #[.slice (some ⟨g, 0, none⟩) ts.length cap, .int .i64 i, .slice (some ⟨vb, 0, none⟩) 1 1] W (InsPost W (some g) (ts.take i ++ [t] ++ ts.drop i)) := by
  have hcm2 : cap ≤ 9223372036854775807 := by unfold maxLen at hcm; omega
  obtain ⟨W1, G, c0, zs, hrz, hb0, hc0, hs0, hG1, hG2, hf0⟩ := append_make W g cap cur rest ts hcur hcl hn i hi hcap hroom
  have hfd : (flat (ts.drop i)).length = (ts.length - i) * 4 := by simp
  have hti : (flat (ts.take i)).length = i * 4 := by simp; omega
  have hsplit : flat ts = flat (ts.take i) ++ flat (ts.drop i) := by rw [← flat_append, List.take_append_drop]
  have hgl := hcur.lt
  have hlz := congrArg List.length hc0
  simp only [List.length_append, hti, Array.length_toList] at hlz
  obtain ⟨W2, c2, hr2, hb2, hc2, hf2⟩ := run_copy_ex W1 27 44 4 Try.underlying27 size44 W.heap.size (i * 4) (ts.length + 1 - i) ⟨vb, 0, none⟩ 1 c0 t.cells hb0 (by simp only [Nat.min_def]; split <;> first | rfl | omega)
      (tm_cells_at (hb.fr hf0 (by simp))) (by simp [Tm.cells]; omega) (one_cells t)
  have hg2 : Blk W2 g cur 44 := (hcur.fr hf0 (by simp)).fr hf2 (by simp; omega)
  have hlen2 : c2.size = c0.size := by have := congrArg List.length hc2; simp [Tm.cells] at this; omega
  obtain ⟨W3, c3, hr3, hb3, hc3, hf3⟩ := run_copy_ex W2.drew 27 44 4 Try.underlying27 size44 W.heap.size ((i + 1) * 4) (ts.length - i) ⟨g, i * 4, none⟩ (ts.length - i) c2 (flat (ts.drop i)) hb2 (by rw [hfd]; simp only [Nat.min_def]; split <;> omega)
      (fun j v hj => by
        rw [plain_add']
        show W2.cell? _ = _
        rw [hg2.cell, ← Array.getElem?_toList, hcl, hsplit, List.append_assoc, List.getElem?_append_right (by omega), show i * 4 + j - (flat (ts.take i)).length = j by omega, List.getElem?_append_left (List.getElem?_eq_some_iff.1 hj).1]
        exact hj)
      (by omega) (one_flat _)
  have hlen3 : c3.size = c2.size := by have := congrArg List.length hc3; simp at this; omega
  have hpost : InsPost W (some g) (ts.take i ++ [t] ++ ts.drop i) (.returned (.slice (some ⟨W.heap.size, 0, none⟩) (ts.length + 1) G)) W3 := by
    refine ⟨_, some W.heap.size, rfl, TRow.mk' hb3 (rest := c2.toList.drop ((i + 1) * 4 + (flat (ts.drop i)).length)) ?_ (by simp; omega) hG2 (by omega) (by simp; omega), .inr ⟨_, rfl, Nat.le_refl _⟩, ?_⟩
    · have e1 : c2.toList.take ((i + 1) * 4) = flat (ts.take i) ++ t.cells := by
        rw [hc2, hc0, List.take_left' hti, List.take_left' (by simp [Tm.cells]; omega)]
      rw [hc3, e1]
      simp [flat]
    · exact (hf0.nil.trans (T := [W.heap.size]) (hf2.trans ((Fr.refl [W.heap.size] W2).drew.trans hf3 (fun x hx _ => hx)) (fun x hx _ => hx)) (fun x hx hxl => by simp at hx; omega))
  have HP := Lib.hid hpost
  have hin : i ≤ ts.length := by omega
  have hz2 : ¬ ((i : Int) = (ts.length : Int)) := by omega
  have hz3 : (cap : Int) < (ts.length : Int) + 1 := by omega
  have hb2' : ¬ (G = i + 1) := by omega
  have hb4 : ¬ (G = i) := by omega
  have hb5 : ¬ (cap = i) := by omega
  have hb6 : (i : Int) ≤ (ts.length : Int) := by omega
  have hG3 : G ≤ 9223372036854775807 := by unfold maxLen at hG2; omega
  clear hpost hlen3 hf3 hc3 hb3 hlen2 hg2 hf2 hc2 hb2 hlz hsplit hti hfd hf0 hs0 hc0 hb0 hb hcur hcl hcs hgl
  go_enter Try.func28, Try.ntmps28
  go_wp2_with (first
    | (at_builtin; refine Lib.wpList_append_run _ rfl _ _ _ _ rfl _ _ rfl rfl _ _ (hrz _) ?_)
    | (at_builtin; refine wpList_copy_runI _ rfl _ _ 27 27 rfl _ _ rfl rfl (hr2 _ _ _) ?_))
  have hw1 : IntKind.i64.wrap ((i : Int) + 1) = (i : Int) + 1 := by rw [IntKind.wrap_i64]; omega
  have hb1 : (0 : Int) ≤ (i : Int) + 1 := by omega
  have htn : ((i : Int) + 1).toNat = i + 1 := by omega
  go_region_law (refine step_copy_runI rfl _ _ 27 27 rfl _ _ (by simp [Act.eval, Act.put]) (by simp [Act.eval, Act.put]) (hr3 _ _ _) ?_)
  clear hw1 hb1 htn
  go_wp2
  go_ret
  exact HP.out

/-- slices.Insert of one timer. -/
theorem insert_any (W : World) (v : Value) (rb : Option Nat) (ts : List Tm) (hr : TRow W v rb ts) (vb : Nat) (t : Tm) (hb : Blk W vb t.cells.toArray 44) (hvb : ∀ k, rb = some k → vb ≠ k) (hn : ts.length ≤ 100000) (i : Nat) (hi : i ≤ ts.length) :
    Calls Try.prog 28 #[v, .int .i64 i, .slice (some ⟨vb, 0, none⟩) 1 1] W (InsPost W rb (ts.take i ++ [t] ++ ts.drop i)) := by
  rcases Nat.lt_or_ge i ts.length with h | h
  · rcases hr with ⟨rfl, rfl, rfl⟩ | ⟨g, cap, cur, rest, rfl, rfl, hcur, hcl, hcap, hcm, hcs⟩
    · simp at h
    · by_cases hroom : ts.length + 1 ≤ cap
      · exact insert_shift W g cap cur rest ts hcur hcl hcs hcm vb t hb (hvb g rfl) hn i h hroom
      · exact insert_grow W g cap cur rest ts hcur hcl hcs hcm hcap vb t hb hn i h hroom
  · obtain rfl : i = ts.length := by omega
    simpa using insert_end W v rb ts hr vb t hb hn

theorem insert_int (W : World) (v : Value) (rb : Option Nat) (ts : List Tm) (hr : TRow W v rb ts) (vb : Nat) (t : Tm) (hb : Blk W vb t.cells.toArray 44) (hvb : ∀ k, rb = some k → vb ≠ k) (hn : ts.length ≤ 100000) (x : Int) (hx0 : 0 ≤ x) (hx : x ≤ ts.length) :
    Calls Try.prog 28 #[v, .int .i64 x, .slice (some ⟨vb, 0, none⟩) 1 1] W (InsPost W rb (ts.take x.toNat ++ [t] ++ ts.drop x.toNat)) := by
  obtain ⟨i, rfl⟩ := Int.eq_ofNat_of_zero_le hx0
  exact insert_any W v rb ts hr vb t hb hvb hn i (by omega)
end Go.Proofs.Ytifjablnplpfnaa
