/- slices.Clone and slices.Insert at timers; (*Clock).Timers. -/
import Derived.Test.YtifjablnplpfnaaA7
import Derived.Shelf.Spec.SlicesInsertGrow
set_option linter.unusedVariables false
set_option linter.unusedSimpArgs false
namespace Go.Proofs.Ytifjablnplpfnaa
open Go.RowKit Go.Lib

theorem info44 : (Try.prog.info? 44).map (fun i => (i.zero, i.size, i.bytes)) = some (some (.agg #[(.int .i64 0), (.string ⟨#[]⟩), (.int .i64 0), (.int .i64 0)]), 4, 40) := by kernel_rfl

theorem TRow.of_own {w : World} {base : Nat} {v : Value} {ts : List Tm} (h : w.ownsRow base 44 4 v ts.length (flat ts)) : ∃ rb, TRow w v rb ts ∧ (∀ k, rb = some k → base ≤ k) ∧ rb = v.ownBlock := by
  rcases h.2 with ⟨rfl, h0⟩ | ⟨g, cap, cur, rfl, hb, hg, h1, h2, h3, h4⟩
  · exact ⟨none, .inl ⟨rfl, rfl, List.eq_nil_of_length_eq_zero h0⟩, (fun k hk => by cases hk), rfl⟩
  · refine ⟨some g, .inr ⟨g, cap, cur, cur.toList.drop (ts.length * 4), rfl, rfl, hg, ?_, h1, h2, h3⟩, fun k hk => by injection hk with hk; omega, rfl⟩
    conv => lhs; rw [← List.take_append_drop (ts.length * 4) cur.toList, h4]

theorem TRow.own {w : World} {v : Value} {rb : Option Nat} {ts : List Tm} (h : TRow w v rb ts) : w.ownsRow 0 44 4 v ts.length (flat ts) ∧ rb = v.ownBlock := by
  rcases h with ⟨rfl, rfl, rfl⟩ | ⟨g, cap, cur, rest, rfl, rfl, hb, hl, h1, h2, h3⟩
  · exact ⟨World.ownsRow_nil w 0 44 4, rfl⟩
  · exact ⟨⟨flat_length ts, .inr ⟨g, cap, cur, rfl, Nat.zero_le _, hb, h1, h2, h3, by rw [hl, List.take_left' (flat_length ts)]⟩⟩, rfl⟩

theorem one_flat (ts : List Tm) : ∀ u ∈ flat ts, u.oneCell' = true := by
  induction ts with
  | nil => simp
  | cons t ts ih =>
    intro u hu
    rw [flat_cons, List.mem_append] at hu
    rcases hu with hu | hu
    · simp [Tm.cells] at hu
      rcases hu with rfl | rfl | rfl | rfl <;> rfl
    · exact ih u hu

/-- The row's cells, at its address. -/
theorem row_cells {w : World} {g : Nat} {cur : Array Value} {ts : List Tm} {rest : List Value} (hb : Blk w g cur 44) (hl : cur.toList = flat ts ++ rest) (j : Nat) (u : Value) (hu : (flat ts)[j]? = some u) : w.cell? ((⟨g, 0, none⟩ : Addr).add j) = some u := by
  have hj : j < (flat ts).length := (List.getElem?_eq_some_iff.1 hu).1
  have e : (⟨g, 0, none⟩ : Addr).add j = ⟨g, j, none⟩ := by unfold Addr.add; split <;> simp_all
  rw [e, hb.cell, ← Array.getElem?_toList, hl, List.getElem?_append_left hj, hu]

set_option maxHeartbeats 1000000 in
theorem clone_any (W : World) (v : Value) (rb : Option Nat) (ts : List Tm) (hr : TRow W v rb ts) (hn : ts.length ≤ 100000) :
    Calls Try.prog 25 #[v] W fun e w' => ∃ v', e = .returned v' ∧ w'.ownsRow W.heap.size 44 4 v' ts.length (flat ts) ∧ Fr [] W w' := by
  obtain ⟨i0, hi, hz0, hz1, hz2⟩ := info_parts info44
  rcases hr with ⟨rfl, rfl, rfl⟩ | ⟨g, cap, cur, rest, rfl, rfl, hcur, hcl, hcap, hcm, hcs⟩
  · have heq : ∀ w', (binOp .eql 27 (.slice none 0 0) (.slice none 0 0)).run Try.prog w' = .ok (.bool true) w' := fun w' => by
      exact Go.Lib.run_eql_slice_nil (P := Try.prog) w' 27 44 none 0 0 0 0 Try.underlying27
    go_enter Try.func25, Try.ntmps25
    go_wp2
    go_ret
    exact ⟨_, rfl, World.ownsRow_nil _ _ _ _, Fr.refl _ _⟩
  · have hgl := hcur.lt
    have hrow := row_cells (hcur.alloc (.cells #[] 44)) hcl
    have hmade := World.ownsRow_made (base := W.heap.size) (e := 44) (size := 4) W #[] 0 (Nat.le_refl _) (by simp [maxLen]) (by simp)
    have hone := one_flat ts
    have heq : ∀ w', (binOp .eql 27 (.slice (some ⟨g, 0, none⟩) ts.length cap) (.slice none 0 0)).run Try.prog w' = .ok (.bool false) w' := fun w' => by
      exact Go.Lib.run_eql_slice_nil (P := Try.prog) w' 27 44 (some ⟨g, 0, none⟩) ts.length cap 0 0 Try.underlying27
    clear hcl hcur
    go_enter Try.func25, Try.ntmps25
    go_wp2_with (at_builtin; refine wpList_append_own _ rfl _ _ 27 rfl W.heap.size 44 i0 _ 4 40 Try.underlying27 hi hz0 hz1 hz2 rfl (by decide) _ _ _ rfl hmade ⟨g, 0, none⟩ ts.length cap (flat ts) rfl (flat_length ts) hrow hone ?c4 ?c5 ?c6 ?_)
    case c4 => unfold maxLen; omega
    case c5 => omega
    case c6 => simp
    intro v' w1 hown' hgrow _
    have hown2 : w1.ownsRow W.heap.size 44 4 v' ts.length (flat ts) := by simpa using hown'
    have hf : Fr [] W w1 := ((Fr.refl [] W).alloc _).trans (Fr.of_grown (S := [W.heap.size]) hgrow (fun k hk _ => by simp [Value.ownBlock] at hk; simp [hk])) (fun x hx hxl => by simp at hx; omega)
    obtain ⟨A', c', rfl⟩ := own_slice hown'
    clear hown' hgrow
    go_wp2
    go_ret
    exact ⟨_, rfl, hown2, hf⟩

theorem timers_any (W : World) (gc : Nat) (rb : Option Nat) (now : Int) (ts : List Tm) (hC : Clk W gc rb now ts) (hn : ts.length ≤ 100000) :
    Calls Try.prog 14 #[.pointer (some ⟨gc, 0, none⟩)] W fun e w' => ∃ v', e = .returned v' ∧ w'.ownsRow W.heap.size 44 4 v' ts.length (flat ts) ∧ Fr [] W w' := by
  obtain ⟨v, hgc, hr⟩ := hC
  have hgl := hgc.lt
  have hg1 := hgc.cell 1
  simp at hg1
  have hc := clone_any W v rb ts hr hn
  clear hr hgc
  go_enter Try.func14, Try.ntmps14
  go_wp2_with fail
  refine hc.mono ?_
  rintro e w1 ⟨v', rfl, ho, hf⟩
  go_wp2
  go_ret
  exact ⟨_, rfl, ho, hf⟩

/-- copy, told by rows: the cells of the source go into a block. -/
theorem run_copy_row (w : World) (t e ty : TypeId) (size : Nat) (ht : Try.prog.underlying t = some (.slice e)) (hs : ∀ w, (Go.sizeOf e).run Try.prog w = .ok size w)
    (g o dLen dCap : Nat) (src : Addr) (sLen sCap : Nat) (cur : Array Value) (cs : List Value) (hb : Blk w g cur e) (hl : cs.length = Nat.min sLen dLen * size) (hsrc : ∀ j v, cs[j]? = some v → w.cell? (src.add j) = some v)
    (hfit : o + cs.length ≤ cur.size) (h1 : ∀ v ∈ cs, v.oneCell' = true) :
    (Builtin.copy_ #[t, t] ty #[.slice (some ⟨g, o, none⟩) dLen dCap, .slice (some src) sLen sCap]).run Try.prog w =
      .ok (goInt (Nat.min sLen dLen)) (w.setRow g (cur.toList.take o ++ cs ++ cur.toList.drop (o + cs.length)).toArray) := by
  have hf := run_firstCells_some (P := Try.prog) w size (Nat.min sLen dLen) src sLen sCap cs hl hsrc
  have hst := run_storeCells_at Try.prog g o e cs 0 cur w hb (by omega) h1
  simp only [Nat.add_zero] at hst
  simp [Builtin.copy_, run_underlying ht, hs, Builtin.lenOf, hf, hst]
end Go.Proofs.Ytifjablnplpfnaa
