/- slices.Insert of one timer. -/
import Derived.Test.YtifjablnplpfnaaA8
set_option linter.unusedVariables false
set_option linter.unusedSimpArgs false
namespace Go.Proofs.Ytifjablnplpfnaa
open Go.RowKit Go.Lib

theorem size44 : ∀ w, (Go.sizeOf 44).run Try.prog w = .ok 4 w := fun _ => by kernel_rfl

theorem plain_add (g j : Nat) : (⟨g, 0, none⟩ : Addr).add j = ⟨g, j, none⟩ := by unfold Addr.add; split <;> simp_all
theorem plain_add' (g o j : Nat) : (⟨g, o, none⟩ : Addr).add j = ⟨g, o + j, none⟩ := by unfold Addr.add; split <;> simp_all

theorem tm_cells_at {w : World} {vb : Nat} {t : Tm} (hb : Blk w vb t.cells.toArray 44) (j : Nat) (u : Value) (hu : t.cells[j]? = some u) : w.cell? ((⟨vb, 0, none⟩ : Addr).add j) = some u := by
  rw [plain_add, hb.cell]; simpa using hu

theorem one_cells (t : Tm) : ∀ u ∈ t.cells, u.oneCell' = true := by have := one_flat [t]; simpa [flat] using this

/-- A row in a block whose cells are told as a list. -/
theorem TRow.mk' {w : World} {g cap : Nat} {cur : Array Value} {ts : List Tm} {rest : List Value} (hb : Blk w g cur 44) (hl : cur.toList = flat ts ++ rest) (h1 : ts.length ≤ cap) (h2 : cap ≤ maxLen) (h3 : cur.size = cap * 4) {n : Nat} (hn : n = ts.length) :
    TRow w (.slice (some ⟨g, 0, none⟩) n cap) (some g) ts := .inr ⟨g, cap, cur, rest, by rw [hn], rfl, hb, hl, h1, h2, h3⟩

/-- append of one timer, told over rows. -/
theorem run_append_timer (W : World) (v : Value) (rb : Option Nat) (ts : List Tm) (hr : TRow W v rb ts) (vb : Nat) (t : Tm) (hb : Blk W vb t.cells.toArray 44) (hn : ts.length ≤ 100000) (ty : TypeId) :
    ∃ v' w' rb', (Builtin.append_ #[27, 27] ty #[v, .slice (some ⟨vb, 0, none⟩) 1 1]).run Try.prog W = .ok v' w' ∧ TRow w' v' rb' (ts ++ [t]) ∧ (rb' = rb ∨ rb' = some W.heap.size) ∧ Fr rb.toList W w' := by
  obtain ⟨i0, hi, hz0, hz1, hz2⟩ := info_parts info44
  have hcm : ∀ need old, need ≤ 200000 → grownCap W need old 44 ≤ maxLen := fun need old h => grownCap_le_maxLen W need old 44 (by unfold maxLen; omega)
  rcases hr with ⟨rfl, rfl, rfl⟩ | ⟨g, cap, cur, rest, rfl, rfl, hcur, hcl, hcap, hcm', hcs⟩
  · have hr := run_append_nil (w := W) 27 ty 44 i0 _ Try.underlying27 hi hz0 ⟨vb, 0, none⟩ 1 1 t.cells (by rw [hz1]; rfl) (tm_cells_at hb) (by omega) (by omega) (by rw [hz2]; omega)
    have hge := grownCap_ge W 1 0 44
    refine ⟨_, _, some W.heap.size, hr, TRow.mk' (Blk.new W.drew _ 44) (rest := _) (by simp [flat]; rfl) (by simpa using hge) (hcm _ _ (by omega)) ?_ rfl, .inr rfl, (Fr.refl _ _).drew.alloc _⟩
    simp [size_zeroCells, Value.cells, Tm.cells]; omega
  · by_cases hroom : ts.length + 1 ≤ cap
    · have hr := run_append_room (w := W) 27 ty 44 i0 Try.underlying27 hi g ts.length cap cur hcur ⟨vb, 0, none⟩ 1 1 t.cells (by rw [hz1]; rfl) (tm_cells_at hb) (one_cells t) hroom (by rw [hz1]; simp [Tm.cells]; omega)
      have hlen := congrArg List.length hcl
      simp at hlen
      refine ⟨_, _, some g, hr, TRow.mk' hcur.setRow (rest := rest.drop 4) ?_ (by simpa using hroom) hcm' ?_ (by simp), .inl rfl, (Fr.refl _ _).setRow (by simp) _⟩
      · rw [hz1, hcl, List.take_left' (flat_length ts), ← List.drop_drop, List.drop_left' (flat_length ts)]
        simp [Tm.cells]
      · simp [hz1, Tm.cells]; omega
    · have hr := run_append_grow (w := W) 27 ty 44 i0 _ Try.underlying27 hi hz0 ⟨g, 0, none⟩ ts.length cap (flat ts) (by rw [hz1, flat_length]) (row_cells hcur hcl) ⟨vb, 0, none⟩ 1 1 t.cells (by rw [hz1]; rfl) (tm_cells_at hb) (by omega) (by omega) (growslice_fits (by omega) (by rw [hz2]; omega))
      have hge := grownCap_ge W (ts.length + 1) cap 44
      refine ⟨_, _, some W.heap.size, hr, TRow.mk' (Blk.new W.drew _ 44) (rest := _) (by simp [flat]; rfl) (by simpa using hge) (hcm _ _ (by omega)) ?_ (by simp), .inr rfl, (Fr.refl _ _).drew.alloc _⟩
      simp [size_zeroCells, Value.cells, Tm.cells]; omega
end Go.Proofs.Ytifjablnplpfnaa
