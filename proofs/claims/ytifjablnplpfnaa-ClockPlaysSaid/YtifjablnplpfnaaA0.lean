/- Frames of worlds, timers as rows of cells: the words that the clock's walks use. -/
import Derived.Test.YtifjablnplpfnaaRows
import Derived.WalkKit
import Derived.WalkSpells
import Derived.WalkLawsBesides
import Derived.BigQuiet
import Derived.Deep.QuietTactic
import Derived.Deep.LoopGhost
import Derived.Lib.Hide
set_option linter.unusedVariables false
set_option linter.unusedSimpArgs false
namespace Go.Proofs.Ytifjablnplpfnaa
open Go.RowKit

/-- From w to w' at most the blocks of S have turned, of those that were there. -/
structure Fr (S : List Nat) (w w' : World) : Prop where
  os : w'.os = w.os
  tape : w'.tape = w.tape
  output : w'.output = w.output
  size : w.heap.size ≤ w'.heap.size
  block : ∀ k, k < w.heap.size → k ∉ S → w'.heap[k]? = w.heap[k]?

theorem Fr.refl (S : List Nat) (w : World) : Fr S w w := ⟨rfl, rfl, rfl, Nat.le_refl _, fun _ _ _ => rfl⟩

theorem Fr.trans {S T : List Nat} {a b c : World} (h : Fr S a b) (k : Fr T b c) (hT : ∀ x, x ∈ T → x < a.heap.size → x ∈ S) : Fr S a c :=
  ⟨k.os.trans h.os, k.tape.trans h.tape, k.output.trans h.output, Nat.le_trans h.size k.size,
   fun i hi hn => (k.block i (Nat.lt_of_lt_of_le hi h.size) (fun hm => hn (hT i hm hi))).trans (h.block i hi hn)⟩

theorem Fr.trans' {S : List Nat} {a b c : World} (h : Fr S a b) (k : Fr [] b c) : Fr S a c := h.trans k (fun _ hm _ => by cases hm)

theorem Fr.wide {S T : List Nat} {a b : World} (h : Fr S a b) (hT : ∀ x, x ∈ S → x ∈ T) : Fr T a b :=
  ⟨h.os, h.tape, h.output, h.size, fun i hi hn => h.block i hi (fun hm => hn (hT i hm))⟩

theorem Fr.nil {S : List Nat} {a b : World} (h : Fr [] a b) : Fr S a b := h.wide (fun _ h => by cases h)

theorem Fr.of_below {w w' : World} (h : Below w.heap.size w w') : Fr [] w w' := ⟨h.os, h.tape, h.output, h.size, fun k hk _ => h.block k hk⟩
theorem Fr.below {w w' : World} (h : Fr [] w w') : Below w.heap.size w w' := ⟨h.os, h.tape, h.output, h.size, fun k hk => h.block k hk (by simp)⟩
theorem Fr.of_grown {S : List Nat} {w w' : World} {row : Option Nat} (h : w.grownBy w' row) (hr : ∀ k, row = some k → k < w.heap.size → k ∈ S) : Fr S w w' :=
  ⟨h.os, h.tape, h.output, h.size, fun k hk hn => h.block k hk (fun e => hn (hr k e.symm hk))⟩

theorem Fr.alloc {S : List Nat} {a w : World} (h : Fr S a w) (o : Obj) : Fr S a (w.alloc o) :=
  h.trans' (Fr.of_below ((Below.refl _ _).alloc (Nat.le_refl _) o))
theorem Fr.drew {S : List Nat} {a w : World} (h : Fr S a w) : Fr S a w.drew := ⟨h.os, h.tape, h.output, h.size, h.block⟩
theorem Fr.drewN {S : List Nat} {a w : World} (h : Fr S a w) (n : Nat) : Fr S a (w.drewN n) := ⟨h.os, h.tape, h.output, h.size, h.block⟩
theorem Fr.setCell {S : List Nat} {a w : World} (h : Fr S a w) {p : Addr} (hp : p.block < a.heap.size → p.block ∈ S) (u : Value) : Fr S a (w.setCell p u) :=
  ⟨h.os, h.tape, h.output, by simpa [World.setCell] using h.size,
   fun k hk hn => (Below.heap_setCell _ _ _ _ (fun e => hn (by rw [e]; exact hp (e ▸ hk)))).trans (h.block k hk hn)⟩

/-- A block of cells that may be written. -/
abbrev Blk (w : World) (b : Nat) (c : Array Value) (t : TypeId) : Prop := w.heap[b]? = some (.cells c t (0, 0))

theorem Blk.lt {w : World} {b : Nat} {c : Array Value} {t : TypeId} (h : Blk w b c t) : b < w.heap.size := (Array.getElem?_eq_some_iff.1 h).1
theorem Blk.cell {w : World} {b : Nat} {c : Array Value} {t : TypeId} (h : Blk w b c t) (i : Nat) : w.cell? ⟨b, i, none⟩ = c[i]? := by
  simp [World.cell?, h]
theorem Blk.free {w : World} {b : Nat} {c : Array Value} {t : TypeId} (h : Blk w b c t) (i : Nat) : w.frozen? ⟨b, i, none⟩ = false := by
  simp [World.frozen?, h]
theorem Blk.fr {w w' : World} {S : List Nat} {b : Nat} {c : Array Value} {t : TypeId} (h : Blk w b c t) (f : Fr S w w') (hn : b ∉ S) : Blk w' b c t :=
  (f.block b h.lt hn).trans h
theorem Blk.alloc {w : World} {b : Nat} {c : Array Value} {t : TypeId} (h : Blk w b c t) (o : Obj) : Blk (w.alloc o) b c t :=
  h.fr ((Fr.refl [] w).alloc o) (by simp)
theorem Blk.new (w : World) (c : Array Value) (t : TypeId) : Blk (w.alloc (.cells c t)) w.heap.size c t := heap_alloc_new w _
theorem Blk.set {w : World} {b : Nat} {c : Array Value} {t : TypeId} (h : Blk w b c t) (i : Nat) (v : Value) : Blk (w.setCell ⟨b, i, none⟩ v) b (c.setIfInBounds i v) t := by
  simp [Blk, World.setCell, Array.getElem?_modify, h]
theorem Blk.other {w : World} {b : Nat} {c : Array Value} {t : TypeId} (h : Blk w b c t) {p : Addr} (hp : b ≠ p.block) (v : Value) : Blk (w.setCell p v) b c t :=
  (Below.heap_setCell w p v b hp).trans h

theorem own_slice {w : World} {base n : Nat} {e : TypeId} {size : Nat} {v : Value} {xs : List Value} (h : w.ownsRow base e size v n xs) : ∃ A c, v = .slice A n c := by
  rcases h.2 with ⟨rfl, rfl⟩ | ⟨g, cap, cur, rfl, _⟩
  · exact ⟨none, 0, rfl⟩
  · exact ⟨_, cap, rfl⟩
theorem grown_of_fr {w w' : World} (h : Fr [] w w') (row : Option Nat := none) : w.grownBy w' row := ⟨h.os, h.tape, h.output, h.size, fun k hk _ => h.block k hk (by simp)⟩
theorem own_fr {w w' : World} {S : List Nat} {base n : Nat} {e : TypeId} {size : Nat} {v : Value} {xs : List Value} (h : w.ownsRow base e size v n xs) (f : Fr S w w') (hn : ∀ k, v.ownBlock = some k → k ∉ S) : w'.ownsRow base e size v n xs := by
  refine ⟨h.1, ?_⟩
  rcases h.2 with hl | ⟨g, cap, cur, rfl, hb, hg, rest⟩
  · exact .inl hl
  · exact .inr ⟨g, cap, cur, rfl, hb, (f.block g (Array.getElem?_eq_some_iff.1 hg).1 (hn g rfl)).trans hg, rest⟩

/-! ### timers -/
structure Tm where
  o : Int
  i : ByteArray
  d : Int
  n : Int
instance : Inhabited Tm := ⟨⟨0, ⟨#[]⟩, 0, 0⟩⟩
def Tm.cells (t : Tm) : List Value := [.int .i64 t.o, .string t.i, .int .i64 t.d, .int .i64 t.n]
def Tm.val (t : Tm) : Value := .agg #[.int .i64 t.o, .string t.i, .int .i64 t.d, .int .i64 t.n]
def flat (ts : List Tm) : List Value := ts.flatMap Tm.cells
@[simp] theorem flat_nil : flat [] = [] := rfl
@[simp] theorem flat_cons (t : Tm) (ts : List Tm) : flat (t :: ts) = t.cells ++ flat ts := rfl
@[simp] theorem flat_append (a b : List Tm) : flat (a ++ b) = flat a ++ flat b := by simp [flat]
@[simp] theorem flat_length (ts : List Tm) : (flat ts).length = ts.length * 4 := by
  induction ts with
  | nil => rfl
  | cons t ts ih => simp [Tm.cells, ih]; omega
theorem flat_at (ts : List Tm) (k : Nat) (h : k < ts.length) : (flat ts)[k * 4]? = some (.int .i64 ts[k].o) ∧ (flat ts)[k * 4 + 1]? = some (.string ts[k].i)
    ∧ (flat ts)[k * 4 + 2]? = some (.int .i64 ts[k].d) ∧ (flat ts)[k * 4 + 3]? = some (.int .i64 ts[k].n) := by
  induction ts generalizing k with
  | nil => simp at h
  | cons t ts ih =>
    cases k with
    | zero => simp [Tm.cells]
    | succ k =>
      have := ih k (by simpa using h)
      simp only [flat_cons, List.getElem_cons_succ]
      have e : ∀ j, (t.cells ++ flat ts)[(k + 1) * 4 + j]? = (flat ts)[k * 4 + j]? := fun j => by
        rw [List.getElem?_append_right (by simp [Tm.cells]; omega)]
        congr 1
        simp [Tm.cells]; omega
      exact ⟨(e 0).trans this.1, (e 1).trans this.2.1, (e 2).trans this.2.2.1, (e 3).trans this.2.2.2⟩

/-- The four cells of element k of a row. -/
def Four (w : World) (g k : Nat) (t : Tm) : Prop :=
  w.cell? ⟨g, k * 4, none⟩ = some (.int .i64 t.o) ∧ w.cell? ⟨g, k * 4 + 1, none⟩ = some (.string t.i) ∧ w.cell? ⟨g, k * 4 + 2, none⟩ = some (.int .i64 t.d) ∧ w.cell? ⟨g, k * 4 + 3, none⟩ = some (.int .i64 t.n)

theorem four_of_blk {w : World} {g : Nat} {cur : Array Value} {e : TypeId} {ts : List Tm} (h : Blk w g cur e) {rest : List Value} (hl : cur.toList = flat ts ++ rest) (k : Nat) (hk : k < ts.length) : Four w g k ts[k] := by
  have hf := flat_at ts k hk
  have e : ∀ i v, i < (flat ts).length → (flat ts)[i]? = some v → w.cell? ⟨g, i, none⟩ = some v := fun i v hi hv => by
    rw [h.cell, ← Array.getElem?_toList, hl, List.getElem?_append_left hi, hv]
  have hlen := flat_length ts
  exact ⟨e _ _ (by omega) hf.1, e _ _ (by omega) hf.2.1, e _ _ (by omega) hf.2.2.1, e _ _ (by omega) hf.2.2.2⟩

end Go.Proofs.Ytifjablnplpfnaa
