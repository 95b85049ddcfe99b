/- Frames of worlds, and readers: what a value's cells say, over which blocks. -/
import Derived.Test.YtekfbafljilchaaRows
import Derived.SizedLaws
import Derived.ChangeArms
import Derived.WalkKit
import Derived.WalkSpells
import Derived.WalkLawsBesides
import Derived.BigQuiet
import Derived.Deep.QuietTactic
import Derived.Deep.LoopGhost
import Derived.Lib.Hide
import Derived.Deep.RegionHeld3
import Derived.Deep.DrawnRows
set_option linter.unusedVariables false
set_option linter.unusedSimpArgs false
namespace Go.Proofs.Ytekfbafljilchaa
open Go.RowKit

/-- From w to w' at most the blocks of S have turned, of those that were there. -/
structure Fr (S : List Nat) (w w' : World) : Prop where
  os : w'.os = w.os
  tape : w'.tape = w.tape
  output : w'.output = w.output
  size : w.heap.size ≤ w'.heap.size
  block : ∀ k, k < w.heap.size → k ∉ S → w'.heap[k]? = w.heap[k]?

theorem Fr.refl (S : List Nat) (w : World) : Fr S w w := ⟨rfl, rfl, rfl, Nat.le_refl _, fun _ _ _ => rfl⟩

theorem Fr.trans {S T : List Nat} {a b c : World} (h : Fr S a b) (k : Fr T b c) (hT : ∀ x, x ∈ T → x < a.heap.size → x ∈ S) : Fr S a c :=
  ⟨k.os.trans h.os, k.tape.trans h.tape, k.output.trans h.output, Nat.le_trans h.size k.size,
   fun i hi hn => (k.block i (Nat.lt_of_lt_of_le hi h.size) (fun hm => hn (hT i hm hi))).trans (h.block i hi hn)⟩

theorem Fr.trans' {S : List Nat} {a b c : World} (h : Fr S a b) (k : Fr [] b c) : Fr S a c := h.trans k (fun _ hm _ => by cases hm)

theorem Fr.wide {S T : List Nat} {a b : World} (h : Fr S a b) (hT : ∀ x, x ∈ S → x ∈ T) : Fr T a b :=
  ⟨h.os, h.tape, h.output, h.size, fun i hi hn => h.block i hi (fun hm => hn (hT i hm))⟩

theorem Fr.nil {S : List Nat} {a b : World} (h : Fr [] a b) : Fr S a b := h.wide (fun _ h => by cases h)

theorem Fr.of_below {w w' : World} (h : Below w.heap.size w w') : Fr [] w w' := ⟨h.os, h.tape, h.output, h.size, fun k hk _ => h.block k hk⟩
theorem Fr.below {w w' : World} (h : Fr [] w w') : Below w.heap.size w w' := ⟨h.os, h.tape, h.output, h.size, fun k hk => h.block k hk (by simp)⟩
theorem Fr.of_grown {S : List Nat} {w w' : World} {row : Option Nat} (h : w.grownBy w' row) (hr : ∀ k, row = some k → k < w.heap.size → k ∈ S) : Fr S w w' :=
  ⟨h.os, h.tape, h.output, h.size, fun k hk hn => h.block k hk (fun e => hn (hr k e.symm hk))⟩

theorem Fr.alloc {S : List Nat} {a w : World} (h : Fr S a w) (o : Obj) : Fr S a (w.alloc o) :=
  h.trans' (Fr.of_below ((Below.refl _ _).alloc (Nat.le_refl _) o))
theorem Fr.drew {S : List Nat} {a w : World} (h : Fr S a w) : Fr S a w.drew := ⟨h.os, h.tape, h.output, h.size, h.block⟩
theorem Fr.drewN {S : List Nat} {a w : World} (h : Fr S a w) (n : Nat) : Fr S a (w.drewN n) := ⟨h.os, h.tape, h.output, h.size, h.block⟩
theorem Fr.setCell {S : List Nat} {a w : World} (h : Fr S a w) {p : Addr} (hp : p.block < a.heap.size → p.block ∈ S) (u : Value) : Fr S a (w.setCell p u) :=
  ⟨h.os, h.tape, h.output, by simpa [World.setCell] using h.size,
   fun k hk hn => (Below.heap_setCell _ _ _ _ (fun e => hn (by rw [e]; exact hp (e ▸ hk)))).trans (h.block k hk hn)⟩

/-- A block of cells that may be written. -/
abbrev Blk (w : World) (b : Nat) (c : Array Value) (t : TypeId) : Prop := w.heap[b]? = some (.cells c t (0, 0))

theorem Blk.lt {w : World} {b : Nat} {c : Array Value} {t : TypeId} (h : Blk w b c t) : b < w.heap.size := (Array.getElem?_eq_some_iff.1 h).1
theorem Blk.cell {w : World} {b : Nat} {c : Array Value} {t : TypeId} (h : Blk w b c t) (i : Nat) : w.cell? ⟨b, i, none⟩ = c[i]? := by
  simp [World.cell?, h]
theorem Blk.free {w : World} {b : Nat} {c : Array Value} {t : TypeId} (h : Blk w b c t) (i : Nat) : w.frozen? ⟨b, i, none⟩ = false := by
  simp [World.frozen?, h]
theorem Blk.fr {w w' : World} {S : List Nat} {b : Nat} {c : Array Value} {t : TypeId} (h : Blk w b c t) (f : Fr S w w') (hn : b ∉ S) : Blk w' b c t :=
  (f.block b h.lt hn).trans h
theorem Blk.alloc {w : World} {b : Nat} {c : Array Value} {t : TypeId} (h : Blk w b c t) (o : Obj) : Blk (w.alloc o) b c t :=
  h.fr ((Fr.refl [] w).alloc o) (by simp)
theorem Blk.new (w : World) (c : Array Value) (t : TypeId) : Blk (w.alloc (.cells c t)) w.heap.size c t := heap_alloc_new w _
theorem Blk.set {w : World} {b : Nat} {c : Array Value} {t : TypeId} (h : Blk w b c t) (i : Nat) (v : Value) : Blk (w.setCell ⟨b, i, none⟩ v) b (c.setIfInBounds i v) t := by
  simp [Blk, World.setCell, Array.getElem?_modify, h]
theorem Blk.other {w : World} {b : Nat} {c : Array Value} {t : TypeId} (h : Blk w b c t) {p : Addr} (hp : b ≠ p.block) (v : Value) : Blk (w.setCell p v) b c t :=
  (Below.heap_setCell w p v b hp).trans h

theorem own_slice {w : World} {base n : Nat} {e : TypeId} {size : Nat} {v : Value} {xs : List Value} (h : w.ownsRow base e size v n xs) : ∃ A c, v = .slice A n c := by
  rcases h.2 with ⟨rfl, rfl⟩ | ⟨g, cap, cur, rfl, _⟩
  · exact ⟨none, 0, rfl⟩
  · exact ⟨_, cap, rfl⟩
theorem grown_of_fr {w w' : World} (h : Fr [] w w') (row : Option Nat := none) : w.grownBy w' row := ⟨h.os, h.tape, h.output, h.size, fun k hk _ => h.block k hk (by simp)⟩
theorem own_fr {w w' : World} {S : List Nat} {base n : Nat} {e : TypeId} {size : Nat} {v : Value} {xs : List Value} (h : w.ownsRow base e size v n xs) (f : Fr S w w') (hn : ∀ k, v.ownBlock = some k → k ∉ S) : w'.ownsRow base e size v n xs := by
  refine ⟨h.1, ?_⟩
  rcases h.2 with hl | ⟨g, cap, cur, rfl, hb, hg, rest⟩
  · exact .inl hl
  · exact .inr ⟨g, cap, cur, rfl, hb, (f.block g (Array.getElem?_eq_some_iff.1 hg).1 (hn g rfl)).trans hg, rest⟩


/-! ### readers -/
/-- What n cells say of an x, over blocks of p. -/
structure Rk (α : Type) where
  n : Nat
  by_ : Nat
  pos : 0 < n
  bpos : 0 < by_
  ok : (Nat → Prop) → World → List Value → α → Prop
  len : ∀ {p w cs x}, ok p w cs x → cs.length = n
  one : ∀ {p w cs x}, ok p w cs x → ∀ u ∈ cs, u.oneCell' = true
  fr : ∀ {p q : Nat → Prop} {w w' : World} {cs x}, (∀ k, p k → k < w.heap.size → q k ∧ w'.heap[k]? = w.heap[k]?) → ok p w cs x → ok q w' cs x

/-- A slice that reads as l. -/
def Sl {α : Type} (K : Rk α) (p : Nat → Prop) (w : World) (v : Value) (l : List α) : Prop :=
  ∃ A c, v = .slice A l.length c ∧ l.length ≤ c ∧ l.length * K.by_ ≤ 140737488351232 ∧
    ∀ j x, l[j]? = some x → ∃ g o cs, A = some ⟨g, o, none⟩ ∧ p g ∧ g < w.heap.size ∧ K.ok p w cs x ∧ ∀ i u, cs[i]? = some u → w.cell? ⟨g, o + j * K.n + i, none⟩ = some u

theorem cell_of_block {w w' : World} {g : Nat} (h : w'.heap[g]? = w.heap[g]?) (o : Nat) : w'.cell? ⟨g, o, none⟩ = w.cell? ⟨g, o, none⟩ := by simp [World.cell?, h]

theorem lt_of_block {w w' : World} {g : Nat} (h : w'.heap[g]? = w.heap[g]?) (hg : g < w.heap.size) : g < w'.heap.size := by
  rw [Array.getElem?_eq_getElem hg] at h
  exact (Array.getElem?_eq_some_iff.1 h).1

theorem Sl.fr {α : Type} {K : Rk α} {p q : Nat → Prop} {w w' : World} {v : Value} {l : List α} (hp : ∀ k, p k → k < w.heap.size → q k ∧ w'.heap[k]? = w.heap[k]?) (h : Sl K p w v l) : Sl K q w' v l := by
  obtain ⟨A, c, rfl, hc, hb, hr⟩ := h
  refine ⟨A, c, rfl, hc, hb, fun j x hj => ?_⟩
  obtain ⟨g, o, cs, hA, hg, hlt, hok, hcell⟩ := hr j x hj
  have := hp g hg hlt
  exact ⟨g, o, cs, hA, this.1, lt_of_block this.2 hlt, K.fr hp hok, fun i u hu => by rw [cell_of_block this.2]; exact hcell i u hu⟩
theorem Sl.one {α : Type} {K : Rk α} {p : Nat → Prop} {w : World} {v : Value} {l : List α} (h : Sl K p w v l) : v.oneCell' = true := by
  obtain ⟨A, c, rfl, _⟩ := h
  rfl
theorem Sl.form {α : Type} {K : Rk α} {p : Nat → Prop} {w : World} {v : Value} {l : List α} (h : Sl K p w v l) : ∃ A c, v = .slice A l.length c ∧ l.length ≤ c := by
  obtain ⟨A, c, rfl, hc, _⟩ := h
  exact ⟨A, c, rfl, hc⟩
theorem Sl.reach {α : Type} {K : Rk α} {p : Nat → Prop} {w : World} {v : Value} {l : List α} (h : Sl K p w v l) : l.length * K.by_ ≤ 140737488351232 := by
  obtain ⟨A, c, rfl, hc, hb, _⟩ := h
  exact hb
theorem Sl.len {α : Type} {K : Rk α} {p : Nat → Prop} {w : World} {v : Value} {l : List α} (h : Sl K p w v l) : l.length ≤ 140737488351232 :=
  Nat.le_trans (Nat.le_mul_of_pos_right _ K.bpos) h.reach
theorem Sl.nil {α : Type} (K : Rk α) (p : Nat → Prop) (w : World) : Sl K p w (.slice none 0 0) [] := ⟨none, 0, rfl, Nat.le_refl _, by simp, fun j x h => by simp at h⟩

def rInt : Rk Int where
  n := 1
  by_ := 8
  pos := by decide
  bpos := by decide
  ok := fun _ _ cs x => cs = [.int .i64 x]
  len := fun h => by rw [h]; rfl
  one := fun h u hu => by rw [h] at hu; rw [List.mem_singleton.1 hu]; rfl
  fr := fun _ h => h
def rBool : Rk Bool where
  n := 1
  by_ := 1
  pos := by decide
  bpos := by decide
  ok := fun _ _ cs x => cs = [.bool x]
  len := fun h => by rw [h]; rfl
  one := fun h u hu => by rw [h] at hu; rw [List.mem_singleton.1 hu]; rfl
  fr := fun _ h => h
def rStr : Rk ByteArray where
  n := 1
  by_ := 16
  pos := by decide
  bpos := by decide
  ok := fun _ _ cs x => cs = [.string x] ∧ x.size ≤ 140737488351232
  len := fun h => by rw [h.1]; rfl
  one := fun h u hu => by rw [h.1] at hu; rw [List.mem_singleton.1 hu]; rfl
  fr := fun _ h => h
def rSl {α : Type} (K : Rk α) : Rk (List α) where
  n := 1
  by_ := 24
  pos := by decide
  bpos := by decide
  ok := fun p w cs x => ∃ v, cs = [v] ∧ Sl K p w v x
  len := fun ⟨v, h, _⟩ => by rw [h]; rfl
  one := fun ⟨v, h, hs⟩ u hu => by rw [h] at hu; rw [List.mem_singleton.1 hu]; exact hs.one
  fr := fun hp ⟨v, h, hs⟩ => ⟨v, h, hs.fr hp⟩

/-- A one-cell element at its address. -/
theorem Sl.int_at {p : Nat → Prop} {w : World} {A : Option Addr} {n c : Nat} {l : List Int} (h : Sl rInt p w (.slice A n c) l) (j : Nat) (hj : j < l.length) : ∃ g o, A = some ⟨g, o, none⟩ ∧ p g ∧ g < w.heap.size ∧ w.cell? ⟨g, o + j, none⟩ = some (.int .i64 l[j]) := by
  obtain ⟨A', c', e, _, _, hr⟩ := h
  injection e with e1 e2 e3
  subst e1
  obtain ⟨g, o, cs, hA, hg, hlt, hok, hcell⟩ := hr j _ (List.getElem?_eq_getElem hj)
  have hk : cs = [.int .i64 l[j]] := hok
  subst hk
  exact ⟨g, o, hA, hg, hlt, by simpa [rInt] using hcell 0 _ rfl⟩
theorem Sl.bool_at {p : Nat → Prop} {w : World} {A : Option Addr} {n c : Nat} {l : List Bool} (h : Sl rBool p w (.slice A n c) l) (j : Nat) (hj : j < l.length) : ∃ g o, A = some ⟨g, o, none⟩ ∧ p g ∧ g < w.heap.size ∧ w.cell? ⟨g, o + j, none⟩ = some (.bool l[j]) := by
  obtain ⟨A', c', e, _, _, hr⟩ := h
  injection e with e1 e2 e3
  subst e1
  obtain ⟨g, o, cs, hA, hg, hlt, hok, hcell⟩ := hr j _ (List.getElem?_eq_getElem hj)
  have hk : cs = [.bool l[j]] := hok
  subst hk
  exact ⟨g, o, hA, hg, hlt, by simpa [rBool] using hcell 0 _ rfl⟩
theorem Sl.str_at {p : Nat → Prop} {w : World} {A : Option Addr} {n c : Nat} {l : List ByteArray} (h : Sl rStr p w (.slice A n c) l) (j : Nat) (hj : j < l.length) : ∃ g o, A = some ⟨g, o, none⟩ ∧ p g ∧ g < w.heap.size ∧ l[j].size ≤ 140737488351232 ∧ w.cell? ⟨g, o + j, none⟩ = some (.string l[j]) := by
  obtain ⟨A', c', e, _, _, hr⟩ := h
  injection e with e1 e2 e3
  subst e1
  obtain ⟨g, o, cs, hA, hg, hlt, ⟨hk, hz⟩, hcell⟩ := hr j _ (List.getElem?_eq_getElem hj)
  subst hk
  exact ⟨g, o, hA, hg, hlt, hz, by simpa [rStr] using hcell 0 _ rfl⟩
theorem Sl.sl_at {α : Type} {K : Rk α} {p : Nat → Prop} {w : World} {A : Option Addr} {n c : Nat} {l : List (List α)} (h : Sl (rSl K) p w (.slice A n c) l) (j : Nat) (hj : j < l.length) :
    ∃ g o B d, A = some ⟨g, o, none⟩ ∧ p g ∧ g < w.heap.size ∧ w.cell? ⟨g, o + j, none⟩ = some (.slice B l[j].length d) ∧ l[j].length ≤ d ∧ Sl K p w (.slice B l[j].length d) l[j] := by
  obtain ⟨A', c', e, _, _, hr⟩ := h
  injection e with e1 e2 e3
  subst e1
  obtain ⟨g, o, cs, hA, hg, hlt, ⟨v, rfl, hs⟩, hcell⟩ := hr j _ (List.getElem?_eq_getElem hj)
  obtain ⟨B, d, rfl, hd⟩ := hs.form
  exact ⟨g, o, B, d, hA, hg, hlt, by simpa [rSl] using hcell 0 _ rfl, hd, hs⟩

/-! ### what came in reads -/
section
variable {P : Program}
theorem weights_all {H : Type} {e : TypeId} {n : Nat} {d : DataW H} (hn : n ∈ d.weights P e) : ∀ {l : List (DataW H)}, d ∈ l → n ∈ DataW.weightsAll P e l
  | _ :: _, .head _ => by simp only [DataW.weightsAll, List.mem_append]; exact .inl hn
  | _ :: _, .tail _ h => by simp only [DataW.weightsAll, List.mem_append]; exact .inr (weights_all hn h)

/-- Whatever reads at type t says an x. -/
def Opens (P : Program) (t : TypeId) {α : Type} (K : Rk α) : Prop :=
  ∀ {H : Type} {enc : TypeId × Value → H} {w : World} {base : Nat} {sp : Nat → Bool} {held : Bool} {fuel : Nat} {cs : List Value} {d : DataW H} {ps : List MemPlace},
    DataW.trod enc P w base sp held fuel t cs = some (d, ps) → (∀ n ∈ d.weights P t, n ≤ 140737488351232) → ∃ x, K.ok (fun _ => True) w cs x

theorem opens_int {t : TypeId} (ht : P.underlying t = some (.int .i64)) : Opens P t rInt := by
  intro H enc w base sp held fuel cs d ps h _
  obtain ⟨n, rfl, _⟩ := DataW.trod_int ht h
  exact ⟨n, rfl⟩
theorem opens_bool {t : TypeId} (ht : P.underlying t = some .bool) : Opens P t rBool := by
  intro H enc w base sp held fuel cs d ps h _
  obtain ⟨n, rfl, _⟩ := DataW.trod_bool ht h
  exact ⟨n, rfl⟩
theorem opens_str {t : TypeId} (ht : P.underlying t = some .string) : Opens P t rStr := by
  intro H enc w base sp held fuel cs d ps h hw
  obtain ⟨s, rfl, hx, _⟩ := DataW.trod_string ht h
  simp only [Prod.mk.injEq] at hx
  obtain ⟨rfl, rfl⟩ := hx
  exact ⟨s, rfl, by simpa using hw s.data.toList.length (by simp [DataW.weights])⟩

theorem opens_sl {α : Type} {K : Rk α} {t e : TypeId} (ht : P.underlying t = some (.slice e)) (hn : P.cellsOf e = K.n) (hb : P.bytesOf e = K.by_) (he : Opens P e K) : Opens P t (rSl K) := by
  intro H enc w base sp held fuel cs d ps h hw
  rcases DataW.trod_slice ht h with ⟨rfl, _⟩ | ⟨a, len, cap, elems, rest, n, _, rfl, hx, _, hl, hm, hlen, hel, _, _⟩
  · exact ⟨[], _, rfl, Sl.nil K _ w⟩
  · simp only [Prod.mk.injEq] at hx
    obtain ⟨rfl, rfl⟩ := hx
    have hwt : (elems.length + rest.length) * P.bytesOf e ≤ 140737488351232 := hw _ (by simp [DataW.weights, ht])
    have each : ∀ i : Fin len, ∃ x cs, K.ok (fun _ => True) w cs x ∧ ∀ j u, cs[j]? = some u → w.cell? ((a.add (i.1 * K.n)).add j) = some u := by
      intro i
      have h1 := hel i.1 i.2
      rw [List.getElem?_eq_getElem (by omega), Option.bind_eq_some_iff] at h1
      obtain ⟨cs, hc, ht'⟩ := h1
      obtain ⟨x, hxo⟩ := he (d := elems[i.1].1) (ps := elems[i.1].2) ht' (fun n hn => hw n (by
        simp only [DataW.weights, ht, List.mem_cons, List.mem_append]
        exact .inr (.inl (weights_all hn (by simp only [List.mem_map]; exact ⟨_, List.getElem_mem _, rfl⟩)))))
      refine ⟨x, cs, hxo, fun j u hu => ?_⟩
      have hj : j < P.cellsOf e := by
        have := (List.getElem?_eq_some_iff.1 hu).1
        have := K.len hxo
        omega
      have := (World.cells?_some hc).2.2 j hj
      rw [hn] at this
      rw [this, hu]
    obtain ⟨f, hf⟩ := Classical.axiomOfChoice each
    refine ⟨List.ofFn f, _, rfl, some a, cap, by simp, by simpa using hl, ?_, fun j x hj => ?_⟩
    · rw [List.length_ofFn, ← hb]
      refine Nat.le_trans (Nat.mul_le_mul_right _ ?_) hwt
      omega
    · have hjl : j < len := by have := (List.getElem?_eq_some_iff.1 hj).1; simpa using this
      obtain ⟨cs, hok, hcell⟩ := hf ⟨j, hjl⟩
      have hxx : x = f ⟨j, hjl⟩ := by
        rw [List.getElem?_eq_getElem (by simpa using hjl)] at hj
        simpa using hj.symm
      subst hxx
      obtain ⟨g, o, s⟩ := a
      have hs : s = none := by
        obtain ⟨cs0, hok0, hcell0⟩ := hf ⟨0, by omega⟩
        have hp : 0 < cs0.length := by rw [K.len hok0]; exact K.pos
        have h0 := hcell0 0 _ (List.getElem?_eq_getElem hp)
        cases s with
        | none => rfl
        | some y => simp [Addr.add, World.cell?] at h0; split at h0 <;> simp at h0
      subst hs
      have hadd : ∀ (o i : Nat), (⟨g, o, none⟩ : Addr).add i = ⟨g, o + i, none⟩ := fun o i => by
        unfold Addr.add
        split <;> simp_all
      refine ⟨g, o, cs, rfl, trivial, ?_, hok, fun i u hu => by have := hcell i u hu; rwa [hadd, hadd] at this⟩
      have hp : 0 < cs.length := by rw [K.len hok]; exact K.pos
      have h0 := hcell 0 _ (List.getElem?_eq_getElem hp)
      rw [hadd] at h0
      exact World.block_lt_of_cell? w _ h0
end
end Go.Proofs.Ytekfbafljilchaa

/- The program's structs: Lean structures, what their cells say, how what came in is opened. (Printed by kinds.py.) -/
set_option linter.unusedVariables false
set_option linter.unusedSimpArgs false
namespace Go.Proofs.Ytekfbafljilchaa
open Go.RowKit

theorem list1 {α : Type} {l : List α} (h : l.length = 1) : ∃ c0, l = [c0] := by
  match l, h with
  | [c0], _ => exact ⟨c0, rfl⟩
theorem list2 {α : Type} {l : List α} (h : l.length = 2) : ∃ c0 c1, l = [c0, c1] := by
  match l, h with
  | [c0, c1], _ => exact ⟨c0, c1, rfl⟩
theorem list3 {α : Type} {l : List α} (h : l.length = 3) : ∃ c0 c1 c2, l = [c0, c1, c2] := by
  match l, h with
  | [c0, c1, c2], _ => exact ⟨c0, c1, c2, rfl⟩
theorem list6 {α : Type} {l : List α} (h : l.length = 6) : ∃ c0 c1 c2 c3 c4 c5, l = [c0, c1, c2, c3, c4, c5] := by
  match l, h with
  | [c0, c1, c2, c3, c4, c5], _ => exact ⟨c0, c1, c2, c3, c4, c5, rfl⟩
theorem list8 {α : Type} {l : List α} (h : l.length = 8) : ∃ c0 c1 c2 c3 c4 c5 c6 c7, l = [c0, c1, c2, c3, c4, c5, c6, c7] := by
  match l, h with
  | [c0, c1, c2, c3, c4, c5, c6, c7], _ => exact ⟨c0, c1, c2, c3, c4, c5, c6, c7, rfl⟩
theorem list13 {α : Type} {l : List α} (h : l.length = 13) : ∃ c0 c1 c2 c3 c4 c5 c6 c7 c8 c9 c10 c11 c12, l = [c0, c1, c2, c3, c4, c5, c6, c7, c8, c9, c10, c11, c12] := by
  match l, h with
  | [c0, c1, c2, c3, c4, c5, c6, c7, c8, c9, c10, c11, c12], _ => exact ⟨c0, c1, c2, c3, c4, c5, c6, c7, c8, c9, c10, c11, c12, rfl⟩
theorem list19 {α : Type} {l : List α} (h : l.length = 19) : ∃ c0 c1 c2 c3 c4 c5 c6 c7 c8 c9 c10 c11 c12 c13 c14 c15 c16 c17 c18, l = [c0, c1, c2, c3, c4, c5, c6, c7, c8, c9, c10, c11, c12, c13, c14, c15, c16, c17, c18] := by
  match l, h with
  | [c0, c1, c2, c3, c4, c5, c6, c7, c8, c9, c10, c11, c12, c13, c14, c15, c16, c17, c18], _ => exact ⟨c0, c1, c2, c3, c4, c5, c6, c7, c8, c9, c10, c11, c12, c13, c14, c15, c16, c17, c18, rfl⟩
theorem list11 {α : Type} {l : List α} (h : l.length = 11) : ∃ c0 c1 c2 c3 c4 c5 c6 c7 c8 c9 c10, l = [c0, c1, c2, c3, c4, c5, c6, c7, c8, c9, c10] := by
  match l, h with
  | [c0, c1, c2, c3, c4, c5, c6, c7, c8, c9, c10], _ => exact ⟨c0, c1, c2, c3, c4, c5, c6, c7, c8, c9, c10, rfl⟩
theorem list17 {α : Type} {l : List α} (h : l.length = 17) : ∃ c0 c1 c2 c3 c4 c5 c6 c7 c8 c9 c10 c11 c12 c13 c14 c15 c16, l = [c0, c1, c2, c3, c4, c5, c6, c7, c8, c9, c10, c11, c12, c13, c14, c15, c16] := by
  match l, h with
  | [c0, c1, c2, c3, c4, c5, c6, c7, c8, c9, c10, c11, c12, c13, c14, c15, c16], _ => exact ⟨c0, c1, c2, c3, c4, c5, c6, c7, c8, c9, c10, c11, c12, c13, c14, c15, c16, rfl⟩
theorem cells3 : Try.prog.cellsOf 3 = 1 := by kernel_rfl
theorem cells4 : Try.prog.cellsOf 4 = 1 := by kernel_rfl
theorem cells9 : Try.prog.cellsOf 9 = 1 := by kernel_rfl
theorem cells22 : Try.prog.cellsOf 22 = 1 := by kernel_rfl
theorem cells23 : Try.prog.cellsOf 23 = 1 := by kernel_rfl
theorem cells24 : Try.prog.cellsOf 24 = 1 := by kernel_rfl
theorem cells25 : Try.prog.cellsOf 25 = 1 := by kernel_rfl
theorem cells26 : Try.prog.cellsOf 26 = 1 := by kernel_rfl
theorem cells29 : Try.prog.cellsOf 29 = 1 := by kernel_rfl
theorem cells43 : Try.prog.cellsOf 43 = 1 := by kernel_rfl
theorem cells46 : Try.prog.cellsOf 46 = 1 := by kernel_rfl
theorem cells48 : Try.prog.cellsOf 48 = 3 := by kernel_rfl
theorem cells108 : Try.prog.cellsOf 108 = 1 := by kernel_rfl
theorem o3 : Opens Try.prog 3 rInt := opens_int Try.underlying3
theorem o4 : Opens Try.prog 4 rBool := opens_bool Try.underlying4
theorem o9 : Opens Try.prog 9 rStr := opens_str Try.underlying9
theorem o29 : Opens Try.prog 29 (rSl rInt) := opens_sl Try.underlying29 (by kernel_rfl) (by kernel_rfl) o3
theorem o43 : Opens Try.prog 43 (rSl rStr) := opens_sl Try.underlying43 (by kernel_rfl) (by kernel_rfl) o9
structure DPar where
  name : ByteArray
  expr : ByteArray
  deriving DecidableEq
instance : Inhabited DPar := ⟨⟨⟨#[]⟩, ⟨#[]⟩⟩⟩
def okPar (p : Nat → Prop) (w : World) (cs : List Value) (x : DPar) : Prop :=
  cs = [.string x.name, .string x.expr]
def rPar : Rk DPar where
  n := 2
  by_ := 32
  pos := by decide
  bpos := by decide
  ok := okPar
  len := fun h => by
    obtain rfl := h
    rfl
  one := fun h u hu => by
    obtain rfl := h
    simp only [List.mem_cons, List.not_mem_nil, or_false] at hu
    rcases hu with rfl | rfl
    · rfl
    · rfl
  fr := fun hp h => by
    obtain rfl := h
    exact rfl
theorem o130 : Opens Try.prog 130 rPar := by
  intro H enc w base sp held fuel cs d ps h hw
  obtain ⟨xs, n, _, hx, hl, hlen, hf⟩ := DataW.trod_struct Try.underlying130 h
  have hl' : cs.length = 2 := hl.trans (by kernel_rfl)
  obtain ⟨y0, y1, rfl⟩ := list2 (l := xs) hlen
  obtain ⟨c0, c1, rfl⟩ := list2 hl'
  simp only [Prod.mk.injEq] at hx
  obtain ⟨rfl, rfl⟩ := hx
  have g0 : DataW.trod enc Try.prog w base sp held n 9 [c0] = some y0 := by
    have h : DataW.trod enc Try.prog w base sp held n 9 (([c0, c1].drop 0).take (Try.prog.cellsOf 9)) = some y0 := hf 0 _ rfl
    rw [cells9] at h
    exact h
  obtain ⟨z0, e0⟩ := o9 (d := y0.1) (ps := y0.2) g0 (fun n hn => hw n (by
    simp only [DataW.weights, Try.underlying130]
    exact DataW.weights_mem_each (j := 0) rfl rfl n hn))
  have g1 : DataW.trod enc Try.prog w base sp held n 9 [c1] = some y1 := by
    have h : DataW.trod enc Try.prog w base sp held n 9 (([c0, c1].drop 1).take (Try.prog.cellsOf 9)) = some y1 := hf 1 _ rfl
    rw [cells9] at h
    exact h
  obtain ⟨z1, e1⟩ := o9 (d := y1.1) (ps := y1.2) g1 (fun n hn => hw n (by
    simp only [DataW.weights, Try.underlying130]
    exact DataW.weights_mem_each (j := 1) rfl rfl n hn))
  obtain ⟨q0, _⟩ := e0
  simp only [List.cons.injEq, and_true] at q0
  subst q0
  obtain ⟨q1, _⟩ := e1
  simp only [List.cons.injEq, and_true] at q1
  subst q1
  exact ⟨⟨z0, z1⟩, rfl⟩
theorem Sl.par_at {p : Nat → Prop} {w : World} {A : Option Addr} {n c : Nat} {l : List DPar} (h : Sl rPar p w (.slice A n c) l) (j : Nat) (hj : j < l.length) :
    ∃ g o , A = some ⟨g, o, none⟩ ∧ p g ∧ g < w.heap.size ∧ w.cell? ⟨g, o + j * 2, none⟩ = some (.string l[j].name) ∧ w.cell? ⟨g, o + j * 2 + 1, none⟩ = some (.string l[j].expr) := by
  obtain ⟨A', c', e, _, _, hr⟩ := h
  injection e with e1 e2 e3
  subst e1
  obtain ⟨g, o, cs, hA, hg, hlt, hok, hcell⟩ := hr j _ (List.getElem?_eq_getElem hj)
  have hok' : okPar p w cs l[j] := hok
  obtain rfl := hok'
  exact ⟨g, o, hA, hg, hlt, hcell 0 _ rfl, hcell 1 _ rfl⟩
theorem o46 : Opens Try.prog 46 (rSl rPar) := opens_sl Try.underlying46 (by kernel_rfl) (by kernel_rfl) o130
structure DLoad where
  kind : Int
  params : List DPar
  body : ByteArray
  deriving DecidableEq
instance : Inhabited DLoad := ⟨⟨0, [], ⟨#[]⟩⟩⟩
def okLoad (p : Nat → Prop) (w : World) (cs : List Value) (x : DLoad) : Prop :=
  ∃ v1, cs = [.int .i64 x.kind, v1, .string x.body] ∧ Sl rPar p w v1 x.params
def rLoad : Rk DLoad where
  n := 3
  by_ := 48
  pos := by decide
  bpos := by decide
  ok := okLoad
  len := fun h => by
    obtain ⟨v1, rfl, h1⟩ := h
    rfl
  one := fun h u hu => by
    obtain ⟨v1, rfl, h1⟩ := h
    simp only [List.mem_cons, List.not_mem_nil, or_false] at hu
    rcases hu with rfl | rfl | rfl
    · rfl
    · exact h1.one
    · rfl
  fr := fun hp h => by
    obtain ⟨v1, rfl, h1⟩ := h
    exact ⟨v1, rfl, h1.fr hp⟩
theorem o48 : Opens Try.prog 48 rLoad := by
  intro H enc w base sp held fuel cs d ps h hw
  obtain ⟨xs, n, _, hx, hl, hlen, hf⟩ := DataW.trod_struct Try.underlying48 h
  have hl' : cs.length = 3 := hl.trans (by kernel_rfl)
  obtain ⟨y0, y1, y2, rfl⟩ := list3 (l := xs) hlen
  obtain ⟨c0, c1, c2, rfl⟩ := list3 hl'
  simp only [Prod.mk.injEq] at hx
  obtain ⟨rfl, rfl⟩ := hx
  have g0 : DataW.trod enc Try.prog w base sp held n 3 [c0] = some y0 := by
    have h : DataW.trod enc Try.prog w base sp held n 3 (([c0, c1, c2].drop 0).take (Try.prog.cellsOf 3)) = some y0 := hf 0 _ rfl
    rw [cells3] at h
    exact h
  obtain ⟨z0, e0⟩ := o3 (d := y0.1) (ps := y0.2) g0 (fun n hn => hw n (by
    simp only [DataW.weights, Try.underlying48]
    exact DataW.weights_mem_each (j := 0) rfl rfl n hn))
  have g1 : DataW.trod enc Try.prog w base sp held n 46 [c1] = some y1 := by
    have h : DataW.trod enc Try.prog w base sp held n 46 (([c0, c1, c2].drop 1).take (Try.prog.cellsOf 46)) = some y1 := hf 1 _ rfl
    rw [cells46] at h
    exact h
  obtain ⟨z1, e1⟩ := o46 (d := y1.1) (ps := y1.2) g1 (fun n hn => hw n (by
    simp only [DataW.weights, Try.underlying48]
    exact DataW.weights_mem_each (j := 1) rfl rfl n hn))
  have g2 : DataW.trod enc Try.prog w base sp held n 9 [c2] = some y2 := by
    have h : DataW.trod enc Try.prog w base sp held n 9 (([c0, c1, c2].drop 2).take (Try.prog.cellsOf 9)) = some y2 := hf 2 _ rfl
    rw [cells9] at h
    exact h
  obtain ⟨z2, e2⟩ := o9 (d := y2.1) (ps := y2.2) g2 (fun n hn => hw n (by
    simp only [DataW.weights, Try.underlying48]
    exact DataW.weights_mem_each (j := 2) rfl rfl n hn))
  have q0 : [c0] = [.int .i64 z0] := e0
  simp only [List.cons.injEq, and_true] at q0
  subst q0
  obtain ⟨u1, q1, h1⟩ := e1
  simp only [List.cons.injEq, and_true] at q1
  subst q1
  obtain ⟨q2, _⟩ := e2
  simp only [List.cons.injEq, and_true] at q2
  subst q2
  exact ⟨⟨z0, z1, z2⟩, _, rfl, h1⟩
theorem Sl.load_at {p : Nat → Prop} {w : World} {A : Option Addr} {n c : Nat} {l : List DLoad} (h : Sl rLoad p w (.slice A n c) l) (j : Nat) (hj : j < l.length) :
    ∃ g o A1 d1, A = some ⟨g, o, none⟩ ∧ p g ∧ g < w.heap.size ∧ w.cell? ⟨g, o + j * 3, none⟩ = some (.int .i64 l[j].kind) ∧ w.cell? ⟨g, o + j * 3 + 1, none⟩ = some (.slice A1 l[j].params.length d1) ∧ w.cell? ⟨g, o + j * 3 + 2, none⟩ = some (.string l[j].body) ∧ Sl rPar p w (.slice A1 l[j].params.length d1) l[j].params := by
  obtain ⟨A', c', e, _, _, hr⟩ := h
  injection e with e1 e2 e3
  subst e1
  obtain ⟨g, o, cs, hA, hg, hlt, hok, hcell⟩ := hr j _ (List.getElem?_eq_getElem hj)
  have hok' : okLoad p w cs l[j] := hok
  obtain ⟨v1, rfl, h1⟩ := hok'
  obtain ⟨A1, d1, rfl, _⟩ := h1.form
  exact ⟨g, o, A1, d1, hA, hg, hlt, hcell 0 _ rfl, hcell 1 _ rfl, hcell 2 _ rfl, h1⟩
structure DState where
  id : ByteArray
  kind : Int
  par : Int
  kids : List Int
  init : Int
  entry : List Int
  exit : List Int
  trans : List Int
  data : List Int
  invokes : List Int
  done : DLoad
  deriving DecidableEq
instance : Inhabited DState := ⟨⟨⟨#[]⟩, 0, 0, [], 0, [], [], [], [], [], default⟩⟩
def okState (p : Nat → Prop) (w : World) (cs : List Value) (x : DState) : Prop :=
  ∃ v3 v5 v6 v7 v8 v9 v11, cs = [.string x.id, .int .i64 x.kind, .int .i64 x.par, v3, .int .i64 x.init, v5, v6, v7, v8, v9, .int .i64 x.done.kind, v11, .string x.done.body] ∧ Sl rInt p w v3 x.kids ∧ Sl rInt p w v5 x.entry ∧ Sl rInt p w v6 x.exit ∧ Sl rInt p w v7 x.trans ∧ Sl rInt p w v8 x.data ∧ Sl rInt p w v9 x.invokes ∧ Sl rPar p w v11 x.done.params
def rState : Rk DState where
  n := 13
  by_ := 232
  pos := by decide
  bpos := by decide
  ok := okState
  len := fun h => by
    obtain ⟨v3, v5, v6, v7, v8, v9, v11, rfl, h3, h5, h6, h7, h8, h9, h11⟩ := h
    rfl
  one := fun h u hu => by
    obtain ⟨v3, v5, v6, v7, v8, v9, v11, rfl, h3, h5, h6, h7, h8, h9, h11⟩ := h
    simp only [List.mem_cons, List.not_mem_nil, or_false] at hu
    rcases hu with rfl | rfl | rfl | rfl | rfl | rfl | rfl | rfl | rfl | rfl | rfl | rfl | rfl
    · rfl
    · rfl
    · rfl
    · exact h3.one
    · rfl
    · exact h5.one
    · exact h6.one
    · exact h7.one
    · exact h8.one
    · exact h9.one
    · rfl
    · exact h11.one
    · rfl
  fr := fun hp h => by
    obtain ⟨v3, v5, v6, v7, v8, v9, v11, rfl, h3, h5, h6, h7, h8, h9, h11⟩ := h
    exact ⟨v3, v5, v6, v7, v8, v9, v11, rfl, h3.fr hp, h5.fr hp, h6.fr hp, h7.fr hp, h8.fr hp, h9.fr hp, h11.fr hp⟩
theorem o50 : Opens Try.prog 50 rState := by
  intro H enc w base sp held fuel cs d ps h hw
  obtain ⟨xs, n, _, hx, hl, hlen, hf⟩ := DataW.trod_struct Try.underlying50 h
  have hl' : cs.length = 13 := hl.trans (by kernel_rfl)
  obtain ⟨y0, y1, y2, y3, y4, y5, y6, y7, y8, y9, y10, rfl⟩ := list11 (l := xs) hlen
  obtain ⟨c0, c1, c2, c3, c4, c5, c6, c7, c8, c9, c10, c11, c12, rfl⟩ := list13 hl'
  simp only [Prod.mk.injEq] at hx
  obtain ⟨rfl, rfl⟩ := hx
  have g0 : DataW.trod enc Try.prog w base sp held n 9 [c0] = some y0 := by
    have h : DataW.trod enc Try.prog w base sp held n 9 (([c0, c1, c2, c3, c4, c5, c6, c7, c8, c9, c10, c11, c12].drop 0).take (Try.prog.cellsOf 9)) = some y0 := hf 0 _ rfl
    rw [cells9] at h
    exact h
  obtain ⟨z0, e0⟩ := o9 (d := y0.1) (ps := y0.2) g0 (fun n hn => hw n (by
    simp only [DataW.weights, Try.underlying50]
    exact DataW.weights_mem_each (j := 0) rfl rfl n hn))
  have g1 : DataW.trod enc Try.prog w base sp held n 3 [c1] = some y1 := by
    have h : DataW.trod enc Try.prog w base sp held n 3 (([c0, c1, c2, c3, c4, c5, c6, c7, c8, c9, c10, c11, c12].drop 1).take (Try.prog.cellsOf 3)) = some y1 := hf 1 _ rfl
    rw [cells3] at h
    exact h
  obtain ⟨z1, e1⟩ := o3 (d := y1.1) (ps := y1.2) g1 (fun n hn => hw n (by
    simp only [DataW.weights, Try.underlying50]
    exact DataW.weights_mem_each (j := 1) rfl rfl n hn))
  have g2 : DataW.trod enc Try.prog w base sp held n 3 [c2] = some y2 := by
    have h : DataW.trod enc Try.prog w base sp held n 3 (([c0, c1, c2, c3, c4, c5, c6, c7, c8, c9, c10, c11, c12].drop 2).take (Try.prog.cellsOf 3)) = some y2 := hf 2 _ rfl
    rw [cells3] at h
    exact h
  obtain ⟨z2, e2⟩ := o3 (d := y2.1) (ps := y2.2) g2 (fun n hn => hw n (by
    simp only [DataW.weights, Try.underlying50]
    exact DataW.weights_mem_each (j := 2) rfl rfl n hn))
  have g3 : DataW.trod enc Try.prog w base sp held n 29 [c3] = some y3 := by
    have h : DataW.trod enc Try.prog w base sp held n 29 (([c0, c1, c2, c3, c4, c5, c6, c7, c8, c9, c10, c11, c12].drop 3).take (Try.prog.cellsOf 29)) = some y3 := hf 3 _ rfl
    rw [cells29] at h
    exact h
  obtain ⟨z3, e3⟩ := o29 (d := y3.1) (ps := y3.2) g3 (fun n hn => hw n (by
    simp only [DataW.weights, Try.underlying50]
    exact DataW.weights_mem_each (j := 3) rfl rfl n hn))
  have g4 : DataW.trod enc Try.prog w base sp held n 3 [c4] = some y4 := by
    have h : DataW.trod enc Try.prog w base sp held n 3 (([c0, c1, c2, c3, c4, c5, c6, c7, c8, c9, c10, c11, c12].drop 4).take (Try.prog.cellsOf 3)) = some y4 := hf 4 _ rfl
    rw [cells3] at h
    exact h
  obtain ⟨z4, e4⟩ := o3 (d := y4.1) (ps := y4.2) g4 (fun n hn => hw n (by
    simp only [DataW.weights, Try.underlying50]
    exact DataW.weights_mem_each (j := 4) rfl rfl n hn))
  have g5 : DataW.trod enc Try.prog w base sp held n 29 [c5] = some y5 := by
    have h : DataW.trod enc Try.prog w base sp held n 29 (([c0, c1, c2, c3, c4, c5, c6, c7, c8, c9, c10, c11, c12].drop 5).take (Try.prog.cellsOf 29)) = some y5 := hf 5 _ rfl
    rw [cells29] at h
    exact h
  obtain ⟨z5, e5⟩ := o29 (d := y5.1) (ps := y5.2) g5 (fun n hn => hw n (by
    simp only [DataW.weights, Try.underlying50]
    exact DataW.weights_mem_each (j := 5) rfl rfl n hn))
  have g6 : DataW.trod enc Try.prog w base sp held n 29 [c6] = some y6 := by
    have h : DataW.trod enc Try.prog w base sp held n 29 (([c0, c1, c2, c3, c4, c5, c6, c7, c8, c9, c10, c11, c12].drop 6).take (Try.prog.cellsOf 29)) = some y6 := hf 6 _ rfl
    rw [cells29] at h
    exact h
  obtain ⟨z6, e6⟩ := o29 (d := y6.1) (ps := y6.2) g6 (fun n hn => hw n (by
    simp only [DataW.weights, Try.underlying50]
    exact DataW.weights_mem_each (j := 6) rfl rfl n hn))
  have g7 : DataW.trod enc Try.prog w base sp held n 29 [c7] = some y7 := by
    have h : DataW.trod enc Try.prog w base sp held n 29 (([c0, c1, c2, c3, c4, c5, c6, c7, c8, c9, c10, c11, c12].drop 7).take (Try.prog.cellsOf 29)) = some y7 := hf 7 _ rfl
    rw [cells29] at h
    exact h
  obtain ⟨z7, e7⟩ := o29 (d := y7.1) (ps := y7.2) g7 (fun n hn => hw n (by
    simp only [DataW.weights, Try.underlying50]
    exact DataW.weights_mem_each (j := 7) rfl rfl n hn))
  have g8 : DataW.trod enc Try.prog w base sp held n 29 [c8] = some y8 := by
    have h : DataW.trod enc Try.prog w base sp held n 29 (([c0, c1, c2, c3, c4, c5, c6, c7, c8, c9, c10, c11, c12].drop 8).take (Try.prog.cellsOf 29)) = some y8 := hf 8 _ rfl
    rw [cells29] at h
    exact h
  obtain ⟨z8, e8⟩ := o29 (d := y8.1) (ps := y8.2) g8 (fun n hn => hw n (by
    simp only [DataW.weights, Try.underlying50]
    exact DataW.weights_mem_each (j := 8) rfl rfl n hn))
  have g9 : DataW.trod enc Try.prog w base sp held n 29 [c9] = some y9 := by
    have h : DataW.trod enc Try.prog w base sp held n 29 (([c0, c1, c2, c3, c4, c5, c6, c7, c8, c9, c10, c11, c12].drop 9).take (Try.prog.cellsOf 29)) = some y9 := hf 9 _ rfl
    rw [cells29] at h
    exact h
  obtain ⟨z9, e9⟩ := o29 (d := y9.1) (ps := y9.2) g9 (fun n hn => hw n (by
    simp only [DataW.weights, Try.underlying50]
    exact DataW.weights_mem_each (j := 9) rfl rfl n hn))
  have g10 : DataW.trod enc Try.prog w base sp held n 48 [c10, c11, c12] = some y10 := by
    have h : DataW.trod enc Try.prog w base sp held n 48 (([c0, c1, c2, c3, c4, c5, c6, c7, c8, c9, c10, c11, c12].drop 10).take (Try.prog.cellsOf 48)) = some y10 := hf 10 _ rfl
    rw [cells48] at h
    exact h
  obtain ⟨z10, e10⟩ := o48 (d := y10.1) (ps := y10.2) g10 (fun n hn => hw n (by
    simp only [DataW.weights, Try.underlying50]
    exact DataW.weights_mem_each (j := 10) rfl rfl n hn))
  obtain ⟨q0, _⟩ := e0
  simp only [List.cons.injEq, and_true] at q0
  subst q0
  have q1 : [c1] = [.int .i64 z1] := e1
  simp only [List.cons.injEq, and_true] at q1
  subst q1
  have q2 : [c2] = [.int .i64 z2] := e2
  simp only [List.cons.injEq, and_true] at q2
  subst q2
  obtain ⟨u3, q3, h3⟩ := e3
  simp only [List.cons.injEq, and_true] at q3
  subst q3
  have q4 : [c4] = [.int .i64 z4] := e4
  simp only [List.cons.injEq, and_true] at q4
  subst q4
  obtain ⟨u5, q5, h5⟩ := e5
  simp only [List.cons.injEq, and_true] at q5
  subst q5
  obtain ⟨u6, q6, h6⟩ := e6
  simp only [List.cons.injEq, and_true] at q6
  subst q6
  obtain ⟨u7, q7, h7⟩ := e7
  simp only [List.cons.injEq, and_true] at q7
  subst q7
  obtain ⟨u8, q8, h8⟩ := e8
  simp only [List.cons.injEq, and_true] at q8
  subst q8
  obtain ⟨u9, q9, h9⟩ := e9
  simp only [List.cons.injEq, and_true] at q9
  subst q9
  obtain ⟨u11, q10, h11⟩ := e10
  simp only [List.cons.injEq, and_true] at q10
  obtain ⟨rfl, rfl, rfl⟩ := q10
  exact ⟨⟨z0, z1, z2, z3, z4, z5, z6, z7, z8, z9, z10⟩, _, _, _, _, _, _, _, rfl, h3, h5, h6, h7, h8, h9, h11⟩
theorem Sl.state_at {p : Nat → Prop} {w : World} {A : Option Addr} {n c : Nat} {l : List DState} (h : Sl rState p w (.slice A n c) l) (j : Nat) (hj : j < l.length) :
    ∃ g o A3 d3 A5 d5 A6 d6 A7 d7 A8 d8 A9 d9 A11 d11, A = some ⟨g, o, none⟩ ∧ p g ∧ g < w.heap.size ∧ w.cell? ⟨g, o + j * 13, none⟩ = some (.string l[j].id) ∧ w.cell? ⟨g, o + j * 13 + 1, none⟩ = some (.int .i64 l[j].kind) ∧ w.cell? ⟨g, o + j * 13 + 2, none⟩ = some (.int .i64 l[j].par) ∧ w.cell? ⟨g, o + j * 13 + 3, none⟩ = some (.slice A3 l[j].kids.length d3) ∧ w.cell? ⟨g, o + j * 13 + 4, none⟩ = some (.int .i64 l[j].init) ∧ w.cell? ⟨g, o + j * 13 + 5, none⟩ = some (.slice A5 l[j].entry.length d5) ∧ w.cell? ⟨g, o + j * 13 + 6, none⟩ = some (.slice A6 l[j].exit.length d6) ∧ w.cell? ⟨g, o + j * 13 + 7, none⟩ = some (.slice A7 l[j].trans.length d7) ∧ w.cell? ⟨g, o + j * 13 + 8, none⟩ = some (.slice A8 l[j].data.length d8) ∧ w.cell? ⟨g, o + j * 13 + 9, none⟩ = some (.slice A9 l[j].invokes.length d9) ∧ w.cell? ⟨g, o + j * 13 + 10, none⟩ = some (.int .i64 l[j].done.kind) ∧ w.cell? ⟨g, o + j * 13 + 11, none⟩ = some (.slice A11 l[j].done.params.length d11) ∧ w.cell? ⟨g, o + j * 13 + 12, none⟩ = some (.string l[j].done.body) ∧ Sl rInt p w (.slice A3 l[j].kids.length d3) l[j].kids ∧ Sl rInt p w (.slice A5 l[j].entry.length d5) l[j].entry ∧ Sl rInt p w (.slice A6 l[j].exit.length d6) l[j].exit ∧ Sl rInt p w (.slice A7 l[j].trans.length d7) l[j].trans ∧ Sl rInt p w (.slice A8 l[j].data.length d8) l[j].data ∧ Sl rInt p w (.slice A9 l[j].invokes.length d9) l[j].invokes ∧ Sl rPar p w (.slice A11 l[j].done.params.length d11) l[j].done.params := by
  obtain ⟨A', c', e, _, _, hr⟩ := h
  injection e with e1 e2 e3
  subst e1
  obtain ⟨g, o, cs, hA, hg, hlt, hok, hcell⟩ := hr j _ (List.getElem?_eq_getElem hj)
  have hok' : okState p w cs l[j] := hok
  obtain ⟨v3, v5, v6, v7, v8, v9, v11, rfl, h3, h5, h6, h7, h8, h9, h11⟩ := hok'
  obtain ⟨A3, d3, rfl, _⟩ := h3.form
  obtain ⟨A5, d5, rfl, _⟩ := h5.form
  obtain ⟨A6, d6, rfl, _⟩ := h6.form
  obtain ⟨A7, d7, rfl, _⟩ := h7.form
  obtain ⟨A8, d8, rfl, _⟩ := h8.form
  obtain ⟨A9, d9, rfl, _⟩ := h9.form
  obtain ⟨A11, d11, rfl, _⟩ := h11.form
  exact ⟨g, o, A3, d3, A5, d5, A6, d6, A7, d7, A8, d8, A9, d9, A11, d11, hA, hg, hlt, hcell 0 _ rfl, hcell 1 _ rfl, hcell 2 _ rfl, hcell 3 _ rfl, hcell 4 _ rfl, hcell 5 _ rfl, hcell 6 _ rfl, hcell 7 _ rfl, hcell 8 _ rfl, hcell 9 _ rfl, hcell 10 _ rfl, hcell 11 _ rfl, hcell 12 _ rfl, h3, h5, h6, h7, h8, h9, h11⟩
theorem o22 : Opens Try.prog 22 (rSl rState) := opens_sl Try.underlying22 (by kernel_rfl) (by kernel_rfl) o50
structure DTrans where
  src : Int
  events : List ByteArray
  cond : ByteArray
  targets : List Int
  internal : Bool
  block : Int
  deriving DecidableEq
instance : Inhabited DTrans := ⟨⟨0, [], ⟨#[]⟩, [], false, 0⟩⟩
def okTrans (p : Nat → Prop) (w : World) (cs : List Value) (x : DTrans) : Prop :=
  ∃ v1 v3, cs = [.int .i64 x.src, v1, .string x.cond, v3, .bool x.internal, .int .i64 x.block] ∧ Sl rStr p w v1 x.events ∧ Sl rInt p w v3 x.targets
def rTrans : Rk DTrans where
  n := 6
  by_ := 88
  pos := by decide
  bpos := by decide
  ok := okTrans
  len := fun h => by
    obtain ⟨v1, v3, rfl, h1, h3⟩ := h
    rfl
  one := fun h u hu => by
    obtain ⟨v1, v3, rfl, h1, h3⟩ := h
    simp only [List.mem_cons, List.not_mem_nil, or_false] at hu
    rcases hu with rfl | rfl | rfl | rfl | rfl | rfl
    · rfl
    · exact h1.one
    · rfl
    · exact h3.one
    · rfl
    · rfl
  fr := fun hp h => by
    obtain ⟨v1, v3, rfl, h1, h3⟩ := h
    exact ⟨v1, v3, rfl, h1.fr hp, h3.fr hp⟩
theorem o45 : Opens Try.prog 45 rTrans := by
  intro H enc w base sp held fuel cs d ps h hw
  obtain ⟨xs, n, _, hx, hl, hlen, hf⟩ := DataW.trod_struct Try.underlying45 h
  have hl' : cs.length = 6 := hl.trans (by kernel_rfl)
  obtain ⟨y0, y1, y2, y3, y4, y5, rfl⟩ := list6 (l := xs) hlen
  obtain ⟨c0, c1, c2, c3, c4, c5, rfl⟩ := list6 hl'
  simp only [Prod.mk.injEq] at hx
  obtain ⟨rfl, rfl⟩ := hx
  have g0 : DataW.trod enc Try.prog w base sp held n 3 [c0] = some y0 := by
    have h : DataW.trod enc Try.prog w base sp held n 3 (([c0, c1, c2, c3, c4, c5].drop 0).take (Try.prog.cellsOf 3)) = some y0 := hf 0 _ rfl
    rw [cells3] at h
    exact h
  obtain ⟨z0, e0⟩ := o3 (d := y0.1) (ps := y0.2) g0 (fun n hn => hw n (by
    simp only [DataW.weights, Try.underlying45]
    exact DataW.weights_mem_each (j := 0) rfl rfl n hn))
  have g1 : DataW.trod enc Try.prog w base sp held n 43 [c1] = some y1 := by
    have h : DataW.trod enc Try.prog w base sp held n 43 (([c0, c1, c2, c3, c4, c5].drop 1).take (Try.prog.cellsOf 43)) = some y1 := hf 1 _ rfl
    rw [cells43] at h
    exact h
  obtain ⟨z1, e1⟩ := o43 (d := y1.1) (ps := y1.2) g1 (fun n hn => hw n (by
    simp only [DataW.weights, Try.underlying45]
    exact DataW.weights_mem_each (j := 1) rfl rfl n hn))
  have g2 : DataW.trod enc Try.prog w base sp held n 9 [c2] = some y2 := by
    have h : DataW.trod enc Try.prog w base sp held n 9 (([c0, c1, c2, c3, c4, c5].drop 2).take (Try.prog.cellsOf 9)) = some y2 := hf 2 _ rfl
    rw [cells9] at h
    exact h
  obtain ⟨z2, e2⟩ := o9 (d := y2.1) (ps := y2.2) g2 (fun n hn => hw n (by
    simp only [DataW.weights, Try.underlying45]
    exact DataW.weights_mem_each (j := 2) rfl rfl n hn))
  have g3 : DataW.trod enc Try.prog w base sp held n 29 [c3] = some y3 := by
    have h : DataW.trod enc Try.prog w base sp held n 29 (([c0, c1, c2, c3, c4, c5].drop 3).take (Try.prog.cellsOf 29)) = some y3 := hf 3 _ rfl
    rw [cells29] at h
    exact h
  obtain ⟨z3, e3⟩ := o29 (d := y3.1) (ps := y3.2) g3 (fun n hn => hw n (by
    simp only [DataW.weights, Try.underlying45]
    exact DataW.weights_mem_each (j := 3) rfl rfl n hn))
  have g4 : DataW.trod enc Try.prog w base sp held n 4 [c4] = some y4 := by
    have h : DataW.trod enc Try.prog w base sp held n 4 (([c0, c1, c2, c3, c4, c5].drop 4).take (Try.prog.cellsOf 4)) = some y4 := hf 4 _ rfl
    rw [cells4] at h
    exact h
  obtain ⟨z4, e4⟩ := o4 (d := y4.1) (ps := y4.2) g4 (fun n hn => hw n (by
    simp only [DataW.weights, Try.underlying45]
    exact DataW.weights_mem_each (j := 4) rfl rfl n hn))
  have g5 : DataW.trod enc Try.prog w base sp held n 3 [c5] = some y5 := by
    have h : DataW.trod enc Try.prog w base sp held n 3 (([c0, c1, c2, c3, c4, c5].drop 5).take (Try.prog.cellsOf 3)) = some y5 := hf 5 _ rfl
    rw [cells3] at h
    exact h
  obtain ⟨z5, e5⟩ := o3 (d := y5.1) (ps := y5.2) g5 (fun n hn => hw n (by
    simp only [DataW.weights, Try.underlying45]
    exact DataW.weights_mem_each (j := 5) rfl rfl n hn))
  have q0 : [c0] = [.int .i64 z0] := e0
  simp only [List.cons.injEq, and_true] at q0
  subst q0
  obtain ⟨u1, q1, h1⟩ := e1
  simp only [List.cons.injEq, and_true] at q1
  subst q1
  obtain ⟨q2, _⟩ := e2
  simp only [List.cons.injEq, and_true] at q2
  subst q2
  obtain ⟨u3, q3, h3⟩ := e3
  simp only [List.cons.injEq, and_true] at q3
  subst q3
  have q4 : [c4] = [.bool z4] := e4
  simp only [List.cons.injEq, and_true] at q4
  subst q4
  have q5 : [c5] = [.int .i64 z5] := e5
  simp only [List.cons.injEq, and_true] at q5
  subst q5
  exact ⟨⟨z0, z1, z2, z3, z4, z5⟩, _, _, rfl, h1, h3⟩
theorem Sl.trans_at {p : Nat → Prop} {w : World} {A : Option Addr} {n c : Nat} {l : List DTrans} (h : Sl rTrans p w (.slice A n c) l) (j : Nat) (hj : j < l.length) :
    ∃ g o A1 d1 A3 d3, A = some ⟨g, o, none⟩ ∧ p g ∧ g < w.heap.size ∧ w.cell? ⟨g, o + j * 6, none⟩ = some (.int .i64 l[j].src) ∧ w.cell? ⟨g, o + j * 6 + 1, none⟩ = some (.slice A1 l[j].events.length d1) ∧ w.cell? ⟨g, o + j * 6 + 2, none⟩ = some (.string l[j].cond) ∧ w.cell? ⟨g, o + j * 6 + 3, none⟩ = some (.slice A3 l[j].targets.length d3) ∧ w.cell? ⟨g, o + j * 6 + 4, none⟩ = some (.bool l[j].internal) ∧ w.cell? ⟨g, o + j * 6 + 5, none⟩ = some (.int .i64 l[j].block) ∧ Sl rStr p w (.slice A1 l[j].events.length d1) l[j].events ∧ Sl rInt p w (.slice A3 l[j].targets.length d3) l[j].targets := by
  obtain ⟨A', c', e, _, _, hr⟩ := h
  injection e with e1 e2 e3
  subst e1
  obtain ⟨g, o, cs, hA, hg, hlt, hok, hcell⟩ := hr j _ (List.getElem?_eq_getElem hj)
  have hok' : okTrans p w cs l[j] := hok
  obtain ⟨v1, v3, rfl, h1, h3⟩ := hok'
  obtain ⟨A1, d1, rfl, _⟩ := h1.form
  obtain ⟨A3, d3, rfl, _⟩ := h3.form
  exact ⟨g, o, A1, d1, A3, d3, hA, hg, hlt, hcell 0 _ rfl, hcell 1 _ rfl, hcell 2 _ rfl, hcell 3 _ rfl, hcell 4 _ rfl, hcell 5 _ rfl, h1, h3⟩
theorem o23 : Opens Try.prog 23 (rSl rTrans) := opens_sl Try.underlying23 (by kernel_rfl) (by kernel_rfl) o45
structure DAct where
  kind : Int
  event : ByteArray
  eventExpr : ByteArray
  target : ByteArray
  targetExpr : ByteArray
  type_ : ByteArray
  id : ByteArray
  place : ByteArray
  delay : Int
  delayExpr : ByteArray
  expr : ByteArray
  label : ByteArray
  item : ByteArray
  index : ByteArray
  conds : List ByteArray
  blocks : List Int
  load : DLoad
  deriving DecidableEq
instance : Inhabited DAct := ⟨⟨0, ⟨#[]⟩, ⟨#[]⟩, ⟨#[]⟩, ⟨#[]⟩, ⟨#[]⟩, ⟨#[]⟩, ⟨#[]⟩, 0, ⟨#[]⟩, ⟨#[]⟩, ⟨#[]⟩, ⟨#[]⟩, ⟨#[]⟩, [], [], default⟩⟩
def okAct (p : Nat → Prop) (w : World) (cs : List Value) (x : DAct) : Prop :=
  ∃ v14 v15 v17, cs = [.int .i64 x.kind, .string x.event, .string x.eventExpr, .string x.target, .string x.targetExpr, .string x.type_, .string x.id, .string x.place, .int .i64 x.delay, .string x.delayExpr, .string x.expr, .string x.label, .string x.item, .string x.index, v14, v15, .int .i64 x.load.kind, v17, .string x.load.body] ∧ Sl rStr p w v14 x.conds ∧ Sl rInt p w v15 x.blocks ∧ Sl rPar p w v17 x.load.params
def rAct : Rk DAct where
  n := 19
  by_ := 304
  pos := by decide
  bpos := by decide
  ok := okAct
  len := fun h => by
    obtain ⟨v14, v15, v17, rfl, h14, h15, h17⟩ := h
    rfl
  one := fun h u hu => by
    obtain ⟨v14, v15, v17, rfl, h14, h15, h17⟩ := h
    simp only [List.mem_cons, List.not_mem_nil, or_false] at hu
    rcases hu with rfl | rfl | rfl | rfl | rfl | rfl | rfl | rfl | rfl | rfl | rfl | rfl | rfl | rfl | rfl | rfl | rfl | rfl | rfl
    · rfl
    · rfl
    · rfl
    · rfl
    · rfl
    · rfl
    · rfl
    · rfl
    · rfl
    · rfl
    · rfl
    · rfl
    · rfl
    · rfl
    · exact h14.one
    · exact h15.one
    · rfl
    · exact h17.one
    · rfl
  fr := fun hp h => by
    obtain ⟨v14, v15, v17, rfl, h14, h15, h17⟩ := h
    exact ⟨v14, v15, v17, rfl, h14.fr hp, h15.fr hp, h17.fr hp⟩
theorem o113 : Opens Try.prog 113 rAct := by
  intro H enc w base sp held fuel cs d ps h hw
  obtain ⟨xs, n, _, hx, hl, hlen, hf⟩ := DataW.trod_struct Try.underlying113 h
  have hl' : cs.length = 19 := hl.trans (by kernel_rfl)
  obtain ⟨y0, y1, y2, y3, y4, y5, y6, y7, y8, y9, y10, y11, y12, y13, y14, y15, y16, rfl⟩ := list17 (l := xs) hlen
  obtain ⟨c0, c1, c2, c3, c4, c5, c6, c7, c8, c9, c10, c11, c12, c13, c14, c15, c16, c17, c18, rfl⟩ := list19 hl'
  simp only [Prod.mk.injEq] at hx
  obtain ⟨rfl, rfl⟩ := hx
  have g0 : DataW.trod enc Try.prog w base sp held n 3 [c0] = some y0 := by
    have h : DataW.trod enc Try.prog w base sp held n 3 (([c0, c1, c2, c3, c4, c5, c6, c7, c8, c9, c10, c11, c12, c13, c14, c15, c16, c17, c18].drop 0).take (Try.prog.cellsOf 3)) = some y0 := hf 0 _ rfl
    rw [cells3] at h
    exact h
  obtain ⟨z0, e0⟩ := o3 (d := y0.1) (ps := y0.2) g0 (fun n hn => hw n (by
    simp only [DataW.weights, Try.underlying113]
    exact DataW.weights_mem_each (j := 0) rfl rfl n hn))
  have g1 : DataW.trod enc Try.prog w base sp held n 9 [c1] = some y1 := by
    have h : DataW.trod enc Try.prog w base sp held n 9 (([c0, c1, c2, c3, c4, c5, c6, c7, c8, c9, c10, c11, c12, c13, c14, c15, c16, c17, c18].drop 1).take (Try.prog.cellsOf 9)) = some y1 := hf 1 _ rfl
    rw [cells9] at h
    exact h
  obtain ⟨z1, e1⟩ := o9 (d := y1.1) (ps := y1.2) g1 (fun n hn => hw n (by
    simp only [DataW.weights, Try.underlying113]
    exact DataW.weights_mem_each (j := 1) rfl rfl n hn))
  have g2 : DataW.trod enc Try.prog w base sp held n 9 [c2] = some y2 := by
    have h : DataW.trod enc Try.prog w base sp held n 9 (([c0, c1, c2, c3, c4, c5, c6, c7, c8, c9, c10, c11, c12, c13, c14, c15, c16, c17, c18].drop 2).take (Try.prog.cellsOf 9)) = some y2 := hf 2 _ rfl
    rw [cells9] at h
    exact h
  obtain ⟨z2, e2⟩ := o9 (d := y2.1) (ps := y2.2) g2 (fun n hn => hw n (by
    simp only [DataW.weights, Try.underlying113]
    exact DataW.weights_mem_each (j := 2) rfl rfl n hn))
  have g3 : DataW.trod enc Try.prog w base sp held n 9 [c3] = some y3 := by
    have h : DataW.trod enc Try.prog w base sp held n 9 (([c0, c1, c2, c3, c4, c5, c6, c7, c8, c9, c10, c11, c12, c13, c14, c15, c16, c17, c18].drop 3).take (Try.prog.cellsOf 9)) = some y3 := hf 3 _ rfl
    rw [cells9] at h
    exact h
  obtain ⟨z3, e3⟩ := o9 (d := y3.1) (ps := y3.2) g3 (fun n hn => hw n (by
    simp only [DataW.weights, Try.underlying113]
    exact DataW.weights_mem_each (j := 3) rfl rfl n hn))
  have g4 : DataW.trod enc Try.prog w base sp held n 9 [c4] = some y4 := by
    have h : DataW.trod enc Try.prog w base sp held n 9 (([c0, c1, c2, c3, c4, c5, c6, c7, c8, c9, c10, c11, c12, c13, c14, c15, c16, c17, c18].drop 4).take (Try.prog.cellsOf 9)) = some y4 := hf 4 _ rfl
    rw [cells9] at h
    exact h
  obtain ⟨z4, e4⟩ := o9 (d := y4.1) (ps := y4.2) g4 (fun n hn => hw n (by
    simp only [DataW.weights, Try.underlying113]
    exact DataW.weights_mem_each (j := 4) rfl rfl n hn))
  have g5 : DataW.trod enc Try.prog w base sp held n 9 [c5] = some y5 := by
    have h : DataW.trod enc Try.prog w base sp held n 9 (([c0, c1, c2, c3, c4, c5, c6, c7, c8, c9, c10, c11, c12, c13, c14, c15, c16, c17, c18].drop 5).take (Try.prog.cellsOf 9)) = some y5 := hf 5 _ rfl
    rw [cells9] at h
    exact h
  obtain ⟨z5, e5⟩ := o9 (d := y5.1) (ps := y5.2) g5 (fun n hn => hw n (by
    simp only [DataW.weights, Try.underlying113]
    exact DataW.weights_mem_each (j := 5) rfl rfl n hn))
  have g6 : DataW.trod enc Try.prog w base sp held n 9 [c6] = some y6 := by
    have h : DataW.trod enc Try.prog w base sp held n 9 (([c0, c1, c2, c3, c4, c5, c6, c7, c8, c9, c10, c11, c12, c13, c14, c15, c16, c17, c18].drop 6).take (Try.prog.cellsOf 9)) = some y6 := hf 6 _ rfl
    rw [cells9] at h
    exact h
  obtain ⟨z6, e6⟩ := o9 (d := y6.1) (ps := y6.2) g6 (fun n hn => hw n (by
    simp only [DataW.weights, Try.underlying113]
    exact DataW.weights_mem_each (j := 6) rfl rfl n hn))
  have g7 : DataW.trod enc Try.prog w base sp held n 9 [c7] = some y7 := by
    have h : DataW.trod enc Try.prog w base sp held n 9 (([c0, c1, c2, c3, c4, c5, c6, c7, c8, c9, c10, c11, c12, c13, c14, c15, c16, c17, c18].drop 7).take (Try.prog.cellsOf 9)) = some y7 := hf 7 _ rfl
    rw [cells9] at h
    exact h
  obtain ⟨z7, e7⟩ := o9 (d := y7.1) (ps := y7.2) g7 (fun n hn => hw n (by
    simp only [DataW.weights, Try.underlying113]
    exact DataW.weights_mem_each (j := 7) rfl rfl n hn))
  have g8 : DataW.trod enc Try.prog w base sp held n 3 [c8] = some y8 := by
    have h : DataW.trod enc Try.prog w base sp held n 3 (([c0, c1, c2, c3, c4, c5, c6, c7, c8, c9, c10, c11, c12, c13, c14, c15, c16, c17, c18].drop 8).take (Try.prog.cellsOf 3)) = some y8 := hf 8 _ rfl
    rw [cells3] at h
    exact h
  obtain ⟨z8, e8⟩ := o3 (d := y8.1) (ps := y8.2) g8 (fun n hn => hw n (by
    simp only [DataW.weights, Try.underlying113]
    exact DataW.weights_mem_each (j := 8) rfl rfl n hn))
  have g9 : DataW.trod enc Try.prog w base sp held n 9 [c9] = some y9 := by
    have h : DataW.trod enc Try.prog w base sp held n 9 (([c0, c1, c2, c3, c4, c5, c6, c7, c8, c9, c10, c11, c12, c13, c14, c15, c16, c17, c18].drop 9).take (Try.prog.cellsOf 9)) = some y9 := hf 9 _ rfl
    rw [cells9] at h
    exact h
  obtain ⟨z9, e9⟩ := o9 (d := y9.1) (ps := y9.2) g9 (fun n hn => hw n (by
    simp only [DataW.weights, Try.underlying113]
    exact DataW.weights_mem_each (j := 9) rfl rfl n hn))
  have g10 : DataW.trod enc Try.prog w base sp held n 9 [c10] = some y10 := by
    have h : DataW.trod enc Try.prog w base sp held n 9 (([c0, c1, c2, c3, c4, c5, c6, c7, c8, c9, c10, c11, c12, c13, c14, c15, c16, c17, c18].drop 10).take (Try.prog.cellsOf 9)) = some y10 := hf 10 _ rfl
    rw [cells9] at h
    exact h
  obtain ⟨z10, e10⟩ := o9 (d := y10.1) (ps := y10.2) g10 (fun n hn => hw n (by
    simp only [DataW.weights, Try.underlying113]
    exact DataW.weights_mem_each (j := 10) rfl rfl n hn))
  have g11 : DataW.trod enc Try.prog w base sp held n 9 [c11] = some y11 := by
    have h : DataW.trod enc Try.prog w base sp held n 9 (([c0, c1, c2, c3, c4, c5, c6, c7, c8, c9, c10, c11, c12, c13, c14, c15, c16, c17, c18].drop 11).take (Try.prog.cellsOf 9)) = some y11 := hf 11 _ rfl
    rw [cells9] at h
    exact h
  obtain ⟨z11, e11⟩ := o9 (d := y11.1) (ps := y11.2) g11 (fun n hn => hw n (by
    simp only [DataW.weights, Try.underlying113]
    exact DataW.weights_mem_each (j := 11) rfl rfl n hn))
  have g12 : DataW.trod enc Try.prog w base sp held n 9 [c12] = some y12 := by
    have h : DataW.trod enc Try.prog w base sp held n 9 (([c0, c1, c2, c3, c4, c5, c6, c7, c8, c9, c10, c11, c12, c13, c14, c15, c16, c17, c18].drop 12).take (Try.prog.cellsOf 9)) = some y12 := hf 12 _ rfl
    rw [cells9] at h
    exact h
  obtain ⟨z12, e12⟩ := o9 (d := y12.1) (ps := y12.2) g12 (fun n hn => hw n (by
    simp only [DataW.weights, Try.underlying113]
    exact DataW.weights_mem_each (j := 12) rfl rfl n hn))
  have g13 : DataW.trod enc Try.prog w base sp held n 9 [c13] = some y13 := by
    have h : DataW.trod enc Try.prog w base sp held n 9 (([c0, c1, c2, c3, c4, c5, c6, c7, c8, c9, c10, c11, c12, c13, c14, c15, c16, c17, c18].drop 13).take (Try.prog.cellsOf 9)) = some y13 := hf 13 _ rfl
    rw [cells9] at h
    exact h
  obtain ⟨z13, e13⟩ := o9 (d := y13.1) (ps := y13.2) g13 (fun n hn => hw n (by
    simp only [DataW.weights, Try.underlying113]
    exact DataW.weights_mem_each (j := 13) rfl rfl n hn))
  have g14 : DataW.trod enc Try.prog w base sp held n 43 [c14] = some y14 := by
    have h : DataW.trod enc Try.prog w base sp held n 43 (([c0, c1, c2, c3, c4, c5, c6, c7, c8, c9, c10, c11, c12, c13, c14, c15, c16, c17, c18].drop 14).take (Try.prog.cellsOf 43)) = some y14 := hf 14 _ rfl
    rw [cells43] at h
    exact h
  obtain ⟨z14, e14⟩ := o43 (d := y14.1) (ps := y14.2) g14 (fun n hn => hw n (by
    simp only [DataW.weights, Try.underlying113]
    exact DataW.weights_mem_each (j := 14) rfl rfl n hn))
  have g15 : DataW.trod enc Try.prog w base sp held n 29 [c15] = some y15 := by
    have h : DataW.trod enc Try.prog w base sp held n 29 (([c0, c1, c2, c3, c4, c5, c6, c7, c8, c9, c10, c11, c12, c13, c14, c15, c16, c17, c18].drop 15).take (Try.prog.cellsOf 29)) = some y15 := hf 15 _ rfl
    rw [cells29] at h
    exact h
  obtain ⟨z15, e15⟩ := o29 (d := y15.1) (ps := y15.2) g15 (fun n hn => hw n (by
    simp only [DataW.weights, Try.underlying113]
    exact DataW.weights_mem_each (j := 15) rfl rfl n hn))
  have g16 : DataW.trod enc Try.prog w base sp held n 48 [c16, c17, c18] = some y16 := by
    have h : DataW.trod enc Try.prog w base sp held n 48 (([c0, c1, c2, c3, c4, c5, c6, c7, c8, c9, c10, c11, c12, c13, c14, c15, c16, c17, c18].drop 16).take (Try.prog.cellsOf 48)) = some y16 := hf 16 _ rfl
    rw [cells48] at h
    exact h
  obtain ⟨z16, e16⟩ := o48 (d := y16.1) (ps := y16.2) g16 (fun n hn => hw n (by
    simp only [DataW.weights, Try.underlying113]
    exact DataW.weights_mem_each (j := 16) rfl rfl n hn))
  have q0 : [c0] = [.int .i64 z0] := e0
  simp only [List.cons.injEq, and_true] at q0
  subst q0
  obtain ⟨q1, _⟩ := e1
  simp only [List.cons.injEq, and_true] at q1
  subst q1
  obtain ⟨q2, _⟩ := e2
  simp only [List.cons.injEq, and_true] at q2
  subst q2
  obtain ⟨q3, _⟩ := e3
  simp only [List.cons.injEq, and_true] at q3
  subst q3
  obtain ⟨q4, _⟩ := e4
  simp only [List.cons.injEq, and_true] at q4
  subst q4
  obtain ⟨q5, _⟩ := e5
  simp only [List.cons.injEq, and_true] at q5
  subst q5
  obtain ⟨q6, _⟩ := e6
  simp only [List.cons.injEq, and_true] at q6
  subst q6
  obtain ⟨q7, _⟩ := e7
  simp only [List.cons.injEq, and_true] at q7
  subst q7
  have q8 : [c8] = [.int .i64 z8] := e8
  simp only [List.cons.injEq, and_true] at q8
  subst q8
  obtain ⟨q9, _⟩ := e9
  simp only [List.cons.injEq, and_true] at q9
  subst q9
  obtain ⟨q10, _⟩ := e10
  simp only [List.cons.injEq, and_true] at q10
  subst q10
  obtain ⟨q11, _⟩ := e11
  simp only [List.cons.injEq, and_true] at q11
  subst q11
  obtain ⟨q12, _⟩ := e12
  simp only [List.cons.injEq, and_true] at q12
  subst q12
  obtain ⟨q13, _⟩ := e13
  simp only [List.cons.injEq, and_true] at q13
  subst q13
  obtain ⟨u14, q14, h14⟩ := e14
  simp only [List.cons.injEq, and_true] at q14
  subst q14
  obtain ⟨u15, q15, h15⟩ := e15
  simp only [List.cons.injEq, and_true] at q15
  subst q15
  obtain ⟨u17, q16, h17⟩ := e16
  simp only [List.cons.injEq, and_true] at q16
  obtain ⟨rfl, rfl, rfl⟩ := q16
  exact ⟨⟨z0, z1, z2, z3, z4, z5, z6, z7, z8, z9, z10, z11, z12, z13, z14, z15, z16⟩, _, _, _, rfl, h14, h15, h17⟩
theorem Sl.act_at {p : Nat → Prop} {w : World} {A : Option Addr} {n c : Nat} {l : List DAct} (h : Sl rAct p w (.slice A n c) l) (j : Nat) (hj : j < l.length) :
    ∃ g o A14 d14 A15 d15 A17 d17, A = some ⟨g, o, none⟩ ∧ p g ∧ g < w.heap.size ∧ w.cell? ⟨g, o + j * 19, none⟩ = some (.int .i64 l[j].kind) ∧ w.cell? ⟨g, o + j * 19 + 1, none⟩ = some (.string l[j].event) ∧ w.cell? ⟨g, o + j * 19 + 2, none⟩ = some (.string l[j].eventExpr) ∧ w.cell? ⟨g, o + j * 19 + 3, none⟩ = some (.string l[j].target) ∧ w.cell? ⟨g, o + j * 19 + 4, none⟩ = some (.string l[j].targetExpr) ∧ w.cell? ⟨g, o + j * 19 + 5, none⟩ = some (.string l[j].type_) ∧ w.cell? ⟨g, o + j * 19 + 6, none⟩ = some (.string l[j].id) ∧ w.cell? ⟨g, o + j * 19 + 7, none⟩ = some (.string l[j].place) ∧ w.cell? ⟨g, o + j * 19 + 8, none⟩ = some (.int .i64 l[j].delay) ∧ w.cell? ⟨g, o + j * 19 + 9, none⟩ = some (.string l[j].delayExpr) ∧ w.cell? ⟨g, o + j * 19 + 10, none⟩ = some (.string l[j].expr) ∧ w.cell? ⟨g, o + j * 19 + 11, none⟩ = some (.string l[j].label) ∧ w.cell? ⟨g, o + j * 19 + 12, none⟩ = some (.string l[j].item) ∧ w.cell? ⟨g, o + j * 19 + 13, none⟩ = some (.string l[j].index) ∧ w.cell? ⟨g, o + j * 19 + 14, none⟩ = some (.slice A14 l[j].conds.length d14) ∧ w.cell? ⟨g, o + j * 19 + 15, none⟩ = some (.slice A15 l[j].blocks.length d15) ∧ w.cell? ⟨g, o + j * 19 + 16, none⟩ = some (.int .i64 l[j].load.kind) ∧ w.cell? ⟨g, o + j * 19 + 17, none⟩ = some (.slice A17 l[j].load.params.length d17) ∧ w.cell? ⟨g, o + j * 19 + 18, none⟩ = some (.string l[j].load.body) ∧ Sl rStr p w (.slice A14 l[j].conds.length d14) l[j].conds ∧ Sl rInt p w (.slice A15 l[j].blocks.length d15) l[j].blocks ∧ Sl rPar p w (.slice A17 l[j].load.params.length d17) l[j].load.params := by
  obtain ⟨A', c', e, _, _, hr⟩ := h
  injection e with e1 e2 e3
  subst e1
  obtain ⟨g, o, cs, hA, hg, hlt, hok, hcell⟩ := hr j _ (List.getElem?_eq_getElem hj)
  have hok' : okAct p w cs l[j] := hok
  obtain ⟨v14, v15, v17, rfl, h14, h15, h17⟩ := hok'
  obtain ⟨A14, d14, rfl, _⟩ := h14.form
  obtain ⟨A15, d15, rfl, _⟩ := h15.form
  obtain ⟨A17, d17, rfl, _⟩ := h17.form
  exact ⟨g, o, A14, d14, A15, d15, A17, d17, hA, hg, hlt, hcell 0 _ rfl, hcell 1 _ rfl, hcell 2 _ rfl, hcell 3 _ rfl, hcell 4 _ rfl, hcell 5 _ rfl, hcell 6 _ rfl, hcell 7 _ rfl, hcell 8 _ rfl, hcell 9 _ rfl, hcell 10 _ rfl, hcell 11 _ rfl, hcell 12 _ rfl, hcell 13 _ rfl, hcell 14 _ rfl, hcell 15 _ rfl, hcell 16 _ rfl, hcell 17 _ rfl, hcell 18 _ rfl, h14, h15, h17⟩
theorem o108 : Opens Try.prog 108 (rSl rAct) := opens_sl Try.underlying108 (by kernel_rfl) (by kernel_rfl) o113
structure DBlock where
  acts : List DAct
  deriving DecidableEq
instance : Inhabited DBlock := ⟨⟨[]⟩⟩
def okBlock (p : Nat → Prop) (w : World) (cs : List Value) (x : DBlock) : Prop :=
  ∃ v0, cs = [v0] ∧ Sl rAct p w v0 x.acts
def rBlock : Rk DBlock where
  n := 1
  by_ := 24
  pos := by decide
  bpos := by decide
  ok := okBlock
  len := fun h => by
    obtain ⟨v0, rfl, h0⟩ := h
    rfl
  one := fun h u hu => by
    obtain ⟨v0, rfl, h0⟩ := h
    obtain rfl := List.mem_singleton.1 hu
    exact h0.one
  fr := fun hp h => by
    obtain ⟨v0, rfl, h0⟩ := h
    exact ⟨v0, rfl, h0.fr hp⟩
theorem o110 : Opens Try.prog 110 rBlock := by
  intro H enc w base sp held fuel cs d ps h hw
  obtain ⟨xs, n, _, hx, hl, hlen, hf⟩ := DataW.trod_struct Try.underlying110 h
  have hl' : cs.length = 1 := hl.trans (by kernel_rfl)
  obtain ⟨y0, rfl⟩ := list1 (l := xs) hlen
  obtain ⟨c0, rfl⟩ := list1 hl'
  simp only [Prod.mk.injEq] at hx
  obtain ⟨rfl, rfl⟩ := hx
  have g0 : DataW.trod enc Try.prog w base sp held n 108 [c0] = some y0 := by
    have h : DataW.trod enc Try.prog w base sp held n 108 (([c0].drop 0).take (Try.prog.cellsOf 108)) = some y0 := hf 0 _ rfl
    rw [cells108] at h
    exact h
  obtain ⟨z0, e0⟩ := o108 (d := y0.1) (ps := y0.2) g0 (fun n hn => hw n (by
    simp only [DataW.weights, Try.underlying110]
    exact DataW.weights_mem_each (j := 0) rfl rfl n hn))
  obtain ⟨u0, q0, h0⟩ := e0
  simp only [List.cons.injEq, and_true] at q0
  subst q0
  exact ⟨⟨z0⟩, _, rfl, h0⟩
theorem Sl.block_at {p : Nat → Prop} {w : World} {A : Option Addr} {n c : Nat} {l : List DBlock} (h : Sl rBlock p w (.slice A n c) l) (j : Nat) (hj : j < l.length) :
    ∃ g o A0 d0, A = some ⟨g, o, none⟩ ∧ p g ∧ g < w.heap.size ∧ w.cell? ⟨g, o + j * 1, none⟩ = some (.slice A0 l[j].acts.length d0) ∧ Sl rAct p w (.slice A0 l[j].acts.length d0) l[j].acts := by
  obtain ⟨A', c', e, _, _, hr⟩ := h
  injection e with e1 e2 e3
  subst e1
  obtain ⟨g, o, cs, hA, hg, hlt, hok, hcell⟩ := hr j _ (List.getElem?_eq_getElem hj)
  have hok' : okBlock p w cs l[j] := hok
  obtain ⟨v0, rfl, h0⟩ := hok'
  obtain ⟨A0, d0, rfl, _⟩ := h0.form
  exact ⟨g, o, A0, d0, hA, hg, hlt, hcell 0 _ rfl, h0⟩
theorem o24 : Opens Try.prog 24 (rSl rBlock) := opens_sl Try.underlying24 (by kernel_rfl) (by kernel_rfl) o110
structure DDatum where
  id : ByteArray
  expr : ByteArray
  text : ByteArray
  deriving DecidableEq
instance : Inhabited DDatum := ⟨⟨⟨#[]⟩, ⟨#[]⟩, ⟨#[]⟩⟩⟩
def okDatum (p : Nat → Prop) (w : World) (cs : List Value) (x : DDatum) : Prop :=
  cs = [.string x.id, .string x.expr, .string x.text]
def rDatum : Rk DDatum where
  n := 3
  by_ := 48
  pos := by decide
  bpos := by decide
  ok := okDatum
  len := fun h => by
    obtain rfl := h
    rfl
  one := fun h u hu => by
    obtain rfl := h
    simp only [List.mem_cons, List.not_mem_nil, or_false] at hu
    rcases hu with rfl | rfl | rfl
    · rfl
    · rfl
    · rfl
  fr := fun hp h => by
    obtain rfl := h
    exact rfl
theorem o115 : Opens Try.prog 115 rDatum := by
  intro H enc w base sp held fuel cs d ps h hw
  obtain ⟨xs, n, _, hx, hl, hlen, hf⟩ := DataW.trod_struct Try.underlying115 h
  have hl' : cs.length = 3 := hl.trans (by kernel_rfl)
  obtain ⟨y0, y1, y2, rfl⟩ := list3 (l := xs) hlen
  obtain ⟨c0, c1, c2, rfl⟩ := list3 hl'
  simp only [Prod.mk.injEq] at hx
  obtain ⟨rfl, rfl⟩ := hx
  have g0 : DataW.trod enc Try.prog w base sp held n 9 [c0] = some y0 := by
    have h : DataW.trod enc Try.prog w base sp held n 9 (([c0, c1, c2].drop 0).take (Try.prog.cellsOf 9)) = some y0 := hf 0 _ rfl
    rw [cells9] at h
    exact h
  obtain ⟨z0, e0⟩ := o9 (d := y0.1) (ps := y0.2) g0 (fun n hn => hw n (by
    simp only [DataW.weights, Try.underlying115]
    exact DataW.weights_mem_each (j := 0) rfl rfl n hn))
  have g1 : DataW.trod enc Try.prog w base sp held n 9 [c1] = some y1 := by
    have h : DataW.trod enc Try.prog w base sp held n 9 (([c0, c1, c2].drop 1).take (Try.prog.cellsOf 9)) = some y1 := hf 1 _ rfl
    rw [cells9] at h
    exact h
  obtain ⟨z1, e1⟩ := o9 (d := y1.1) (ps := y1.2) g1 (fun n hn => hw n (by
    simp only [DataW.weights, Try.underlying115]
    exact DataW.weights_mem_each (j := 1) rfl rfl n hn))
  have g2 : DataW.trod enc Try.prog w base sp held n 9 [c2] = some y2 := by
    have h : DataW.trod enc Try.prog w base sp held n 9 (([c0, c1, c2].drop 2).take (Try.prog.cellsOf 9)) = some y2 := hf 2 _ rfl
    rw [cells9] at h
    exact h
  obtain ⟨z2, e2⟩ := o9 (d := y2.1) (ps := y2.2) g2 (fun n hn => hw n (by
    simp only [DataW.weights, Try.underlying115]
    exact DataW.weights_mem_each (j := 2) rfl rfl n hn))
  obtain ⟨q0, _⟩ := e0
  simp only [List.cons.injEq, and_true] at q0
  subst q0
  obtain ⟨q1, _⟩ := e1
  simp only [List.cons.injEq, and_true] at q1
  subst q1
  obtain ⟨q2, _⟩ := e2
  simp only [List.cons.injEq, and_true] at q2
  subst q2
  exact ⟨⟨z0, z1, z2⟩, rfl⟩
theorem Sl.datum_at {p : Nat → Prop} {w : World} {A : Option Addr} {n c : Nat} {l : List DDatum} (h : Sl rDatum p w (.slice A n c) l) (j : Nat) (hj : j < l.length) :
    ∃ g o , A = some ⟨g, o, none⟩ ∧ p g ∧ g < w.heap.size ∧ w.cell? ⟨g, o + j * 3, none⟩ = some (.string l[j].id) ∧ w.cell? ⟨g, o + j * 3 + 1, none⟩ = some (.string l[j].expr) ∧ w.cell? ⟨g, o + j * 3 + 2, none⟩ = some (.string l[j].text) := by
  obtain ⟨A', c', e, _, _, hr⟩ := h
  injection e with e1 e2 e3
  subst e1
  obtain ⟨g, o, cs, hA, hg, hlt, hok, hcell⟩ := hr j _ (List.getElem?_eq_getElem hj)
  have hok' : okDatum p w cs l[j] := hok
  obtain rfl := hok'
  exact ⟨g, o, hA, hg, hlt, hcell 0 _ rfl, hcell 1 _ rfl, hcell 2 _ rfl⟩
theorem o25 : Opens Try.prog 25 (rSl rDatum) := opens_sl Try.underlying25 (by kernel_rfl) (by kernel_rfl) o115
structure DInvoke where
  id : ByteArray
  place : ByteArray
  chart : Int
  auto : Bool
  load : DLoad
  fin : Int
  deriving DecidableEq
instance : Inhabited DInvoke := ⟨⟨⟨#[]⟩, ⟨#[]⟩, 0, false, default, 0⟩⟩
def okInvoke (p : Nat → Prop) (w : World) (cs : List Value) (x : DInvoke) : Prop :=
  ∃ v5, cs = [.string x.id, .string x.place, .int .i64 x.chart, .bool x.auto, .int .i64 x.load.kind, v5, .string x.load.body, .int .i64 x.fin] ∧ Sl rPar p w v5 x.load.params
def rInvoke : Rk DInvoke where
  n := 8
  by_ := 104
  pos := by decide
  bpos := by decide
  ok := okInvoke
  len := fun h => by
    obtain ⟨v5, rfl, h5⟩ := h
    rfl
  one := fun h u hu => by
    obtain ⟨v5, rfl, h5⟩ := h
    simp only [List.mem_cons, List.not_mem_nil, or_false] at hu
    rcases hu with rfl | rfl | rfl | rfl | rfl | rfl | rfl | rfl
    · rfl
    · rfl
    · rfl
    · rfl
    · rfl
    · exact h5.one
    · rfl
    · rfl
  fr := fun hp h => by
    obtain ⟨v5, rfl, h5⟩ := h
    exact ⟨v5, rfl, h5.fr hp⟩
theorem o118 : Opens Try.prog 118 rInvoke := by
  intro H enc w base sp held fuel cs d ps h hw
  obtain ⟨xs, n, _, hx, hl, hlen, hf⟩ := DataW.trod_struct Try.underlying118 h
  have hl' : cs.length = 8 := hl.trans (by kernel_rfl)
  obtain ⟨y0, y1, y2, y3, y4, y5, rfl⟩ := list6 (l := xs) hlen
  obtain ⟨c0, c1, c2, c3, c4, c5, c6, c7, rfl⟩ := list8 hl'
  simp only [Prod.mk.injEq] at hx
  obtain ⟨rfl, rfl⟩ := hx
  have g0 : DataW.trod enc Try.prog w base sp held n 9 [c0] = some y0 := by
    have h : DataW.trod enc Try.prog w base sp held n 9 (([c0, c1, c2, c3, c4, c5, c6, c7].drop 0).take (Try.prog.cellsOf 9)) = some y0 := hf 0 _ rfl
    rw [cells9] at h
    exact h
  obtain ⟨z0, e0⟩ := o9 (d := y0.1) (ps := y0.2) g0 (fun n hn => hw n (by
    simp only [DataW.weights, Try.underlying118]
    exact DataW.weights_mem_each (j := 0) rfl rfl n hn))
  have g1 : DataW.trod enc Try.prog w base sp held n 9 [c1] = some y1 := by
    have h : DataW.trod enc Try.prog w base sp held n 9 (([c0, c1, c2, c3, c4, c5, c6, c7].drop 1).take (Try.prog.cellsOf 9)) = some y1 := hf 1 _ rfl
    rw [cells9] at h
    exact h
  obtain ⟨z1, e1⟩ := o9 (d := y1.1) (ps := y1.2) g1 (fun n hn => hw n (by
    simp only [DataW.weights, Try.underlying118]
    exact DataW.weights_mem_each (j := 1) rfl rfl n hn))
  have g2 : DataW.trod enc Try.prog w base sp held n 3 [c2] = some y2 := by
    have h : DataW.trod enc Try.prog w base sp held n 3 (([c0, c1, c2, c3, c4, c5, c6, c7].drop 2).take (Try.prog.cellsOf 3)) = some y2 := hf 2 _ rfl
    rw [cells3] at h
    exact h
  obtain ⟨z2, e2⟩ := o3 (d := y2.1) (ps := y2.2) g2 (fun n hn => hw n (by
    simp only [DataW.weights, Try.underlying118]
    exact DataW.weights_mem_each (j := 2) rfl rfl n hn))
  have g3 : DataW.trod enc Try.prog w base sp held n 4 [c3] = some y3 := by
    have h : DataW.trod enc Try.prog w base sp held n 4 (([c0, c1, c2, c3, c4, c5, c6, c7].drop 3).take (Try.prog.cellsOf 4)) = some y3 := hf 3 _ rfl
    rw [cells4] at h
    exact h
  obtain ⟨z3, e3⟩ := o4 (d := y3.1) (ps := y3.2) g3 (fun n hn => hw n (by
    simp only [DataW.weights, Try.underlying118]
    exact DataW.weights_mem_each (j := 3) rfl rfl n hn))
  have g4 : DataW.trod enc Try.prog w base sp held n 48 [c4, c5, c6] = some y4 := by
    have h : DataW.trod enc Try.prog w base sp held n 48 (([c0, c1, c2, c3, c4, c5, c6, c7].drop 4).take (Try.prog.cellsOf 48)) = some y4 := hf 4 _ rfl
    rw [cells48] at h
    exact h
  obtain ⟨z4, e4⟩ := o48 (d := y4.1) (ps := y4.2) g4 (fun n hn => hw n (by
    simp only [DataW.weights, Try.underlying118]
    exact DataW.weights_mem_each (j := 4) rfl rfl n hn))
  have g5 : DataW.trod enc Try.prog w base sp held n 3 [c7] = some y5 := by
    have h : DataW.trod enc Try.prog w base sp held n 3 (([c0, c1, c2, c3, c4, c5, c6, c7].drop 7).take (Try.prog.cellsOf 3)) = some y5 := hf 5 _ rfl
    rw [cells3] at h
    exact h
  obtain ⟨z5, e5⟩ := o3 (d := y5.1) (ps := y5.2) g5 (fun n hn => hw n (by
    simp only [DataW.weights, Try.underlying118]
    exact DataW.weights_mem_each (j := 5) rfl rfl n hn))
  obtain ⟨q0, _⟩ := e0
  simp only [List.cons.injEq, and_true] at q0
  subst q0
  obtain ⟨q1, _⟩ := e1
  simp only [List.cons.injEq, and_true] at q1
  subst q1
  have q2 : [c2] = [.int .i64 z2] := e2
  simp only [List.cons.injEq, and_true] at q2
  subst q2
  have q3 : [c3] = [.bool z3] := e3
  simp only [List.cons.injEq, and_true] at q3
  subst q3
  obtain ⟨u5, q4, h5⟩ := e4
  simp only [List.cons.injEq, and_true] at q4
  obtain ⟨rfl, rfl, rfl⟩ := q4
  have q5 : [c7] = [.int .i64 z5] := e5
  simp only [List.cons.injEq, and_true] at q5
  subst q5
  exact ⟨⟨z0, z1, z2, z3, z4, z5⟩, _, rfl, h5⟩
theorem Sl.invoke_at {p : Nat → Prop} {w : World} {A : Option Addr} {n c : Nat} {l : List DInvoke} (h : Sl rInvoke p w (.slice A n c) l) (j : Nat) (hj : j < l.length) :
    ∃ g o A5 d5, A = some ⟨g, o, none⟩ ∧ p g ∧ g < w.heap.size ∧ w.cell? ⟨g, o + j * 8, none⟩ = some (.string l[j].id) ∧ w.cell? ⟨g, o + j * 8 + 1, none⟩ = some (.string l[j].place) ∧ w.cell? ⟨g, o + j * 8 + 2, none⟩ = some (.int .i64 l[j].chart) ∧ w.cell? ⟨g, o + j * 8 + 3, none⟩ = some (.bool l[j].auto) ∧ w.cell? ⟨g, o + j * 8 + 4, none⟩ = some (.int .i64 l[j].load.kind) ∧ w.cell? ⟨g, o + j * 8 + 5, none⟩ = some (.slice A5 l[j].load.params.length d5) ∧ w.cell? ⟨g, o + j * 8 + 6, none⟩ = some (.string l[j].load.body) ∧ w.cell? ⟨g, o + j * 8 + 7, none⟩ = some (.int .i64 l[j].fin) ∧ Sl rPar p w (.slice A5 l[j].load.params.length d5) l[j].load.params := by
  obtain ⟨A', c', e, _, _, hr⟩ := h
  injection e with e1 e2 e3
  subst e1
  obtain ⟨g, o, cs, hA, hg, hlt, hok, hcell⟩ := hr j _ (List.getElem?_eq_getElem hj)
  have hok' : okInvoke p w cs l[j] := hok
  obtain ⟨v5, rfl, h5⟩ := hok'
  obtain ⟨A5, d5, rfl, _⟩ := h5.form
  exact ⟨g, o, A5, d5, hA, hg, hlt, hcell 0 _ rfl, hcell 1 _ rfl, hcell 2 _ rfl, hcell 3 _ rfl, hcell 4 _ rfl, hcell 5 _ rfl, hcell 6 _ rfl, hcell 7 _ rfl, h5⟩
theorem o26 : Opens Try.prog 26 (rSl rInvoke) := opens_sl Try.underlying26 (by kernel_rfl) (by kernel_rfl) o118
structure DChart where
  name : ByteArray
  late : Bool
  script : Int
  states : List DState
  trans : List DTrans
  blocks : List DBlock
  data : List DDatum
  invokes : List DInvoke
  deriving DecidableEq
instance : Inhabited DChart := ⟨⟨⟨#[]⟩, false, 0, [], [], [], [], []⟩⟩
def okChart (p : Nat → Prop) (w : World) (cs : List Value) (x : DChart) : Prop :=
  ∃ v3 v4 v5 v6 v7, cs = [.string x.name, .bool x.late, .int .i64 x.script, v3, v4, v5, v6, v7] ∧ Sl rState p w v3 x.states ∧ Sl rTrans p w v4 x.trans ∧ Sl rBlock p w v5 x.blocks ∧ Sl rDatum p w v6 x.data ∧ Sl rInvoke p w v7 x.invokes
def rChart : Rk DChart where
  n := 8
  by_ := 152
  pos := by decide
  bpos := by decide
  ok := okChart
  len := fun h => by
    obtain ⟨v3, v4, v5, v6, v7, rfl, h3, h4, h5, h6, h7⟩ := h
    rfl
  one := fun h u hu => by
    obtain ⟨v3, v4, v5, v6, v7, rfl, h3, h4, h5, h6, h7⟩ := h
    simp only [List.mem_cons, List.not_mem_nil, or_false] at hu
    rcases hu with rfl | rfl | rfl | rfl | rfl | rfl | rfl | rfl
    · rfl
    · rfl
    · rfl
    · exact h3.one
    · exact h4.one
    · exact h5.one
    · exact h6.one
    · exact h7.one
  fr := fun hp h => by
    obtain ⟨v3, v4, v5, v6, v7, rfl, h3, h4, h5, h6, h7⟩ := h
    exact ⟨v3, v4, v5, v6, v7, rfl, h3.fr hp, h4.fr hp, h5.fr hp, h6.fr hp, h7.fr hp⟩
theorem o28 : Opens Try.prog 28 rChart := by
  intro H enc w base sp held fuel cs d ps h hw
  obtain ⟨xs, n, _, hx, hl, hlen, hf⟩ := DataW.trod_struct Try.underlying28 h
  have hl' : cs.length = 8 := hl.trans (by kernel_rfl)
  obtain ⟨y0, y1, y2, y3, y4, y5, y6, y7, rfl⟩ := list8 (l := xs) hlen
  obtain ⟨c0, c1, c2, c3, c4, c5, c6, c7, rfl⟩ := list8 hl'
  simp only [Prod.mk.injEq] at hx
  obtain ⟨rfl, rfl⟩ := hx
  have g0 : DataW.trod enc Try.prog w base sp held n 9 [c0] = some y0 := by
    have h : DataW.trod enc Try.prog w base sp held n 9 (([c0, c1, c2, c3, c4, c5, c6, c7].drop 0).take (Try.prog.cellsOf 9)) = some y0 := hf 0 _ rfl
    rw [cells9] at h
    exact h
  obtain ⟨z0, e0⟩ := o9 (d := y0.1) (ps := y0.2) g0 (fun n hn => hw n (by
    simp only [DataW.weights, Try.underlying28]
    exact DataW.weights_mem_each (j := 0) rfl rfl n hn))
  have g1 : DataW.trod enc Try.prog w base sp held n 4 [c1] = some y1 := by
    have h : DataW.trod enc Try.prog w base sp held n 4 (([c0, c1, c2, c3, c4, c5, c6, c7].drop 1).take (Try.prog.cellsOf 4)) = some y1 := hf 1 _ rfl
    rw [cells4] at h
    exact h
  obtain ⟨z1, e1⟩ := o4 (d := y1.1) (ps := y1.2) g1 (fun n hn => hw n (by
    simp only [DataW.weights, Try.underlying28]
    exact DataW.weights_mem_each (j := 1) rfl rfl n hn))
  have g2 : DataW.trod enc Try.prog w base sp held n 3 [c2] = some y2 := by
    have h : DataW.trod enc Try.prog w base sp held n 3 (([c0, c1, c2, c3, c4, c5, c6, c7].drop 2).take (Try.prog.cellsOf 3)) = some y2 := hf 2 _ rfl
    rw [cells3] at h
    exact h
  obtain ⟨z2, e2⟩ := o3 (d := y2.1) (ps := y2.2) g2 (fun n hn => hw n (by
    simp only [DataW.weights, Try.underlying28]
    exact DataW.weights_mem_each (j := 2) rfl rfl n hn))
  have g3 : DataW.trod enc Try.prog w base sp held n 22 [c3] = some y3 := by
    have h : DataW.trod enc Try.prog w base sp held n 22 (([c0, c1, c2, c3, c4, c5, c6, c7].drop 3).take (Try.prog.cellsOf 22)) = some y3 := hf 3 _ rfl
    rw [cells22] at h
    exact h
  obtain ⟨z3, e3⟩ := o22 (d := y3.1) (ps := y3.2) g3 (fun n hn => hw n (by
    simp only [DataW.weights, Try.underlying28]
    exact DataW.weights_mem_each (j := 3) rfl rfl n hn))
  have g4 : DataW.trod enc Try.prog w base sp held n 23 [c4] = some y4 := by
    have h : DataW.trod enc Try.prog w base sp held n 23 (([c0, c1, c2, c3, c4, c5, c6, c7].drop 4).take (Try.prog.cellsOf 23)) = some y4 := hf 4 _ rfl
    rw [cells23] at h
    exact h
  obtain ⟨z4, e4⟩ := o23 (d := y4.1) (ps := y4.2) g4 (fun n hn => hw n (by
    simp only [DataW.weights, Try.underlying28]
    exact DataW.weights_mem_each (j := 4) rfl rfl n hn))
  have g5 : DataW.trod enc Try.prog w base sp held n 24 [c5] = some y5 := by
    have h : DataW.trod enc Try.prog w base sp held n 24 (([c0, c1, c2, c3, c4, c5, c6, c7].drop 5).take (Try.prog.cellsOf 24)) = some y5 := hf 5 _ rfl
    rw [cells24] at h
    exact h
  obtain ⟨z5, e5⟩ := o24 (d := y5.1) (ps := y5.2) g5 (fun n hn => hw n (by
    simp only [DataW.weights, Try.underlying28]
    exact DataW.weights_mem_each (j := 5) rfl rfl n hn))
  have g6 : DataW.trod enc Try.prog w base sp held n 25 [c6] = some y6 := by
    have h : DataW.trod enc Try.prog w base sp held n 25 (([c0, c1, c2, c3, c4, c5, c6, c7].drop 6).take (Try.prog.cellsOf 25)) = some y6 := hf 6 _ rfl
    rw [cells25] at h
    exact h
  obtain ⟨z6, e6⟩ := o25 (d := y6.1) (ps := y6.2) g6 (fun n hn => hw n (by
    simp only [DataW.weights, Try.underlying28]
    exact DataW.weights_mem_each (j := 6) rfl rfl n hn))
  have g7 : DataW.trod enc Try.prog w base sp held n 26 [c7] = some y7 := by
    have h : DataW.trod enc Try.prog w base sp held n 26 (([c0, c1, c2, c3, c4, c5, c6, c7].drop 7).take (Try.prog.cellsOf 26)) = some y7 := hf 7 _ rfl
    rw [cells26] at h
    exact h
  obtain ⟨z7, e7⟩ := o26 (d := y7.1) (ps := y7.2) g7 (fun n hn => hw n (by
    simp only [DataW.weights, Try.underlying28]
    exact DataW.weights_mem_each (j := 7) rfl rfl n hn))
  obtain ⟨q0, _⟩ := e0
  simp only [List.cons.injEq, and_true] at q0
  subst q0
  have q1 : [c1] = [.bool z1] := e1
  simp only [List.cons.injEq, and_true] at q1
  subst q1
  have q2 : [c2] = [.int .i64 z2] := e2
  simp only [List.cons.injEq, and_true] at q2
  subst q2
  obtain ⟨u3, q3, h3⟩ := e3
  simp only [List.cons.injEq, and_true] at q3
  subst q3
  obtain ⟨u4, q4, h4⟩ := e4
  simp only [List.cons.injEq, and_true] at q4
  subst q4
  obtain ⟨u5, q5, h5⟩ := e5
  simp only [List.cons.injEq, and_true] at q5
  subst q5
  obtain ⟨u6, q6, h6⟩ := e6
  simp only [List.cons.injEq, and_true] at q6
  subst q6
  obtain ⟨u7, q7, h7⟩ := e7
  simp only [List.cons.injEq, and_true] at q7
  subst q7
  exact ⟨⟨z0, z1, z2, z3, z4, z5, z6, z7⟩, _, _, _, _, _, rfl, h3, h4, h5, h6, h7⟩
end Go.Proofs.Ytekfbafljilchaa

/- slices.Clone at each of its instances. (The instances are printed by clones.py.) -/
set_option linter.unusedVariables false
set_option linter.unusedSimpArgs false
namespace Go.Proofs.Ytekfbafljilchaa
open Go.RowKit Go.Lib

/-- Rows of cells that say the elements of l. -/
def Rows_ {α : Type} (K : Rk α) (p : Nat → Prop) (w : World) (css : List (List Value)) (l : List α) : Prop :=
  css.length = l.length ∧ ∀ (j : Nat) (cs : List Value) (x : α), css[j]? = some cs → l[j]? = some x → K.ok p w cs x
theorem Rows_.fr {α : Type} {K : Rk α} {p q : Nat → Prop} {w w' : World} {css : List (List Value)} {l : List α} (hp : ∀ k, p k → k < w.heap.size → q k ∧ w'.heap[k]? = w.heap[k]?) (h : Rows_ K p w css l) : Rows_ K q w' css l :=
  ⟨h.1, fun j cs x h1 h2 => K.fr hp (h.2 j cs x h1 h2)⟩
theorem Rows_.lens {α : Type} {K : Rk α} {p : Nat → Prop} {w : World} {css : List (List Value)} {l : List α} (h : Rows_ K p w css l) : ∀ cs ∈ css, cs.length = K.n := fun cs hc => by
  obtain ⟨j, hj, rfl⟩ := List.getElem_of_mem hc
  exact K.len (h.2 j _ (l[j]'(by rw [← h.1]; exact hj)) (List.getElem?_eq_getElem hj) (List.getElem?_eq_getElem _))
theorem Rows_.one {α : Type} {K : Rk α} {p : Nat → Prop} {w : World} {css : List (List Value)} {l : List α} (h : Rows_ K p w css l) : ∀ u ∈ css.flatten, u.oneCell' = true := fun u hu => by
  obtain ⟨cs, hc, hu⟩ := List.mem_flatten.1 hu
  obtain ⟨j, hj, rfl⟩ := List.getElem_of_mem hc
  exact K.one (h.2 j _ (l[j]'(by rw [← h.1]; exact hj)) (List.getElem?_eq_getElem hj) (List.getElem?_eq_getElem _)) u hu

theorem flat_len {n : Nat} : ∀ {css : List (List Value)}, (∀ cs ∈ css, cs.length = n) → css.flatten.length = css.length * n
  | [], _ => by simp
  | c :: css, h => by
    rw [List.flatten_cons, List.length_append, h c (List.mem_cons_self ..), flat_len (fun cs hc => h cs (List.mem_cons_of_mem _ hc)), List.length_cons, Nat.add_mul, Nat.one_mul, Nat.add_comm]
theorem flat_get {n : Nat} : ∀ {css : List (List Value)}, (∀ cs ∈ css, cs.length = n) → ∀ j i, i < n → css.flatten[j * n + i]? = css[j]?.bind (fun cs => cs[i]?)
  | [], _, j, i, _ => by simp
  | c :: css, h, 0, i, hi => by
    have hc := h c (List.mem_cons_self ..)
    rw [List.flatten_cons, Nat.zero_mul, Nat.zero_add, List.getElem?_append_left (by omega)]
    rfl
  | c :: css, h, j + 1, i, hi => by
    have hc := h c (List.mem_cons_self ..)
    rw [List.flatten_cons, List.getElem?_append_right (by rw [hc, Nat.add_mul]; omega), show (j + 1) * n + i - c.length = j * n + i by rw [hc, Nat.add_mul]; omega, flat_get (fun cs hc => h cs (List.mem_cons_of_mem _ hc)) j i hi]
    rfl
theorem flat_set {n : Nat} : ∀ {css : List (List Value)}, (∀ cs ∈ css, cs.length = n) → ∀ j i v, i < n → css.flatten.set (j * n + i) v = (css.modify j (fun cs => cs.set i v)).flatten
  | [], _, j, i, v, _ => by cases j <;> simp
  | c :: css, h, 0, i, v, hi => by
    have hc := h c (List.mem_cons_self ..)
    rw [List.flatten_cons, Nat.zero_mul, Nat.zero_add, List.set_append_left _ _ (by omega)]
    simp
  | c :: css, h, j + 1, i, v, hi => by
    have hc := h c (List.mem_cons_self ..)
    rw [List.flatten_cons, List.set_append_right _ _ (by rw [hc, Nat.add_mul]; omega), show (j + 1) * n + i - c.length = j * n + i by rw [hc, Nat.add_mul]; omega, flat_set (fun cs hc => h cs (List.mem_cons_of_mem _ hc)) j i v hi]
    simp

/-- A slice's cells, in one line. -/
theorem Sl.flat {α : Type} {K : Rk α} {p : Nat → Prop} {w : World} {ad : Addr} {n c : Nat} {l : List α} (h : Sl K p w (.slice (some ad) n c) l) :
    ∃ css, Rows_ K p w css l ∧ css.flatten.length = l.length * K.n ∧ ∀ i u, css.flatten[i]? = some u → w.cell? (ad.add i) = some u := by
  obtain ⟨A', c', e, _, _, hr⟩ := h
  injection e with e1 e2 e3
  subst e1
  have each : ∀ j : Fin l.length, ∃ cs, K.ok p w cs l[j.1] ∧ ∀ i u, cs[i]? = some u → w.cell? (ad.add (j.1 * K.n + i)) = some u := by
    intro j
    obtain ⟨g, o, cs, hA, _, _, hok, hcell⟩ := hr j.1 _ (List.getElem?_eq_getElem j.2)
    injection hA with hA
    subst hA
    refine ⟨cs, hok, fun i u hu => ?_⟩
    have := hcell i u hu
    rw [← this]
    congr 1
    unfold Addr.add
    split
    · rename_i h0
      simp [h0, Nat.add_assoc]
    · simp [Nat.add_assoc]
  obtain ⟨f, hf⟩ := Classical.axiomOfChoice each
  have hR : Rows_ K p w (List.ofFn f) l := ⟨by simp, fun j cs x h1 h2 => by
    have hj : j < l.length := (List.getElem?_eq_some_iff.1 h2).1
    have e1 : f ⟨j, hj⟩ = cs := by
      rw [List.getElem?_eq_getElem (by simpa using hj)] at h1
      simpa using h1
    have e2 : l[j] = x := by
      rw [List.getElem?_eq_getElem hj] at h2
      simpa using h2
    subst e1 e2
    exact (hf ⟨j, hj⟩).1⟩
  refine ⟨List.ofFn f, hR, ?_, fun i u hu => ?_⟩
  · rw [flat_len hR.lens, hR.1]
  · have hi : i < l.length * K.n := by
      have := (List.getElem?_eq_some_iff.1 hu).1
      rwa [flat_len hR.lens, hR.1] at this
    have hpos := K.pos
    have e : i = i / K.n * K.n + i % K.n := by rw [Nat.mul_comm]; exact (Nat.div_add_mod i K.n).symm
    have hm : i % K.n < K.n := Nat.mod_lt _ hpos
    have hj : i / K.n < l.length := by
      rw [Nat.div_lt_iff_lt_mul hpos]; exact hi
    rw [e, flat_get hR.lens _ _ hm, List.getElem?_eq_getElem (by simpa using hj)] at hu
    have := (hf ⟨i / K.n, hj⟩).2 (i % K.n) u (by simpa using hu)
    rwa [← e] at this

/-- What Clone comes to. -/
def ClonePost {α : Type} (K : Rk α) (t : Nat) (p : Nat → Prop) (w : World) (l : List α) (e : Ending) (w' : World) : Prop :=
  ∃ v' css, e = .returned v' ∧ Fr [] w w' ∧ w'.ownsRow w.heap.size t K.n v' l.length css.flatten ∧ Rows_ K p w css l

/-- A block that the call may write. -/
def Free (w : World) (k : Nat) : Prop := ∃ c t, Blk w k c t
theorem Free.fr {w w' : World} {S : List Nat} {k : Nat} (h : Free w k) (f : Fr S w w') (hn : k ∉ S) : Free w' k := by
  obtain ⟨c, t, h⟩ := h
  exact ⟨c, t, h.fr f hn⟩

/-- A row of one's own reads as its elements. -/
theorem sl_of_own {α : Type} {K : Rk α} {t base : Nat} {p : Nat → Prop} {w : World} {v : Value} {l : List α} {css : List (List Value)} (h : w.ownsRow base t K.n v l.length css.flatten) (hR : Rows_ K p w css l) (hr : l.length * K.by_ ≤ 140737488351232)
    (hp : ∀ k, base ≤ k → k < w.heap.size → v.ownBlock = some k → p k) : Sl K p w v l := by
  rcases h.2 with ⟨rfl, h0⟩ | ⟨g, cap, cur, rfl, hb, hg, hc, hm, hs, ht⟩
  · obtain rfl : l = [] := List.eq_nil_of_length_eq_zero h0
    exact Sl.nil K p w
  · have hgl : g < w.heap.size := (Array.getElem?_eq_some_iff.1 hg).1
    refine ⟨_, cap, rfl, hc, hr, fun j x hj => ?_⟩
    have hjl : j < l.length := (List.getElem?_eq_some_iff.1 hj).1
    have hjc : j < css.length := by rw [hR.1]; exact hjl
    have hok := hR.2 j _ x (List.getElem?_eq_getElem hjc) hj
    refine ⟨g, 0, css[j], rfl, hp g hb hgl rfl, hgl, hok, fun i u hu => ?_⟩
    have hi : i < K.n := by have := (List.getElem?_eq_some_iff.1 hu).1; rwa [K.len hok] at this
    have := h.cells (g := g) rfl (j * K.n + i) u (by rw [flat_get hR.lens _ _ hi, List.getElem?_eq_getElem hjc]; exact hu)
    have e : (⟨g, 0, none⟩ : Addr).add (j * K.n + i) = ⟨g, 0 + j * K.n + i, none⟩ := by
      unfold Addr.add
      split
      · rename_i h0; simp only [Addr.mk.injEq, true_and, and_true]; omega
      · simp
    rwa [e] at this
theorem Sl.nil_of {α : Type} {K : Rk α} {p : Nat → Prop} {w : World} {n c : Nat} {l : List α} (h : Sl K p w (.slice none n c) l) : l = [] := by
  obtain ⟨A', c', e, _, _, hr⟩ := h
  injection e with e1
  subst e1
  apply List.eq_nil_of_length_eq_zero
  rcases Nat.eq_zero_or_pos l.length with h0 | h0
  · exact h0
  · obtain ⟨g, o, cs, hA, _⟩ := hr 0 _ (List.getElem?_eq_getElem h0)
    cases hA
theorem own_free {w : World} {base n : Nat} {e : TypeId} {size : Nat} {v : Value} {xs : List Value} (h : w.ownsRow base e size v n xs) (k : Nat) (hk : v.ownBlock = some k) : Free w k := by
  rcases h.2 with ⟨rfl, _⟩ | ⟨g, cap, cur, rfl, hb, hg, _⟩
  · simp [Value.ownBlock] at hk
  · simp [Value.ownBlock] at hk
    subst hk
    exact ⟨cur, e, hg⟩

set_option maxRecDepth 100000 in
theorem info3 : (Try.prog.info? 3).map (fun i => (i.zero, i.size, i.bytes)) = some (some (.int .i64 0), 1, 8) := by kernel_rfl
set_option maxRecDepth 100000 in
set_option maxHeartbeats 1000000 in
theorem clone_int (w : World) (p : Nat → Prop) (v : Value) (l : List Int) (h : Sl rInt p w v l) : Calls Try.prog 82 #[v] w (ClonePost rInt 3 p w l) := by
  obtain ⟨A, c, rfl, hc⟩ := h.form
  have hreach := h.reach
  obtain ⟨i0, hi, hz0, hz1, hz2⟩ := info_parts info3
  cases A with
  | none =>
    obtain rfl := h.nil_of
    have heq : ∀ w', (binOp .eql 29 (.slice none 0 c) (.slice none 0 0)).run Try.prog w' = .ok (.bool true) w' := fun w' => by
      exact Go.Lib.run_eql_slice_nil (P := Try.prog) w' 29 3 none 0 c 0 0 Try.underlying29
    go_enter Try.func82, Try.ntmps82
    go_wp2
    go_ret
    exact ⟨_, [], rfl, Fr.refl _ _, World.ownsRow_nil _ _ _ _, rfl, fun j cs x h1 => by simp at h1⟩
  | some ad =>
    obtain ⟨css, hR, hfl, hcell⟩ := h.flat
    have hcell' : ∀ i u, css.flatten[i]? = some u → (w.alloc (.cells #[] 3)).cell? (ad.add i) = some u := fun i u hu => by
      have hh := hcell i u hu
      rw [← hh]
      exact World.cell?_of_block (((Fr.refl [] w).alloc _).block _ (World.block_lt_of_cell? w _ hh) (by simp))
    have hmade := World.ownsRow_made (base := w.heap.size) (e := 3) (size := 1) w #[] 0 (Nat.le_refl _) (by simp [maxLen]) (by simp)
    have hone := hR.one
    have heq : ∀ w', (binOp .eql 29 (.slice (some ad) l.length c) (.slice none 0 0)).run Try.prog w' = .ok (.bool false) w' := fun w' => by
      exact Go.Lib.run_eql_slice_nil (P := Try.prog) w' 29 3 (some ad) l.length c 0 0 Try.underlying29
    have HR := Lib.hid hR
    have hlen : l.length * 8 ≤ 140737488351232 := hreach
    clear hR hcell h hreach
    go_enter Try.func82, Try.ntmps82
    go_wp2_with (at_builtin; refine wpList_append_own _ rfl _ _ 29 rfl w.heap.size 3 i0 _ 1 8 Try.underlying29 hi hz0 hz1 hz2 rfl (by decide) _ _ _ rfl hmade ad l.length c css.flatten rfl hfl hcell' hone ?c4 ?c5 ?c6 ?_)
    case c4 => unfold maxLen; omega
    case c5 => omega
    case c6 => simp
    intro v' w1 hown' hgrow _
    have hown2 : w1.ownsRow w.heap.size 3 1 v' l.length css.flatten := by simpa using hown'
    have hf : Fr [] w w1 := ((Fr.refl [] w).alloc _).trans (Fr.of_grown (S := [w.heap.size]) hgrow (fun k hk _ => by simp [Value.ownBlock] at hk; simp [hk])) (fun x hx hxl => by simp at hx; omega)
    obtain ⟨A', c', rfl⟩ := own_slice hown'
    clear hown' hgrow
    go_wp2
    go_ret
    exact ⟨_, css, rfl, hf, hown2, HR.out⟩

set_option maxRecDepth 100000 in
theorem info9 : (Try.prog.info? 9).map (fun i => (i.zero, i.size, i.bytes)) = some (some (.string ⟨#[]⟩), 1, 16) := by kernel_rfl
set_option maxRecDepth 100000 in
set_option maxHeartbeats 1000000 in
theorem clone_str (w : World) (p : Nat → Prop) (v : Value) (l : List ByteArray) (h : Sl rStr p w v l) : Calls Try.prog 86 #[v] w (ClonePost rStr 9 p w l) := by
  obtain ⟨A, c, rfl, hc⟩ := h.form
  have hreach := h.reach
  obtain ⟨i0, hi, hz0, hz1, hz2⟩ := info_parts info9
  cases A with
  | none =>
    obtain rfl := h.nil_of
    have heq : ∀ w', (binOp .eql 43 (.slice none 0 c) (.slice none 0 0)).run Try.prog w' = .ok (.bool true) w' := fun w' => by
      exact Go.Lib.run_eql_slice_nil (P := Try.prog) w' 43 9 none 0 c 0 0 Try.underlying43
    go_enter Try.func86, Try.ntmps86
    go_wp2
    go_ret
    exact ⟨_, [], rfl, Fr.refl _ _, World.ownsRow_nil _ _ _ _, rfl, fun j cs x h1 => by simp at h1⟩
  | some ad =>
    obtain ⟨css, hR, hfl, hcell⟩ := h.flat
    have hcell' : ∀ i u, css.flatten[i]? = some u → (w.alloc (.cells #[] 9)).cell? (ad.add i) = some u := fun i u hu => by
      have hh := hcell i u hu
      rw [← hh]
      exact World.cell?_of_block (((Fr.refl [] w).alloc _).block _ (World.block_lt_of_cell? w _ hh) (by simp))
    have hmade := World.ownsRow_made (base := w.heap.size) (e := 9) (size := 1) w #[] 0 (Nat.le_refl _) (by simp [maxLen]) (by simp)
    have hone := hR.one
    have heq : ∀ w', (binOp .eql 43 (.slice (some ad) l.length c) (.slice none 0 0)).run Try.prog w' = .ok (.bool false) w' := fun w' => by
      exact Go.Lib.run_eql_slice_nil (P := Try.prog) w' 43 9 (some ad) l.length c 0 0 Try.underlying43
    have HR := Lib.hid hR
    have hlen : l.length * 16 ≤ 140737488351232 := hreach
    clear hR hcell h hreach
    go_enter Try.func86, Try.ntmps86
    go_wp2_with (at_builtin; refine wpList_append_own _ rfl _ _ 43 rfl w.heap.size 9 i0 _ 1 16 Try.underlying43 hi hz0 hz1 hz2 rfl (by decide) _ _ _ rfl hmade ad l.length c css.flatten rfl hfl hcell' hone ?c4 ?c5 ?c6 ?_)
    case c4 => unfold maxLen; omega
    case c5 => omega
    case c6 => simp
    intro v' w1 hown' hgrow _
    have hown2 : w1.ownsRow w.heap.size 9 1 v' l.length css.flatten := by simpa using hown'
    have hf : Fr [] w w1 := ((Fr.refl [] w).alloc _).trans (Fr.of_grown (S := [w.heap.size]) hgrow (fun k hk _ => by simp [Value.ownBlock] at hk; simp [hk])) (fun x hx hxl => by simp at hx; omega)
    obtain ⟨A', c', rfl⟩ := own_slice hown'
    clear hown' hgrow
    go_wp2
    go_ret
    exact ⟨_, css, rfl, hf, hown2, HR.out⟩

set_option maxRecDepth 100000 in
theorem info130 : (Try.prog.info? 130).map (fun i => (i.zero, i.size, i.bytes)) = some (some (.agg #[(.string ⟨#[]⟩), (.string ⟨#[]⟩)]), 2, 32) := by kernel_rfl
set_option maxRecDepth 100000 in
set_option maxHeartbeats 1000000 in
theorem clone_par (w : World) (p : Nat → Prop) (v : Value) (l : List DPar) (h : Sl rPar p w v l) : Calls Try.prog 117 #[v] w (ClonePost rPar 130 p w l) := by
  obtain ⟨A, c, rfl, hc⟩ := h.form
  have hreach := h.reach
  obtain ⟨i0, hi, hz0, hz1, hz2⟩ := info_parts info130
  cases A with
  | none =>
    obtain rfl := h.nil_of
    have heq : ∀ w', (binOp .eql 46 (.slice none 0 c) (.slice none 0 0)).run Try.prog w' = .ok (.bool true) w' := fun w' => by
      exact Go.Lib.run_eql_slice_nil (P := Try.prog) w' 46 130 none 0 c 0 0 Try.underlying46
    go_enter Try.func117, Try.ntmps117
    go_wp2
    go_ret
    exact ⟨_, [], rfl, Fr.refl _ _, World.ownsRow_nil _ _ _ _, rfl, fun j cs x h1 => by simp at h1⟩
  | some ad =>
    obtain ⟨css, hR, hfl, hcell⟩ := h.flat
    have hcell' : ∀ i u, css.flatten[i]? = some u → (w.alloc (.cells #[] 130)).cell? (ad.add i) = some u := fun i u hu => by
      have hh := hcell i u hu
      rw [← hh]
      exact World.cell?_of_block (((Fr.refl [] w).alloc _).block _ (World.block_lt_of_cell? w _ hh) (by simp))
    have hmade := World.ownsRow_made (base := w.heap.size) (e := 130) (size := 2) w #[] 0 (Nat.le_refl _) (by simp [maxLen]) (by simp)
    have hone := hR.one
    have heq : ∀ w', (binOp .eql 46 (.slice (some ad) l.length c) (.slice none 0 0)).run Try.prog w' = .ok (.bool false) w' := fun w' => by
      exact Go.Lib.run_eql_slice_nil (P := Try.prog) w' 46 130 (some ad) l.length c 0 0 Try.underlying46
    have HR := Lib.hid hR
    have hlen : l.length * 32 ≤ 140737488351232 := hreach
    clear hR hcell h hreach
    go_enter Try.func117, Try.ntmps117
    go_wp2_with (at_builtin; refine wpList_append_own _ rfl _ _ 46 rfl w.heap.size 130 i0 _ 2 32 Try.underlying46 hi hz0 hz1 hz2 rfl (by decide) _ _ _ rfl hmade ad l.length c css.flatten rfl hfl hcell' hone ?c4 ?c5 ?c6 ?_)
    case c4 => unfold maxLen; omega
    case c5 => omega
    case c6 => simp
    intro v' w1 hown' hgrow _
    have hown2 : w1.ownsRow w.heap.size 130 2 v' l.length css.flatten := by simpa using hown'
    have hf : Fr [] w w1 := ((Fr.refl [] w).alloc _).trans (Fr.of_grown (S := [w.heap.size]) hgrow (fun k hk _ => by simp [Value.ownBlock] at hk; simp [hk])) (fun x hx hxl => by simp at hx; omega)
    obtain ⟨A', c', rfl⟩ := own_slice hown'
    clear hown' hgrow
    go_wp2
    go_ret
    exact ⟨_, css, rfl, hf, hown2, HR.out⟩

set_option maxRecDepth 100000 in
theorem info50 : (Try.prog.info? 50).map (fun i => (i.zero, i.size, i.bytes)) = some (some (.agg #[(.string ⟨#[]⟩), (.int .i64 0), (.int .i64 0), (.slice none 0 0), (.int .i64 0), (.slice none 0 0), (.slice none 0 0), (.slice none 0 0), (.slice none 0 0), (.slice none 0 0), (.int .i64 0), (.slice none 0 0), (.string ⟨#[]⟩)]), 13, 232) := by kernel_rfl
set_option maxRecDepth 100000 in
set_option maxHeartbeats 1000000 in
theorem clone_state (w : World) (p : Nat → Prop) (v : Value) (l : List DState) (h : Sl rState p w v l) : Calls Try.prog 83 #[v] w (ClonePost rState 50 p w l) := by
  obtain ⟨A, c, rfl, hc⟩ := h.form
  have hreach := h.reach
  obtain ⟨i0, hi, hz0, hz1, hz2⟩ := info_parts info50
  cases A with
  | none =>
    obtain rfl := h.nil_of
    have heq : ∀ w', (binOp .eql 22 (.slice none 0 c) (.slice none 0 0)).run Try.prog w' = .ok (.bool true) w' := fun w' => by
      exact Go.Lib.run_eql_slice_nil (P := Try.prog) w' 22 50 none 0 c 0 0 Try.underlying22
    go_enter Try.func83, Try.ntmps83
    go_wp2
    go_ret
    exact ⟨_, [], rfl, Fr.refl _ _, World.ownsRow_nil _ _ _ _, rfl, fun j cs x h1 => by simp at h1⟩
  | some ad =>
    obtain ⟨css, hR, hfl, hcell⟩ := h.flat
    have hcell' : ∀ i u, css.flatten[i]? = some u → (w.alloc (.cells #[] 50)).cell? (ad.add i) = some u := fun i u hu => by
      have hh := hcell i u hu
      rw [← hh]
      exact World.cell?_of_block (((Fr.refl [] w).alloc _).block _ (World.block_lt_of_cell? w _ hh) (by simp))
    have hmade := World.ownsRow_made (base := w.heap.size) (e := 50) (size := 13) w #[] 0 (Nat.le_refl _) (by simp [maxLen]) (by simp)
    have hone := hR.one
    have heq : ∀ w', (binOp .eql 22 (.slice (some ad) l.length c) (.slice none 0 0)).run Try.prog w' = .ok (.bool false) w' := fun w' => by
      exact Go.Lib.run_eql_slice_nil (P := Try.prog) w' 22 50 (some ad) l.length c 0 0 Try.underlying22
    have HR := Lib.hid hR
    have hlen : l.length * 232 ≤ 140737488351232 := hreach
    clear hR hcell h hreach
    go_enter Try.func83, Try.ntmps83
    go_wp2_with (at_builtin; refine wpList_append_own _ rfl _ _ 22 rfl w.heap.size 50 i0 _ 13 232 Try.underlying22 hi hz0 hz1 hz2 rfl (by decide) _ _ _ rfl hmade ad l.length c css.flatten rfl hfl hcell' hone ?c4 ?c5 ?c6 ?_)
    case c4 => unfold maxLen; omega
    case c5 => omega
    case c6 => simp
    intro v' w1 hown' hgrow _
    have hown2 : w1.ownsRow w.heap.size 50 13 v' l.length css.flatten := by simpa using hown'
    have hf : Fr [] w w1 := ((Fr.refl [] w).alloc _).trans (Fr.of_grown (S := [w.heap.size]) hgrow (fun k hk _ => by simp [Value.ownBlock] at hk; simp [hk])) (fun x hx hxl => by simp at hx; omega)
    obtain ⟨A', c', rfl⟩ := own_slice hown'
    clear hown' hgrow
    go_wp2
    go_ret
    exact ⟨_, css, rfl, hf, hown2, HR.out⟩

set_option maxRecDepth 100000 in
theorem info45 : (Try.prog.info? 45).map (fun i => (i.zero, i.size, i.bytes)) = some (some (.agg #[(.int .i64 0), (.slice none 0 0), (.string ⟨#[]⟩), (.slice none 0 0), (.bool false), (.int .i64 0)]), 6, 88) := by kernel_rfl
set_option maxRecDepth 100000 in
set_option maxHeartbeats 1000000 in
theorem clone_trans (w : World) (p : Nat → Prop) (v : Value) (l : List DTrans) (h : Sl rTrans p w v l) : Calls Try.prog 85 #[v] w (ClonePost rTrans 45 p w l) := by
  obtain ⟨A, c, rfl, hc⟩ := h.form
  have hreach := h.reach
  obtain ⟨i0, hi, hz0, hz1, hz2⟩ := info_parts info45
  cases A with
  | none =>
    obtain rfl := h.nil_of
    have heq : ∀ w', (binOp .eql 23 (.slice none 0 c) (.slice none 0 0)).run Try.prog w' = .ok (.bool true) w' := fun w' => by
      exact Go.Lib.run_eql_slice_nil (P := Try.prog) w' 23 45 none 0 c 0 0 Try.underlying23
    go_enter Try.func85, Try.ntmps85
    go_wp2
    go_ret
    exact ⟨_, [], rfl, Fr.refl _ _, World.ownsRow_nil _ _ _ _, rfl, fun j cs x h1 => by simp at h1⟩
  | some ad =>
    obtain ⟨css, hR, hfl, hcell⟩ := h.flat
    have hcell' : ∀ i u, css.flatten[i]? = some u → (w.alloc (.cells #[] 45)).cell? (ad.add i) = some u := fun i u hu => by
      have hh := hcell i u hu
      rw [← hh]
      exact World.cell?_of_block (((Fr.refl [] w).alloc _).block _ (World.block_lt_of_cell? w _ hh) (by simp))
    have hmade := World.ownsRow_made (base := w.heap.size) (e := 45) (size := 6) w #[] 0 (Nat.le_refl _) (by simp [maxLen]) (by simp)
    have hone := hR.one
    have heq : ∀ w', (binOp .eql 23 (.slice (some ad) l.length c) (.slice none 0 0)).run Try.prog w' = .ok (.bool false) w' := fun w' => by
      exact Go.Lib.run_eql_slice_nil (P := Try.prog) w' 23 45 (some ad) l.length c 0 0 Try.underlying23
    have HR := Lib.hid hR
    have hlen : l.length * 88 ≤ 140737488351232 := hreach
    clear hR hcell h hreach
    go_enter Try.func85, Try.ntmps85
    go_wp2_with (at_builtin; refine wpList_append_own _ rfl _ _ 23 rfl w.heap.size 45 i0 _ 6 88 Try.underlying23 hi hz0 hz1 hz2 rfl (by decide) _ _ _ rfl hmade ad l.length c css.flatten rfl hfl hcell' hone ?c4 ?c5 ?c6 ?_)
    case c4 => unfold maxLen; omega
    case c5 => omega
    case c6 => simp
    intro v' w1 hown' hgrow _
    have hown2 : w1.ownsRow w.heap.size 45 6 v' l.length css.flatten := by simpa using hown'
    have hf : Fr [] w w1 := ((Fr.refl [] w).alloc _).trans (Fr.of_grown (S := [w.heap.size]) hgrow (fun k hk _ => by simp [Value.ownBlock] at hk; simp [hk])) (fun x hx hxl => by simp at hx; omega)
    obtain ⟨A', c', rfl⟩ := own_slice hown'
    clear hown' hgrow
    go_wp2
    go_ret
    exact ⟨_, css, rfl, hf, hown2, HR.out⟩

set_option maxRecDepth 100000 in
theorem info113 : (Try.prog.info? 113).map (fun i => (i.zero, i.size, i.bytes)) = some (some (.agg #[(.int .i64 0), (.string ⟨#[]⟩), (.string ⟨#[]⟩), (.string ⟨#[]⟩), (.string ⟨#[]⟩), (.string ⟨#[]⟩), (.string ⟨#[]⟩), (.string ⟨#[]⟩), (.int .i64 0), (.string ⟨#[]⟩), (.string ⟨#[]⟩), (.string ⟨#[]⟩), (.string ⟨#[]⟩), (.string ⟨#[]⟩), (.slice none 0 0), (.slice none 0 0), (.int .i64 0), (.slice none 0 0), (.string ⟨#[]⟩)]), 19, 304) := by kernel_rfl
set_option maxRecDepth 100000 in
set_option maxHeartbeats 1000000 in
theorem clone_act (w : World) (p : Nat → Prop) (v : Value) (l : List DAct) (h : Sl rAct p w v l) : Calls Try.prog 88 #[v] w (ClonePost rAct 113 p w l) := by
  obtain ⟨A, c, rfl, hc⟩ := h.form
  have hreach := h.reach
  obtain ⟨i0, hi, hz0, hz1, hz2⟩ := info_parts info113
  cases A with
  | none =>
    obtain rfl := h.nil_of
    have heq : ∀ w', (binOp .eql 108 (.slice none 0 c) (.slice none 0 0)).run Try.prog w' = .ok (.bool true) w' := fun w' => by
      exact Go.Lib.run_eql_slice_nil (P := Try.prog) w' 108 113 none 0 c 0 0 Try.underlying108
    go_enter Try.func88, Try.ntmps88
    go_wp2
    go_ret
    exact ⟨_, [], rfl, Fr.refl _ _, World.ownsRow_nil _ _ _ _, rfl, fun j cs x h1 => by simp at h1⟩
  | some ad =>
    obtain ⟨css, hR, hfl, hcell⟩ := h.flat
    have hcell' : ∀ i u, css.flatten[i]? = some u → (w.alloc (.cells #[] 113)).cell? (ad.add i) = some u := fun i u hu => by
      have hh := hcell i u hu
      rw [← hh]
      exact World.cell?_of_block (((Fr.refl [] w).alloc _).block _ (World.block_lt_of_cell? w _ hh) (by simp))
    have hmade := World.ownsRow_made (base := w.heap.size) (e := 113) (size := 19) w #[] 0 (Nat.le_refl _) (by simp [maxLen]) (by simp)
    have hone := hR.one
    have heq : ∀ w', (binOp .eql 108 (.slice (some ad) l.length c) (.slice none 0 0)).run Try.prog w' = .ok (.bool false) w' := fun w' => by
      exact Go.Lib.run_eql_slice_nil (P := Try.prog) w' 108 113 (some ad) l.length c 0 0 Try.underlying108
    have HR := Lib.hid hR
    have hlen : l.length * 304 ≤ 140737488351232 := hreach
    clear hR hcell h hreach
    go_enter Try.func88, Try.ntmps88
    go_wp2_with (at_builtin; refine wpList_append_own _ rfl _ _ 108 rfl w.heap.size 113 i0 _ 19 304 Try.underlying108 hi hz0 hz1 hz2 rfl (by decide) _ _ _ rfl hmade ad l.length c css.flatten rfl hfl hcell' hone ?c4 ?c5 ?c6 ?_)
    case c4 => unfold maxLen; omega
    case c5 => omega
    case c6 => simp
    intro v' w1 hown' hgrow _
    have hown2 : w1.ownsRow w.heap.size 113 19 v' l.length css.flatten := by simpa using hown'
    have hf : Fr [] w w1 := ((Fr.refl [] w).alloc _).trans (Fr.of_grown (S := [w.heap.size]) hgrow (fun k hk _ => by simp [Value.ownBlock] at hk; simp [hk])) (fun x hx hxl => by simp at hx; omega)
    obtain ⟨A', c', rfl⟩ := own_slice hown'
    clear hown' hgrow
    go_wp2
    go_ret
    exact ⟨_, css, rfl, hf, hown2, HR.out⟩

set_option maxRecDepth 100000 in
theorem info110 : (Try.prog.info? 110).map (fun i => (i.zero, i.size, i.bytes)) = some (some (.agg #[(.slice none 0 0)]), 1, 24) := by kernel_rfl
set_option maxRecDepth 100000 in
set_option maxHeartbeats 1000000 in
theorem clone_block (w : World) (p : Nat → Prop) (v : Value) (l : List DBlock) (h : Sl rBlock p w v l) : Calls Try.prog 87 #[v] w (ClonePost rBlock 110 p w l) := by
  obtain ⟨A, c, rfl, hc⟩ := h.form
  have hreach := h.reach
  obtain ⟨i0, hi, hz0, hz1, hz2⟩ := info_parts info110
  cases A with
  | none =>
    obtain rfl := h.nil_of
    have heq : ∀ w', (binOp .eql 24 (.slice none 0 c) (.slice none 0 0)).run Try.prog w' = .ok (.bool true) w' := fun w' => by
      exact Go.Lib.run_eql_slice_nil (P := Try.prog) w' 24 110 none 0 c 0 0 Try.underlying24
    go_enter Try.func87, Try.ntmps87
    go_wp2
    go_ret
    exact ⟨_, [], rfl, Fr.refl _ _, World.ownsRow_nil _ _ _ _, rfl, fun j cs x h1 => by simp at h1⟩
  | some ad =>
    obtain ⟨css, hR, hfl, hcell⟩ := h.flat
    have hcell' : ∀ i u, css.flatten[i]? = some u → (w.alloc (.cells #[] 110)).cell? (ad.add i) = some u := fun i u hu => by
      have hh := hcell i u hu
      rw [← hh]
      exact World.cell?_of_block (((Fr.refl [] w).alloc _).block _ (World.block_lt_of_cell? w _ hh) (by simp))
    have hmade := World.ownsRow_made (base := w.heap.size) (e := 110) (size := 1) w #[] 0 (Nat.le_refl _) (by simp [maxLen]) (by simp)
    have hone := hR.one
    have heq : ∀ w', (binOp .eql 24 (.slice (some ad) l.length c) (.slice none 0 0)).run Try.prog w' = .ok (.bool false) w' := fun w' => by
      exact Go.Lib.run_eql_slice_nil (P := Try.prog) w' 24 110 (some ad) l.length c 0 0 Try.underlying24
    have HR := Lib.hid hR
    have hlen : l.length * 24 ≤ 140737488351232 := hreach
    clear hR hcell h hreach
    go_enter Try.func87, Try.ntmps87
    go_wp2_with (at_builtin; refine wpList_append_own _ rfl _ _ 24 rfl w.heap.size 110 i0 _ 1 24 Try.underlying24 hi hz0 hz1 hz2 rfl (by decide) _ _ _ rfl hmade ad l.length c css.flatten rfl hfl hcell' hone ?c4 ?c5 ?c6 ?_)
    case c4 => unfold maxLen; omega
    case c5 => omega
    case c6 => simp
    intro v' w1 hown' hgrow _
    have hown2 : w1.ownsRow w.heap.size 110 1 v' l.length css.flatten := by simpa using hown'
    have hf : Fr [] w w1 := ((Fr.refl [] w).alloc _).trans (Fr.of_grown (S := [w.heap.size]) hgrow (fun k hk _ => by simp [Value.ownBlock] at hk; simp [hk])) (fun x hx hxl => by simp at hx; omega)
    obtain ⟨A', c', rfl⟩ := own_slice hown'
    clear hown' hgrow
    go_wp2
    go_ret
    exact ⟨_, css, rfl, hf, hown2, HR.out⟩

set_option maxRecDepth 100000 in
theorem info115 : (Try.prog.info? 115).map (fun i => (i.zero, i.size, i.bytes)) = some (some (.agg #[(.string ⟨#[]⟩), (.string ⟨#[]⟩), (.string ⟨#[]⟩)]), 3, 48) := by kernel_rfl
set_option maxRecDepth 100000 in
set_option maxHeartbeats 1000000 in
theorem clone_datum (w : World) (p : Nat → Prop) (v : Value) (l : List DDatum) (h : Sl rDatum p w v l) : Calls Try.prog 89 #[v] w (ClonePost rDatum 115 p w l) := by
  obtain ⟨A, c, rfl, hc⟩ := h.form
  have hreach := h.reach
  obtain ⟨i0, hi, hz0, hz1, hz2⟩ := info_parts info115
  cases A with
  | none =>
    obtain rfl := h.nil_of
    have heq : ∀ w', (binOp .eql 25 (.slice none 0 c) (.slice none 0 0)).run Try.prog w' = .ok (.bool true) w' := fun w' => by
      exact Go.Lib.run_eql_slice_nil (P := Try.prog) w' 25 115 none 0 c 0 0 Try.underlying25
    go_enter Try.func89, Try.ntmps89
    go_wp2
    go_ret
    exact ⟨_, [], rfl, Fr.refl _ _, World.ownsRow_nil _ _ _ _, rfl, fun j cs x h1 => by simp at h1⟩
  | some ad =>
    obtain ⟨css, hR, hfl, hcell⟩ := h.flat
    have hcell' : ∀ i u, css.flatten[i]? = some u → (w.alloc (.cells #[] 115)).cell? (ad.add i) = some u := fun i u hu => by
      have hh := hcell i u hu
      rw [← hh]
      exact World.cell?_of_block (((Fr.refl [] w).alloc _).block _ (World.block_lt_of_cell? w _ hh) (by simp))
    have hmade := World.ownsRow_made (base := w.heap.size) (e := 115) (size := 3) w #[] 0 (Nat.le_refl _) (by simp [maxLen]) (by simp)
    have hone := hR.one
    have heq : ∀ w', (binOp .eql 25 (.slice (some ad) l.length c) (.slice none 0 0)).run Try.prog w' = .ok (.bool false) w' := fun w' => by
      exact Go.Lib.run_eql_slice_nil (P := Try.prog) w' 25 115 (some ad) l.length c 0 0 Try.underlying25
    have HR := Lib.hid hR
    have hlen : l.length * 48 ≤ 140737488351232 := hreach
    clear hR hcell h hreach
    go_enter Try.func89, Try.ntmps89
    go_wp2_with (at_builtin; refine wpList_append_own _ rfl _ _ 25 rfl w.heap.size 115 i0 _ 3 48 Try.underlying25 hi hz0 hz1 hz2 rfl (by decide) _ _ _ rfl hmade ad l.length c css.flatten rfl hfl hcell' hone ?c4 ?c5 ?c6 ?_)
    case c4 => unfold maxLen; omega
    case c5 => omega
    case c6 => simp
    intro v' w1 hown' hgrow _
    have hown2 : w1.ownsRow w.heap.size 115 3 v' l.length css.flatten := by simpa using hown'
    have hf : Fr [] w w1 := ((Fr.refl [] w).alloc _).trans (Fr.of_grown (S := [w.heap.size]) hgrow (fun k hk _ => by simp [Value.ownBlock] at hk; simp [hk])) (fun x hx hxl => by simp at hx; omega)
    obtain ⟨A', c', rfl⟩ := own_slice hown'
    clear hown' hgrow
    go_wp2
    go_ret
    exact ⟨_, css, rfl, hf, hown2, HR.out⟩

set_option maxRecDepth 100000 in
theorem info118 : (Try.prog.info? 118).map (fun i => (i.zero, i.size, i.bytes)) = some (some (.agg #[(.string ⟨#[]⟩), (.string ⟨#[]⟩), (.int .i64 0), (.bool false), (.int .i64 0), (.slice none 0 0), (.string ⟨#[]⟩), (.int .i64 0)]), 8, 104) := by kernel_rfl
set_option maxRecDepth 100000 in
set_option maxHeartbeats 1000000 in
theorem clone_invoke (w : World) (p : Nat → Prop) (v : Value) (l : List DInvoke) (h : Sl rInvoke p w v l) : Calls Try.prog 90 #[v] w (ClonePost rInvoke 118 p w l) := by
  obtain ⟨A, c, rfl, hc⟩ := h.form
  have hreach := h.reach
  obtain ⟨i0, hi, hz0, hz1, hz2⟩ := info_parts info118
  cases A with
  | none =>
    obtain rfl := h.nil_of
    have heq : ∀ w', (binOp .eql 26 (.slice none 0 c) (.slice none 0 0)).run Try.prog w' = .ok (.bool true) w' := fun w' => by
      exact Go.Lib.run_eql_slice_nil (P := Try.prog) w' 26 118 none 0 c 0 0 Try.underlying26
    go_enter Try.func90, Try.ntmps90
    go_wp2
    go_ret
    exact ⟨_, [], rfl, Fr.refl _ _, World.ownsRow_nil _ _ _ _, rfl, fun j cs x h1 => by simp at h1⟩
  | some ad =>
    obtain ⟨css, hR, hfl, hcell⟩ := h.flat
    have hcell' : ∀ i u, css.flatten[i]? = some u → (w.alloc (.cells #[] 118)).cell? (ad.add i) = some u := fun i u hu => by
      have hh := hcell i u hu
      rw [← hh]
      exact World.cell?_of_block (((Fr.refl [] w).alloc _).block _ (World.block_lt_of_cell? w _ hh) (by simp))
    have hmade := World.ownsRow_made (base := w.heap.size) (e := 118) (size := 8) w #[] 0 (Nat.le_refl _) (by simp [maxLen]) (by simp)
    have hone := hR.one
    have heq : ∀ w', (binOp .eql 26 (.slice (some ad) l.length c) (.slice none 0 0)).run Try.prog w' = .ok (.bool false) w' := fun w' => by
      exact Go.Lib.run_eql_slice_nil (P := Try.prog) w' 26 118 (some ad) l.length c 0 0 Try.underlying26
    have HR := Lib.hid hR
    have hlen : l.length * 104 ≤ 140737488351232 := hreach
    clear hR hcell h hreach
    go_enter Try.func90, Try.ntmps90
    go_wp2_with (at_builtin; refine wpList_append_own _ rfl _ _ 26 rfl w.heap.size 118 i0 _ 8 104 Try.underlying26 hi hz0 hz1 hz2 rfl (by decide) _ _ _ rfl hmade ad l.length c css.flatten rfl hfl hcell' hone ?c4 ?c5 ?c6 ?_)
    case c4 => unfold maxLen; omega
    case c5 => omega
    case c6 => simp
    intro v' w1 hown' hgrow _
    have hown2 : w1.ownsRow w.heap.size 118 8 v' l.length css.flatten := by simpa using hown'
    have hf : Fr [] w w1 := ((Fr.refl [] w).alloc _).trans (Fr.of_grown (S := [w.heap.size]) hgrow (fun k hk _ => by simp [Value.ownBlock] at hk; simp [hk])) (fun x hx hxl => by simp at hx; omega)
    obtain ⟨A', c', rfl⟩ := own_slice hown'
    clear hown' hgrow
    go_wp2
    go_ret
    exact ⟨_, css, rfl, hf, hown2, HR.out⟩

end Go.Proofs.Ytekfbafljilchaa

/- lattice.cloneLoad. -/
set_option linter.unusedVariables false
set_option linter.unusedSimpArgs false
namespace Go.Proofs.Ytekfbafljilchaa
open Go.RowKit Go.Lib

/-- New blocks of these types. -/
def NT (B : Nat) (T : List Nat) (w : World) (k : Nat) : Prop := B ≤ k ∧ ∃ c t, t ∈ T ∧ Blk w k c t
theorem NT.fr {B : Nat} {T S : List Nat} {w w' : World} (f : Fr S w w') (hS : ∀ k, k ∈ S → ¬ NT B T w k) : ∀ k, NT B T w k → k < w.heap.size → NT B T w' k ∧ w'.heap[k]? = w.heap[k]? := by
  intro k hk hlt
  have hb := f.block k hlt (fun hm => hS k hm hk)
  obtain ⟨h1, c, t, ht, h2⟩ := hk
  exact ⟨⟨h1, c, t, ht, hb.trans h2⟩, hb⟩
theorem NT.fr0 {B : Nat} {T : List Nat} {w w' : World} (f : Fr [] w w') : ∀ k, NT B T w k → k < w.heap.size → NT B T w' k ∧ w'.heap[k]? = w.heap[k]? := NT.fr f (fun k hk => by cases hk)
theorem NT.wide {B B' : Nat} {T T' : List Nat} {w : World} (hB : B' ≤ B) (hT : ∀ t, t ∈ T → t ∈ T') : ∀ k, NT B T w k → k < w.heap.size → NT B' T' w k ∧ w.heap[k]? = w.heap[k]? := by
  rintro k ⟨h1, c, t, ht, h2⟩ _
  exact ⟨⟨Nat.le_trans hB h1, c, t, hT t ht, h2⟩, rfl⟩
theorem NT.not {B : Nat} {T : List Nat} {w : World} {k : Nat} {c : Array Value} {t : TypeId} (hb : Blk w k c t) (ht : t ∉ T) : ¬ NT B T w k := by
  rintro ⟨_, c', t', h1, h2⟩
  have e := Option.some.inj ((Eq.symm hb).trans h2)
  injection e with _ e
  exact ht (e ▸ h1)
theorem NT.own {w : World} {base n : Nat} {t size B : Nat} {T : List Nat} {v : Value} {xs : List Value} (h : w.ownsRow base t size v n xs) (hB : B ≤ base) (ht : t ∈ T) : ∀ k, base ≤ k → k < w.heap.size → v.ownBlock = some k → NT B T w k := by
  intro k h1 _ hk
  rcases h.2 with ⟨rfl, _⟩ | ⟨g, cap, cur, rfl, hb, hg, _⟩
  · simp [Value.ownBlock] at hk
  · simp [Value.ownBlock] at hk
    subst hk
    exact ⟨by omega, cur, t, ht, hg⟩

/-- What cloneLoad comes to. -/
def LoadPost (p : Nat → Prop) (w : World) (k : Int) (l : List DPar) (b : ByteArray) (e : Ending) (w' : World) : Prop :=
  ∃ A c, e = .returned (.agg #[.int .i64 k, .slice A l.length c, .string b]) ∧ Fr [] w w' ∧ Sl rPar (NT w.heap.size [130] w') w' (.slice A l.length c) l

set_option maxHeartbeats 1000000 in
theorem cloneLoad_any (w : World) (p : Nat → Prop) (k : Int) (v : Value) (l : List DPar) (b : ByteArray) (h : Sl rPar p w v l) :
    Calls Try.prog 84 #[.agg #[.int .i64 k, v, .string b]] w (LoadPost p w k l b) := by
  obtain ⟨A, c, rfl, hc⟩ := h.form
  have hreach := Lib.hid h.reach
  have hf1 : Fr [] w ((w.alloc (.cells #[.int .i64 k, .slice A l.length c, .string b] 48)).alloc (.cells #[.int .i64 0, .slice none 0 0, .string ⟨#[]⟩] 48)) := ((Fr.refl [] w).alloc _).alloc _
  have hcl := clone_par _ (fun _ => True) _ l (h.fr (q := fun _ => True) (fun k _ hk => ⟨trivial, hf1.block k hk (by simp)⟩))
  clear h
  go_enter Try.func84, Try.ntmps84
  go_wp2_with fail
  refine hcl.mono ?_
  rintro e w1 ⟨v', css, rfl, f1, ho, hR⟩
  have hb : Blk w1 w.heap.size #[.int .i64 k, .slice A l.length c, .string b] 48 := ((Blk.new w #[.int .i64 k, .slice A l.length c, .string b] 48).alloc (.cells #[.int .i64 0, .slice none 0 0, .string ⟨#[]⟩] 48)).fr f1 (by simp)
  have hb2 : Blk w1 (w.heap.size + 1) #[.int .i64 0, .slice none 0 0, .string ⟨#[]⟩] 48 := by
    have := (Blk.new (w.alloc (.cells #[.int .i64 k, .slice A l.length c, .string b] 48)) #[.int .i64 0, .slice none 0 0, .string ⟨#[]⟩] 48).fr f1 (by simp)
    simpa using this
  have hlt := hb.lt
  have hlt2 := hb2.lt
  have hc0 := hb.cell 0
  have hc1 := hb.cell 1
  have hc2 := hb.cell 2
  have hd0 := hb2.cell 0
  have hd1 := hb2.cell 1
  have hd2 := hb2.cell 2
  simp at hc0 hc1 hc2 hd0 hd1 hd2
  have hff := hb.free
  have hff2 := hb2.free
  obtain ⟨A', c', rfl⟩ := own_slice ho
  have HO := Lib.hid ho
  have HR := Lib.hid hR
  have HB := hb
  have HB2 := hb2
  clear ho hR hb hb2 hcl
  go_wp2
  have hS : Sl rPar (NT w.heap.size [130] w1) w1 (.slice A' l.length c') l := by
    refine sl_of_own HO.out ⟨HR.out.1, fun j cs x h1 h2 => HR.out.2 j cs x h1 h2⟩ hreach.out (NT.own HO.out (by simp; omega) (by simp))
  have hfin : Fr [w.heap.size, w.heap.size + 1] w1 ((((w1.setCell ⟨w.heap.size, 1, none⟩ (.slice A' l.length c')).setCell ⟨w.heap.size + 1, 0, none⟩ (.int .i64 k)).setCell ⟨w.heap.size + 1, 1, none⟩ (.slice A' l.length c')).setCell ⟨w.heap.size + 1, 2, none⟩ (.string b)) :=
    ((((Fr.refl _ w1).setCell (by simp) _).setCell (by simp) _).setCell (by simp) _).setCell (by simp) _
  refine bodyPost_ret (v := .agg #[.int .i64 k, .slice A' l.length c', .string b]) (by simp [results, Try.results84, go_sem, hc0, hc1, hc2, hd0, hd1, hd2]) rfl ⟨A', c', rfl, ?_, ?_⟩
  · exact ((hf1.trans' f1).trans hfin (fun x hx hxl => by simp at hx; omega))
  · exact hS.fr (NT.fr hfin (fun x hx => by
      rcases List.mem_cons.1 hx with rfl | hx
      · exact NT.not HB (by simp)
      · obtain rfl := List.mem_singleton.1 hx
        exact NT.not HB2 (by simp)))
end Go.Proofs.Ytekfbafljilchaa

/- Rows of one's own, element by element; a clone whose source lay in an elder world. -/
set_option linter.unusedVariables false
set_option linter.unusedSimpArgs false
namespace Go.Proofs.Ytekfbafljilchaa
open Go.RowKit Go.Lib

/-- A row of one's own at block g: n elements of sz cells. -/
def RowAt (t sz : Nat) (w : World) (B g cap n : Nat) (css : List (List Value)) : Prop :=
  w.ownsRow B t sz (.slice (some ⟨g, 0, none⟩) n cap) n css.flatten ∧ css.length = n ∧ ∀ cs ∈ css, cs.length = sz

theorem RowAt.blk {t sz : Nat} {w : World} {B g cap n : Nat} {css : List (List Value)} (h : RowAt t sz w B g cap n css) : B ≤ g ∧ ∃ cur, Blk w g cur t ∧ cur.size = cap * sz ∧ n ≤ cap := by
  rcases h.1.2 with ⟨h0, _⟩ | ⟨g', cap', cur, e, hb, hg, hc, _, hs, _⟩
  · cases h0
  · injection e with e1 e2 e3
    injection e1 with e1
    injection e1 with e1
    subst e1 e3
    exact ⟨hb, cur, hg, hs, hc⟩
theorem RowAt.lt {t sz : Nat} {w : World} {B g cap n : Nat} {css : List (List Value)} (h : RowAt t sz w B g cap n css) : g < w.heap.size := by
  obtain ⟨_, cur, hb, _⟩ := h.blk
  exact hb.lt
theorem RowAt.fr {t sz : Nat} {w w' : World} {B g cap n : Nat} {css : List (List Value)} {S : List Nat} (h : RowAt t sz w B g cap n css) (f : Fr S w w') (hn : g ∉ S) : RowAt t sz w' B g cap n css :=
  ⟨own_fr h.1 f (fun k hk => by simp [Value.ownBlock] at hk; subst hk; exact hn), h.2⟩
theorem RowAt.cell {t sz : Nat} {w : World} {B g cap n : Nat} {css : List (List Value)} (h : RowAt t sz w B g cap n css) {k i : Nat} {cs : List Value} {u : Value} (hk : css[k]? = some cs) (hi : cs[i]? = some u) : w.cell? ⟨g, k * sz + i, none⟩ = some u := by
  have hcs : cs.length = sz := h.2.2 cs (List.mem_of_getElem? hk)
  have hl : i < sz := by have := (List.getElem?_eq_some_iff.1 hi).1; omega
  have := h.1.cells (g := g) rfl (k * sz + i) u (by rw [flat_get h.2.2 _ _ hl, hk]; exact hi)
  have e : (⟨g, 0, none⟩ : Addr).add (k * sz + i) = ⟨g, k * sz + i, none⟩ := by
    unfold Addr.add
    split
    · rename_i h0; rw [h0]
    · simp
  rwa [e] at this
theorem RowAt.free {t sz : Nat} {w : World} {B g cap n : Nat} {css : List (List Value)} (h : RowAt t sz w B g cap n css) (i : Nat) : w.frozen? ⟨g, i, none⟩ = false := by
  obtain ⟨_, cur, hb, _⟩ := h.blk
  exact hb.free i
theorem RowAt.set {t sz : Nat} {w : World} {B g cap n : Nat} {css : List (List Value)} (h : RowAt t sz w B g cap n css) {k i : Nat} (hi : i < sz) (v : Value) : RowAt t sz (w.setCell ⟨g, k * sz + i, none⟩ v) B g cap n (css.modify k (fun cs => cs.set i v)) := by
  have h1 := (h.1.stored (k * sz + i) v).1
  rw [flat_set h.2.2 _ _ _ hi] at h1
  refine ⟨h1, by rw [List.length_modify]; exact h.2.1, fun cs hc => ?_⟩
  obtain ⟨j, hj, rfl⟩ := List.getElem_of_mem hc
  rw [List.getElem_modify]
  split
  · rw [List.length_set]
    exact h.2.2 _ (List.getElem_mem _)
  · exact h.2.2 _ (List.getElem_mem _)
theorem RowAt.of_own {t sz : Nat} {w : World} {B n : Nat} {v : Value} {css : List (List Value)} (h : w.ownsRow B t sz v n css.flatten) (hl : css.length = n) (hs : ∀ cs ∈ css, cs.length = sz) (hn : 0 < n) : ∃ g cap, v = .slice (some ⟨g, 0, none⟩) n cap ∧ RowAt t sz w B g cap n css := by
  rcases h.2 with ⟨_, h0⟩ | ⟨g, cap, cur, rfl, _⟩
  · omega
  · exact ⟨g, cap, rfl, h, hl, hs⟩

theorem modify_eq_set {α : Type} (l : List α) (k : Nat) (f : α → α) (x : α) (h : l[k]? = some x) : l.modify k f = l.set k (f x) := by
  apply List.ext_getElem?
  intro i
  rw [List.getElem?_modify, List.getElem?_set]
  by_cases e : k = i
  · subst e
    have hl : k < l.length := (List.getElem?_eq_some_iff.1 h).1
    have hx : l[k] = x := (List.getElem?_eq_some_iff.1 h).2
    simp [hl, hx]
  · simp [e]
theorem RowAt.put {t sz : Nat} {w : World} {B g cap n : Nat} {css : List (List Value)} {k i : Nat} {cs : List Value} (h : RowAt t sz w B g cap n css) (hk : css[k]? = some cs) (hi : i < sz) (v : Value) : RowAt t sz (w.setCell ⟨g, k * sz + i, none⟩ v) B g cap n (css.set k (cs.set i v)) := by
  have := h.set (k := k) hi v
  rwa [modify_eq_set _ _ _ _ hk] at this
theorem get_set_self {α : Type} {l : List α} {k : Nat} {x : α} (h : l[k]? = some x) (y : α) : (l.set k y)[k]? = some y := by
  have hl : k < l.length := (List.getElem?_eq_some_iff.1 h).1
  simp [hl]
theorem RowAt.put2 {t sz : Nat} {w : World} {B g cap n : Nat} {css : List (List Value)} {k i j : Nat} {cs : List Value} (h : RowAt t sz w B g cap n css) (hk : css[k]? = some cs) (hi : i < sz) (hj : j < sz) (u v : Value) :
    RowAt t sz ((w.setCell ⟨g, k * sz + i, none⟩ u).setCell ⟨g, k * sz + j, none⟩ v) B g cap n (css.set k ((cs.set i u).set j v)) := by
  have := (h.put hk hi u).put (get_set_self hk _) hj v
  rwa [List.set_set] at this
theorem RowAt.put3 {t sz : Nat} {w : World} {B g cap n : Nat} {css : List (List Value)} {k i j m : Nat} {cs : List Value} (h : RowAt t sz w B g cap n css) (hk : css[k]? = some cs) (hi : i < sz) (hj : j < sz) (hm : m < sz) (u v x : Value) :
    RowAt t sz (((w.setCell ⟨g, k * sz + i, none⟩ u).setCell ⟨g, k * sz + j, none⟩ v).setCell ⟨g, k * sz + m, none⟩ x) B g cap n (css.set k (((cs.set i u).set j v).set m x)) := by
  have := (h.put2 hk hi hj u v).put (get_set_self hk _) hm x
  rwa [List.set_set] at this
theorem RowAt.not {t sz : Nat} {w : World} {B g cap n B' : Nat} {T : List Nat} {css : List (List Value)} (h : RowAt t sz w B g cap n css) (ht : t ∉ T) : ¬ NT B' T w g := by
  obtain ⟨_, cur, hb, _⟩ := h.blk
  exact NT.not hb ht
/-- What was made stays, whatever turns in blocks of other types. -/
theorem Sl.stay {α : Type} {K : Rk α} {B B' : Nat} {T S : List Nat} {w w' : World} {v : Value} {l : List α} (h : Sl K (NT B T w) w v l) (f : Fr S w w') (hB : B' ≤ B) (hS : ∀ k, k ∈ S → ¬ NT B T w k) : Sl K (NT B' T w') w' v l :=
  (h.fr (NT.fr f hS)).fr (NT.wide hB (fun _ h => h))
theorem fr_sets {g : Nat} {w : World} (o : Nat) (v : Value) : Fr [g] w (w.setCell ⟨g, o, none⟩ v) := (Fr.refl _ _).setCell (by simp) _

/-- A row of one's own, nil let in. -/
def OwnE (t sz : Nat) (w : World) (B : Nat) (v : Value) (n : Nat) (css : List (List Value)) : Prop :=
  w.ownsRow B t sz v n css.flatten ∧ css.length = n ∧ ∀ cs ∈ css, cs.length = sz
theorem OwnE.at_ {t sz : Nat} {w : World} {B n : Nat} {v : Value} {css : List (List Value)} (h : OwnE t sz w B v n css) (hn : 0 < n) : ∃ g cap, v = .slice (some ⟨g, 0, none⟩) n cap ∧ RowAt t sz w B g cap n css := RowAt.of_own h.1 h.2.1 h.2.2 hn
theorem OwnE.fr {t sz : Nat} {w w' : World} {B n : Nat} {v : Value} {css : List (List Value)} {S : List Nat} (h : OwnE t sz w B v n css) (f : Fr S w w') (hn : ∀ k, v.ownBlock = some k → k ∉ S) : OwnE t sz w' B v n css := ⟨own_fr h.1 f hn, h.2⟩
theorem OwnE.lt {t sz : Nat} {w : World} {B n : Nat} {v : Value} {css : List (List Value)} (h : OwnE t sz w B v n css) : ∀ k, v.ownBlock = some k → B ≤ k ∧ k < w.heap.size := h.1.lt
theorem OwnE.blk {t sz : Nat} {w : World} {B n : Nat} {v : Value} {css : List (List Value)} (h : OwnE t sz w B v n css) : ∀ k, v.ownBlock = some k → B ≤ k ∧ ∃ c, Blk w k c t := fun k hk => by
  rcases h.1.2 with ⟨rfl, _⟩ | ⟨g, cap, cur, rfl, hb, hg, _⟩
  · simp [Value.ownBlock] at hk
  · simp [Value.ownBlock] at hk
    subst hk
    exact ⟨hb, cur, hg⟩

/-- A clone, told over an elder world w0: what is new lies behind w0. -/
def FromPost {α : Type} (K : Rk α) (t : Nat) (w0 w : World) (l : List α) (e : Ending) (w' : World) : Prop :=
  ∃ A c, e = .returned (.slice A l.length c) ∧ Fr [] w w' ∧ Sl K (NT w0.heap.size [t] w') w' (.slice A l.length c) l

theorem int_from (w0 w : World) (p : Nat → Prop) (v : Value) (l : List Int) (f : Fr [] w0 w) (h : Sl rInt p w0 v l) : Calls Try.prog 82 #[v] w (FromPost rInt 3 w0 w l) := by
  refine (clone_int w (fun _ => True) v l (h.fr (fun k _ hk => ⟨trivial, f.block k hk (by simp)⟩))).mono ?_
  rintro e w' ⟨v', css, rfl, f1, ho, hR⟩
  have hs : Sl rInt (NT w0.heap.size [3] w') w' v' l := sl_of_own ho hR h.reach (NT.own ho f.size (by simp))
  obtain ⟨A, c, rfl⟩ := own_slice ho
  exact ⟨A, c, rfl, f1, hs⟩
theorem str_from (w0 w : World) (p : Nat → Prop) (v : Value) (l : List ByteArray) (f : Fr [] w0 w) (h : Sl rStr p w0 v l) : Calls Try.prog 86 #[v] w (FromPost rStr 9 w0 w l) := by
  refine (clone_str w (fun _ => True) v l (h.fr (fun k _ hk => ⟨trivial, f.block k hk (by simp)⟩))).mono ?_
  rintro e w' ⟨v', css, rfl, f1, ho, hR⟩
  have hs : Sl rStr (NT w0.heap.size [9] w') w' v' l := sl_of_own ho hR h.reach (NT.own ho f.size (by simp))
  obtain ⟨A, c, rfl⟩ := own_slice ho
  exact ⟨A, c, rfl, f1, hs⟩
def LoadFrom (w0 w : World) (k : Int) (l : List DPar) (b : ByteArray) (e : Ending) (w' : World) : Prop :=
  ∃ A c, e = .returned (.agg #[.int .i64 k, .slice A l.length c, .string b]) ∧ Fr [] w w' ∧ Sl rPar (NT w0.heap.size [130] w') w' (.slice A l.length c) l
theorem load_from (w0 w : World) (p : Nat → Prop) (k : Int) (v : Value) (l : List DPar) (b : ByteArray) (f : Fr [] w0 w) (h : Sl rPar p w0 v l) : Calls Try.prog 84 #[.agg #[.int .i64 k, v, .string b]] w (LoadFrom w0 w k l b) := by
  refine (cloneLoad_any w (fun _ => True) k v l b (h.fr (fun k _ hk => ⟨trivial, f.block k hk (by simp)⟩))).mono ?_
  rintro e w' ⟨A, c, rfl, f1, hs⟩
  exact ⟨A, c, rfl, f1, hs.fr (NT.wide f.size (fun _ h => h))⟩
end Go.Proofs.Ytekfbafljilchaa
