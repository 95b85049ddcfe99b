/- Frames of worlds, and readers: what a value's cells say, over which blocks. -/
import Derived.Test.YtekfbafljilchaaRows
import Derived.SizedLaws
import Derived.ChangeArms
import Derived.WalkKit
import Derived.WalkSpells
import Derived.WalkLawsBesides
import Derived.BigQuiet
import Derived.Deep.QuietTactic
import Derived.Deep.LoopGhost
import Derived.Lib.Hide
set_option linter.unusedVariables false
set_option linter.unusedSimpArgs false
namespace Go.Proofs.Ytekfbafljilchaa
open Go.RowKit

/-- From w to w' at most the blocks of S have turned, of those that were there. -/
structure Fr (S : List Nat) (w w' : World) : Prop where
  os : w'.os = w.os
  tape : w'.tape = w.tape
  output : w'.output = w.output
  size : w.heap.size ≤ w'.heap.size
  block : ∀ k, k < w.heap.size → k ∉ S → w'.heap[k]? = w.heap[k]?

theorem Fr.refl (S : List Nat) (w : World) : Fr S w w := ⟨rfl, rfl, rfl, Nat.le_refl _, fun _ _ _ => rfl⟩

theorem Fr.trans {S T : List Nat} {a b c : World} (h : Fr S a b) (k : Fr T b c) (hT : ∀ x, x ∈ T → x < a.heap.size → x ∈ S) : Fr S a c :=
  ⟨k.os.trans h.os, k.tape.trans h.tape, k.output.trans h.output, Nat.le_trans h.size k.size,
   fun i hi hn => (k.block i (Nat.lt_of_lt_of_le hi h.size) (fun hm => hn (hT i hm hi))).trans (h.block i hi hn)⟩

theorem Fr.trans' {S : List Nat} {a b c : World} (h : Fr S a b) (k : Fr [] b c) : Fr S a c := h.trans k (fun _ hm _ => by cases hm)

theorem Fr.wide {S T : List Nat} {a b : World} (h : Fr S a b) (hT : ∀ x, x ∈ S → x ∈ T) : Fr T a b :=
  ⟨h.os, h.tape, h.output, h.size, fun i hi hn => h.block i hi (fun hm => hn (hT i hm))⟩

theorem Fr.nil {S : List Nat} {a b : World} (h : Fr [] a b) : Fr S a b := h.wide (fun _ h => by cases h)

theorem Fr.of_below {w w' : World} (h : Below w.heap.size w w') : Fr [] w w' := ⟨h.os, h.tape, h.output, h.size, fun k hk _ => h.block k hk⟩
theorem Fr.below {w w' : World} (h : Fr [] w w') : Below w.heap.size w w' := ⟨h.os, h.tape, h.output, h.size, fun k hk => h.block k hk (by simp)⟩
theorem Fr.of_grown {S : List Nat} {w w' : World} {row : Option Nat} (h : w.grownBy w' row) (hr : ∀ k, row = some k → k < w.heap.size → k ∈ S) : Fr S w w' :=
  ⟨h.os, h.tape, h.output, h.size, fun k hk hn => h.block k hk (fun e => hn (hr k e.symm hk))⟩

theorem Fr.alloc {S : List Nat} {a w : World} (h : Fr S a w) (o : Obj) : Fr S a (w.alloc o) :=
  h.trans' (Fr.of_below ((Below.refl _ _).alloc (Nat.le_refl _) o))
theorem Fr.drew {S : List Nat} {a w : World} (h : Fr S a w) : Fr S a w.drew := ⟨h.os, h.tape, h.output, h.size, h.block⟩
theorem Fr.drewN {S : List Nat} {a w : World} (h : Fr S a w) (n : Nat) : Fr S a (w.drewN n) := ⟨h.os, h.tape, h.output, h.size, h.block⟩
theorem Fr.setCell {S : List Nat} {a w : World} (h : Fr S a w) {p : Addr} (hp : p.block < a.heap.size → p.block ∈ S) (u : Value) : Fr S a (w.setCell p u) :=
  ⟨h.os, h.tape, h.output, by simpa [World.setCell] using h.size,
   fun k hk hn => (Below.heap_setCell _ _ _ _ (fun e => hn (by rw [e]; exact hp (e ▸ hk)))).trans (h.block k hk hn)⟩

/-- A block of cells that may be written. -/
abbrev Blk (w : World) (b : Nat) (c : Array Value) (t : TypeId) : Prop := w.heap[b]? = some (.cells c t (0, 0))

theorem Blk.lt {w : World} {b : Nat} {c : Array Value} {t : TypeId} (h : Blk w b c t) : b < w.heap.size := (Array.getElem?_eq_some_iff.1 h).1
theorem Blk.cell {w : World} {b : Nat} {c : Array Value} {t : TypeId} (h : Blk w b c t) (i : Nat) : w.cell? ⟨b, i, none⟩ = c[i]? := by
  simp [World.cell?, h]
theorem Blk.free {w : World} {b : Nat} {c : Array Value} {t : TypeId} (h : Blk w b c t) (i : Nat) : w.frozen? ⟨b, i, none⟩ = false := by
  simp [World.frozen?, h]
theorem Blk.fr {w w' : World} {S : List Nat} {b : Nat} {c : Array Value} {t : TypeId} (h : Blk w b c t) (f : Fr S w w') (hn : b ∉ S) : Blk w' b c t :=
  (f.block b h.lt hn).trans h
theorem Blk.alloc {w : World} {b : Nat} {c : Array Value} {t : TypeId} (h : Blk w b c t) (o : Obj) : Blk (w.alloc o) b c t :=
  h.fr ((Fr.refl [] w).alloc o) (by simp)
theorem Blk.new (w : World) (c : Array Value) (t : TypeId) : Blk (w.alloc (.cells c t)) w.heap.size c t := heap_alloc_new w _
theorem Blk.set {w : World} {b : Nat} {c : Array Value} {t : TypeId} (h : Blk w b c t) (i : Nat) (v : Value) : Blk (w.setCell ⟨b, i, none⟩ v) b (c.setIfInBounds i v) t := by
  simp [Blk, World.setCell, Array.getElem?_modify, h]
theorem Blk.other {w : World} {b : Nat} {c : Array Value} {t : TypeId} (h : Blk w b c t) {p : Addr} (hp : b ≠ p.block) (v : Value) : Blk (w.setCell p v) b c t :=
  (Below.heap_setCell w p v b hp).trans h

theorem own_slice {w : World} {base n : Nat} {e : TypeId} {size : Nat} {v : Value} {xs : List Value} (h : w.ownsRow base e size v n xs) : ∃ A c, v = .slice A n c := by
  rcases h.2 with ⟨rfl, rfl⟩ | ⟨g, cap, cur, rfl, _⟩
  · exact ⟨none, 0, rfl⟩
  · exact ⟨_, cap, rfl⟩
theorem grown_of_fr {w w' : World} (h : Fr [] w w') (row : Option Nat := none) : w.grownBy w' row := ⟨h.os, h.tape, h.output, h.size, fun k hk _ => h.block k hk (by simp)⟩
theorem own_fr {w w' : World} {S : List Nat} {base n : Nat} {e : TypeId} {size : Nat} {v : Value} {xs : List Value} (h : w.ownsRow base e size v n xs) (f : Fr S w w') (hn : ∀ k, v.ownBlock = some k → k ∉ S) : w'.ownsRow base e size v n xs := by
  refine ⟨h.1, ?_⟩
  rcases h.2 with hl | ⟨g, cap, cur, rfl, hb, hg, rest⟩
  · exact .inl hl
  · exact .inr ⟨g, cap, cur, rfl, hb, (f.block g (Array.getElem?_eq_some_iff.1 hg).1 (hn g rfl)).trans hg, rest⟩


/-! ### readers -/
/-- What n cells say of an x, over blocks of p. -/
structure Rk (α : Type) where
  n : Nat
  by_ : Nat
  pos : 0 < n
  bpos : 0 < by_
  ok : (Nat → Prop) → World → List Value → α → Prop
  len : ∀ {p w cs x}, ok p w cs x → cs.length = n
  one : ∀ {p w cs x}, ok p w cs x → ∀ u ∈ cs, u.oneCell' = true
  fr : ∀ {p q : Nat → Prop} {w w' : World} {cs x}, (∀ k, p k → k < w.heap.size → q k ∧ w'.heap[k]? = w.heap[k]?) → ok p w cs x → ok q w' cs x

/-- A slice that reads as l. -/
def Sl {α : Type} (K : Rk α) (p : Nat → Prop) (w : World) (v : Value) (l : List α) : Prop :=
  ∃ A c, v = .slice A l.length c ∧ l.length ≤ c ∧ l.length * K.by_ ≤ 140737488351232 ∧
    ∀ j x, l[j]? = some x → ∃ g o cs, A = some ⟨g, o, none⟩ ∧ p g ∧ g < w.heap.size ∧ K.ok p w cs x ∧ ∀ i u, cs[i]? = some u → w.cell? ⟨g, o + j * K.n + i, none⟩ = some u

theorem cell_of_block {w w' : World} {g : Nat} (h : w'.heap[g]? = w.heap[g]?) (o : Nat) : w'.cell? ⟨g, o, none⟩ = w.cell? ⟨g, o, none⟩ := by simp [World.cell?, h]

theorem lt_of_block {w w' : World} {g : Nat} (h : w'.heap[g]? = w.heap[g]?) (hg : g < w.heap.size) : g < w'.heap.size := by
  rw [Array.getElem?_eq_getElem hg] at h
  exact (Array.getElem?_eq_some_iff.1 h).1

theorem Sl.fr {α : Type} {K : Rk α} {p q : Nat → Prop} {w w' : World} {v : Value} {l : List α} (hp : ∀ k, p k → k < w.heap.size → q k ∧ w'.heap[k]? = w.heap[k]?) (h : Sl K p w v l) : Sl K q w' v l := by
  obtain ⟨A, c, rfl, hc, hb, hr⟩ := h
  refine ⟨A, c, rfl, hc, hb, fun j x hj => ?_⟩
  obtain ⟨g, o, cs, hA, hg, hlt, hok, hcell⟩ := hr j x hj
  have := hp g hg hlt
  exact ⟨g, o, cs, hA, this.1, lt_of_block this.2 hlt, K.fr hp hok, fun i u hu => by rw [cell_of_block this.2]; exact hcell i u hu⟩
theorem Sl.one {α : Type} {K : Rk α} {p : Nat → Prop} {w : World} {v : Value} {l : List α} (h : Sl K p w v l) : v.oneCell' = true := by
  obtain ⟨A, c, rfl, _⟩ := h
  rfl
theorem Sl.form {α : Type} {K : Rk α} {p : Nat → Prop} {w : World} {v : Value} {l : List α} (h : Sl K p w v l) : ∃ A c, v = .slice A l.length c ∧ l.length ≤ c := by
  obtain ⟨A, c, rfl, hc, _⟩ := h
  exact ⟨A, c, rfl, hc⟩
theorem Sl.reach {α : Type} {K : Rk α} {p : Nat → Prop} {w : World} {v : Value} {l : List α} (h : Sl K p w v l) : l.length * K.by_ ≤ 140737488351232 := by
  obtain ⟨A, c, rfl, hc, hb, _⟩ := h
  exact hb
theorem Sl.len {α : Type} {K : Rk α} {p : Nat → Prop} {w : World} {v : Value} {l : List α} (h : Sl K p w v l) : l.length ≤ 140737488351232 :=
  Nat.le_trans (Nat.le_mul_of_pos_right _ K.bpos) h.reach
theorem Sl.nil {α : Type} (K : Rk α) (p : Nat → Prop) (w : World) : Sl K p w (.slice none 0 0) [] := ⟨none, 0, rfl, Nat.le_refl _, by simp, fun j x h => by simp at h⟩

def rInt : Rk Int where
  n := 1
  by_ := 8
  pos := by decide
  bpos := by decide
  ok := fun _ _ cs x => cs = [.int .i64 x]
  len := fun h => by rw [h]; rfl
  one := fun h u hu => by rw [h] at hu; rw [List.mem_singleton.1 hu]; rfl
  fr := fun _ h => h
def rBool : Rk Bool where
  n := 1
  by_ := 1
  pos := by decide
  bpos := by decide
  ok := fun _ _ cs x => cs = [.bool x]
  len := fun h => by rw [h]; rfl
  one := fun h u hu => by rw [h] at hu; rw [List.mem_singleton.1 hu]; rfl
  fr := fun _ h => h
def rStr : Rk ByteArray where
  n := 1
  by_ := 16
  pos := by decide
  bpos := by decide
  ok := fun _ _ cs x => cs = [.string x] ∧ x.size ≤ 140737488351232
  len := fun h => by rw [h.1]; rfl
  one := fun h u hu => by rw [h.1] at hu; rw [List.mem_singleton.1 hu]; rfl
  fr := fun _ h => h
def rSl {α : Type} (K : Rk α) : Rk (List α) where
  n := 1
  by_ := 24
  pos := by decide
  bpos := by decide
  ok := fun p w cs x => ∃ v, cs = [v] ∧ Sl K p w v x
  len := fun ⟨v, h, _⟩ => by rw [h]; rfl
  one := fun ⟨v, h, hs⟩ u hu => by rw [h] at hu; rw [List.mem_singleton.1 hu]; exact hs.one
  fr := fun hp ⟨v, h, hs⟩ => ⟨v, h, hs.fr hp⟩

/-- A one-cell element at its address. -/
theorem Sl.int_at {p : Nat → Prop} {w : World} {A : Option Addr} {n c : Nat} {l : List Int} (h : Sl rInt p w (.slice A n c) l) (j : Nat) (hj : j < l.length) : ∃ g o, A = some ⟨g, o, none⟩ ∧ p g ∧ g < w.heap.size ∧ w.cell? ⟨g, o + j, none⟩ = some (.int .i64 l[j]) := by
  obtain ⟨A', c', e, _, _, hr⟩ := h
  injection e with e1 e2 e3
  subst e1
  obtain ⟨g, o, cs, hA, hg, hlt, hok, hcell⟩ := hr j _ (List.getElem?_eq_getElem hj)
  have hk : cs = [.int .i64 l[j]] := hok
  subst hk
  exact ⟨g, o, hA, hg, hlt, by simpa [rInt] using hcell 0 _ rfl⟩
theorem Sl.bool_at {p : Nat → Prop} {w : World} {A : Option Addr} {n c : Nat} {l : List Bool} (h : Sl rBool p w (.slice A n c) l) (j : Nat) (hj : j < l.length) : ∃ g o, A = some ⟨g, o, none⟩ ∧ p g ∧ g < w.heap.size ∧ w.cell? ⟨g, o + j, none⟩ = some (.bool l[j]) := by
  obtain ⟨A', c', e, _, _, hr⟩ := h
  injection e with e1 e2 e3
  subst e1
  obtain ⟨g, o, cs, hA, hg, hlt, hok, hcell⟩ := hr j _ (List.getElem?_eq_getElem hj)
  have hk : cs = [.bool l[j]] := hok
  subst hk
  exact ⟨g, o, hA, hg, hlt, by simpa [rBool] using hcell 0 _ rfl⟩
theorem Sl.str_at {p : Nat → Prop} {w : World} {A : Option Addr} {n c : Nat} {l : List ByteArray} (h : Sl rStr p w (.slice A n c) l) (j : Nat) (hj : j < l.length) : ∃ g o, A = some ⟨g, o, none⟩ ∧ p g ∧ g < w.heap.size ∧ l[j].size ≤ 140737488351232 ∧ w.cell? ⟨g, o + j, none⟩ = some (.string l[j]) := by
  obtain ⟨A', c', e, _, _, hr⟩ := h
  injection e with e1 e2 e3
  subst e1
  obtain ⟨g, o, cs, hA, hg, hlt, ⟨hk, hz⟩, hcell⟩ := hr j _ (List.getElem?_eq_getElem hj)
  subst hk
  exact ⟨g, o, hA, hg, hlt, hz, by simpa [rStr] using hcell 0 _ rfl⟩
theorem Sl.sl_at {α : Type} {K : Rk α} {p : Nat → Prop} {w : World} {A : Option Addr} {n c : Nat} {l : List (List α)} (h : Sl (rSl K) p w (.slice A n c) l) (j : Nat) (hj : j < l.length) :
    ∃ g o B d, A = some ⟨g, o, none⟩ ∧ p g ∧ g < w.heap.size ∧ w.cell? ⟨g, o + j, none⟩ = some (.slice B l[j].length d) ∧ l[j].length ≤ d ∧ Sl K p w (.slice B l[j].length d) l[j] := by
  obtain ⟨A', c', e, _, _, hr⟩ := h
  injection e with e1 e2 e3
  subst e1
  obtain ⟨g, o, cs, hA, hg, hlt, ⟨v, rfl, hs⟩, hcell⟩ := hr j _ (List.getElem?_eq_getElem hj)
  obtain ⟨B, d, rfl, hd⟩ := hs.form
  exact ⟨g, o, B, d, hA, hg, hlt, by simpa [rSl] using hcell 0 _ rfl, hd, hs⟩

/-! ### what came in reads -/
section
variable {P : Program}
theorem weights_all {H : Type} {e : TypeId} {n : Nat} {d : DataW H} (hn : n ∈ d.weights P e) : ∀ {l : List (DataW H)}, d ∈ l → n ∈ DataW.weightsAll P e l
  | _ :: _, .head _ => by simp only [DataW.weightsAll, List.mem_append]; exact .inl hn
  | _ :: _, .tail _ h => by simp only [DataW.weightsAll, List.mem_append]; exact .inr (weights_all hn h)

/-- Whatever reads at type t says an x. -/
def Opens (P : Program) (t : TypeId) {α : Type} (K : Rk α) : Prop :=
  ∀ {H : Type} {enc : TypeId × Value → H} {w : World} {base : Nat} {sp : Nat → Bool} {held : Bool} {fuel : Nat} {cs : List Value} {d : DataW H} {ps : List MemPlace},
    DataW.trod enc P w base sp held fuel t cs = some (d, ps) → (∀ n ∈ d.weights P t, n ≤ 140737488351232) → ∃ x, K.ok (fun _ => True) w cs x

theorem opens_int {t : TypeId} (ht : P.underlying t = some (.int .i64)) : Opens P t rInt := by
  intro H enc w base sp held fuel cs d ps h _
  obtain ⟨n, rfl, _⟩ := DataW.trod_int ht h
  exact ⟨n, rfl⟩
theorem opens_bool {t : TypeId} (ht : P.underlying t = some .bool) : Opens P t rBool := by
  intro H enc w base sp held fuel cs d ps h _
  obtain ⟨n, rfl, _⟩ := DataW.trod_bool ht h
  exact ⟨n, rfl⟩
theorem opens_str {t : TypeId} (ht : P.underlying t = some .string) : Opens P t rStr := by
  intro H enc w base sp held fuel cs d ps h hw
  obtain ⟨s, rfl, hx, _⟩ := DataW.trod_string ht h
  simp only [Prod.mk.injEq] at hx
  obtain ⟨rfl, rfl⟩ := hx
  exact ⟨s, rfl, by simpa using hw s.data.toList.length (by simp [DataW.weights])⟩

theorem opens_sl {α : Type} {K : Rk α} {t e : TypeId} (ht : P.underlying t = some (.slice e)) (hn : P.cellsOf e = K.n) (hb : P.bytesOf e = K.by_) (he : Opens P e K) : Opens P t (rSl K) := by
  intro H enc w base sp held fuel cs d ps h hw
  rcases DataW.trod_slice ht h with ⟨rfl, _⟩ | ⟨a, len, cap, elems, rest, n, _, rfl, hx, _, hl, hm, hlen, hel, _, _⟩
  · exact ⟨[], _, rfl, Sl.nil K _ w⟩
  · simp only [Prod.mk.injEq] at hx
    obtain ⟨rfl, rfl⟩ := hx
    have hwt : (elems.length + rest.length) * P.bytesOf e ≤ 140737488351232 := hw _ (by simp [DataW.weights, ht])
    have each : ∀ i : Fin len, ∃ x cs, K.ok (fun _ => True) w cs x ∧ ∀ j u, cs[j]? = some u → w.cell? ((a.add (i.1 * K.n)).add j) = some u := by
      intro i
      have h1 := hel i.1 i.2
      rw [List.getElem?_eq_getElem (by omega), Option.bind_eq_some_iff] at h1
      obtain ⟨cs, hc, ht'⟩ := h1
      obtain ⟨x, hxo⟩ := he (d := elems[i.1].1) (ps := elems[i.1].2) ht' (fun n hn => hw n (by
        simp only [DataW.weights, ht, List.mem_cons, List.mem_append]
        exact .inr (.inl (weights_all hn (by simp only [List.mem_map]; exact ⟨_, List.getElem_mem _, rfl⟩)))))
      refine ⟨x, cs, hxo, fun j u hu => ?_⟩
      have hj : j < P.cellsOf e := by
        have := (List.getElem?_eq_some_iff.1 hu).1
        have := K.len hxo
        omega
      have := (World.cells?_some hc).2.2 j hj
      rw [hn] at this
      rw [this, hu]
    obtain ⟨f, hf⟩ := Classical.axiomOfChoice each
    refine ⟨List.ofFn f, _, rfl, some a, cap, by simp, by simpa using hl, ?_, fun j x hj => ?_⟩
    · rw [List.length_ofFn, ← hb]
      refine Nat.le_trans (Nat.mul_le_mul_right _ ?_) hwt
      omega
    · have hjl : j < len := by have := (List.getElem?_eq_some_iff.1 hj).1; simpa using this
      obtain ⟨cs, hok, hcell⟩ := hf ⟨j, hjl⟩
      have hxx : x = f ⟨j, hjl⟩ := by
        rw [List.getElem?_eq_getElem (by simpa using hjl)] at hj
        simpa using hj.symm
      subst hxx
      obtain ⟨g, o, s⟩ := a
      have hs : s = none := by
        obtain ⟨cs0, hok0, hcell0⟩ := hf ⟨0, by omega⟩
        have hp : 0 < cs0.length := by rw [K.len hok0]; exact K.pos
        have h0 := hcell0 0 _ (List.getElem?_eq_getElem hp)
        cases s with
        | none => rfl
        | some y => simp [Addr.add, World.cell?] at h0; split at h0 <;> simp at h0
      subst hs
      have hadd : ∀ (o i : Nat), (⟨g, o, none⟩ : Addr).add i = ⟨g, o + i, none⟩ := fun o i => by
        unfold Addr.add
        split <;> simp_all
      refine ⟨g, o, cs, rfl, trivial, ?_, hok, fun i u hu => by have := hcell i u hu; rwa [hadd, hadd] at this⟩
      have hp : 0 < cs.length := by rw [K.len hok]; exact K.pos
      have h0 := hcell 0 _ (List.getElem?_eq_getElem hp)
      rw [hadd] at h0
      exact World.block_lt_of_cell? w _ h0
end
end Go.Proofs.Ytekfbafljilchaa
