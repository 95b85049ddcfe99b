/- A row of one's own whose elements are made new one by one. -/
import Derived.Test.YtekfbafljilchaaA4
set_option linter.unusedVariables false
set_option linter.unusedSimpArgs false
namespace Go.Proofs.Ytekfbafljilchaa
open Go.RowKit Go.Lib

/-- The first k elements are wholly new, the others as they came. -/
def Half {α : Type} (K : Rk α) (B : Nat) (T : List Nat) (w : World) (k : Nat) (css : List (List Value)) (l : List α) : Prop :=
  ∀ (j : Nat) (cs : List Value) (x : α), css[j]? = some cs → l[j]? = some x → (j < k → K.ok (NT B T w) w cs x) ∧ (k ≤ j → K.ok (fun k => k < B) w cs x)

theorem Half.start {α : Type} {K : Rk α} {B : Nat} {T : List Nat} {w w' : World} {css : List (List Value)} {l : List α} {p : Nat → Prop} (h : Rows_ K p w css l) (f : ∀ k, p k → k < w.heap.size → k < B ∧ w'.heap[k]? = w.heap[k]?) : Half K B T w' 0 css l :=
  fun j cs x h1 h2 => ⟨fun h => absurd h (Nat.not_lt_zero _), fun _ => K.fr f (h.2 j cs x h1 h2)⟩
theorem Half.step {α : Type} {K : Rk α} {B g : Nat} {T : List Nat} {w w' : World} {k : Nat} {css : List (List Value)} {l : List α} {el : List Value} {x : α} (h : Half K B T w k css l) (f : Fr [g] w w') (hg : B ≤ g) (hn : ¬ NT B T w g) (hB : B ≤ w.heap.size)
    (hk : k < css.length) (hx : l[k]? = some x) (ok : K.ok (NT B T w') w' el x) : Half K B T w' (k + 1) (css.set k el) l := by
  intro j cs y h1 h2
  rw [List.getElem?_set] at h1
  by_cases e : k = j
  · subst e
    rw [if_pos rfl, if_pos hk] at h1
    obtain rfl := Option.some.inj h1
    obtain rfl := Option.some.inj (hx.symm.trans h2)
    exact ⟨fun _ => ok, fun h => absurd h (by omega)⟩
  · rw [if_neg e] at h1
    obtain ⟨ha, hb⟩ := h j cs y h1 h2
    refine ⟨fun hj => K.fr (NT.fr f (fun x hx => ?_)) (ha (by omega)), fun hj => K.fr (fun k hk hlt => ⟨hk, f.block k hlt ?_⟩) (hb (by omega))⟩
    · obtain rfl := List.mem_singleton.1 hx
      exact hn
    · intro hm
      have : k = g := List.mem_singleton.1 hm
      omega
theorem Half.fr {α : Type} {K : Rk α} {B : Nat} {T S : List Nat} {w w' : World} {k : Nat} {css : List (List Value)} {l : List α} (h : Half K B T w k css l) (f : Fr S w w') (hS : ∀ x, x ∈ S → B ≤ x ∧ ¬ NT B T w x) : Half K B T w' k css l := fun j cs x h1 h2 =>
  ⟨fun hj => K.fr (NT.fr f (fun x hx => (hS x hx).2)) ((h j cs x h1 h2).1 hj), fun hj => K.fr (fun k hk hlt => ⟨hk, f.block k hlt (fun hm => by have := (hS k hm).1; omega)⟩) ((h j cs x h1 h2).2 hj)⟩
theorem Half.done {α : Type} {K : Rk α} {t B B2 : Nat} {T : List Nat} {w : World} {v : Value} {css : List (List Value)} {l : List α} (h : Half K B T w l.length css l) (ho : OwnE t K.n w B2 v l.length css) (hB : B ≤ B2) (hr : l.length * K.by_ ≤ 140737488351232) : Sl K (NT B (t :: T) w) w v l :=
  sl_of_own ho.1 ⟨ho.2.1, fun j cs x h1 h2 => K.fr (NT.wide (Nat.le_refl _) (fun _ h => List.mem_cons_of_mem _ h)) ((h j cs x h1 h2).1 (List.getElem?_eq_some_iff.1 h2).1)⟩ hr (NT.own ho.1 hB (List.mem_cons_self ..))
theorem RowAt.ownE {t sz : Nat} {w : World} {B g cap n : Nat} {css : List (List Value)} (h : RowAt t sz w B g cap n css) : OwnE t sz w B (.slice (some ⟨g, 0, none⟩) n cap) n css := h
/-- A chart's rows, wherever they lie. -/
structure Rows8 (p : Nat → Prop) (w : World) (c : DChart) (vS vT vB vD vI : Value) : Prop where
  s : Sl rState p w vS c.states
  t : Sl rTrans p w vT c.trans
  b : Sl rBlock p w vB c.blocks
  d : Sl rDatum p w vD c.data
  i : Sl rInvoke p w vI c.invokes
theorem Rows8.fr {p q : Nat → Prop} {w w' : World} {c : DChart} {vS vT vB vD vI : Value} (h : Rows8 p w c vS vT vB vD vI) (hp : ∀ k, p k → k < w.heap.size → q k ∧ w'.heap[k]? = w.heap[k]?) : Rows8 q w' c vS vT vB vD vI :=
  ⟨h.s.fr hp, h.t.fr hp, h.b.fr hp, h.d.fr hp, h.i.fr hp⟩
def chartV (c : DChart) (vS vT vB vD vI : Value) : Value := .agg #[.string c.name, .bool c.late, .int .i64 c.script, vS, vT, vB, vD, vI]
/-- A slice that came in is cloned: a new row, its elements as they came. -/
theorem ClonePost.start {α : Type} {K : Rk α} {t B : Nat} {T : List Nat} {w : World} {l : List α} {e : Ending} {w' : World} (h : ClonePost K t (fun k => k < B) w l e w') (hB : B ≤ w.heap.size) :
    ∃ A c css, e = .returned (.slice A l.length c) ∧ Fr [] w w' ∧ OwnE t K.n w' w.heap.size (.slice A l.length c) l.length css ∧ Half K B T w' 0 css l := by
  obtain ⟨v', css, rfl, f, ho, hR⟩ := h
  have hl := hR.lens
  obtain ⟨A, c, rfl⟩ := own_slice ho
  exact ⟨A, c, css, rfl, f, ⟨ho, hR.1, hl⟩, Half.start hR (fun k hk hlt => ⟨hk, f.block k hlt (by simp)⟩)⟩
end Go.Proofs.Ytekfbafljilchaa
