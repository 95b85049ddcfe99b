/- Rows of one's own, element by element; a clone whose source lay in an elder world. -/
import Derived.Test.YtekfbafljilchaaA3
set_option linter.unusedVariables false
set_option linter.unusedSimpArgs false
namespace Go.Proofs.Ytekfbafljilchaa
open Go.RowKit Go.Lib

/-- A row of one's own at block g: n elements of sz cells. -/
def RowAt (t sz : Nat) (w : World) (B g cap n : Nat) (css : List (List Value)) : Prop :=
  w.ownsRow B t sz (.slice (some ⟨g, 0, none⟩) n cap) n css.flatten ∧ css.length = n ∧ ∀ cs ∈ css, cs.length = sz

theorem RowAt.blk {t sz : Nat} {w : World} {B g cap n : Nat} {css : List (List Value)} (h : RowAt t sz w B g cap n css) : B ≤ g ∧ ∃ cur, Blk w g cur t ∧ cur.size = cap * sz ∧ n ≤ cap := by
  rcases h.1.2 with ⟨h0, _⟩ | ⟨g', cap', cur, e, hb, hg, hc, _, hs, _⟩
  · cases h0
  · injection e with e1 e2 e3
    injection e1 with e1
    injection e1 with e1
    subst e1 e3
    exact ⟨hb, cur, hg, hs, hc⟩
theorem RowAt.lt {t sz : Nat} {w : World} {B g cap n : Nat} {css : List (List Value)} (h : RowAt t sz w B g cap n css) : g < w.heap.size := by
  obtain ⟨_, cur, hb, _⟩ := h.blk
  exact hb.lt
theorem RowAt.fr {t sz : Nat} {w w' : World} {B g cap n : Nat} {css : List (List Value)} {S : List Nat} (h : RowAt t sz w B g cap n css) (f : Fr S w w') (hn : g ∉ S) : RowAt t sz w' B g cap n css :=
  ⟨own_fr h.1 f (fun k hk => by simp [Value.ownBlock] at hk; subst hk; exact hn), h.2⟩
theorem RowAt.cell {t sz : Nat} {w : World} {B g cap n : Nat} {css : List (List Value)} (h : RowAt t sz w B g cap n css) {k i : Nat} {cs : List Value} {u : Value} (hk : css[k]? = some cs) (hi : cs[i]? = some u) : w.cell? ⟨g, k * sz + i, none⟩ = some u := by
  have hcs : cs.length = sz := h.2.2 cs (List.mem_of_getElem? hk)
  have hl : i < sz := by have := (List.getElem?_eq_some_iff.1 hi).1; omega
  have := h.1.cells (g := g) rfl (k * sz + i) u (by rw [flat_get h.2.2 _ _ hl, hk]; exact hi)
  have e : (⟨g, 0, none⟩ : Addr).add (k * sz + i) = ⟨g, k * sz + i, none⟩ := by
    unfold Addr.add
    split
    · rename_i h0; rw [h0]
    · simp
  rwa [e] at this
theorem RowAt.free {t sz : Nat} {w : World} {B g cap n : Nat} {css : List (List Value)} (h : RowAt t sz w B g cap n css) (i : Nat) : w.frozen? ⟨g, i, none⟩ = false := by
  obtain ⟨_, cur, hb, _⟩ := h.blk
  exact hb.free i
theorem RowAt.set {t sz : Nat} {w : World} {B g cap n : Nat} {css : List (List Value)} (h : RowAt t sz w B g cap n css) {k i : Nat} (hi : i < sz) (v : Value) : RowAt t sz (w.setCell ⟨g, k * sz + i, none⟩ v) B g cap n (css.modify k (fun cs => cs.set i v)) := by
  have h1 := (h.1.stored (k * sz + i) v).1
  rw [flat_set h.2.2 _ _ _ hi] at h1
  refine ⟨h1, by rw [List.length_modify]; exact h.2.1, fun cs hc => ?_⟩
  obtain ⟨j, hj, rfl⟩ := List.getElem_of_mem hc
  rw [List.getElem_modify]
  split
  · rw [List.length_set]
    exact h.2.2 _ (List.getElem_mem _)
  · exact h.2.2 _ (List.getElem_mem _)
theorem RowAt.of_own {t sz : Nat} {w : World} {B n : Nat} {v : Value} {css : List (List Value)} (h : w.ownsRow B t sz v n css.flatten) (hl : css.length = n) (hs : ∀ cs ∈ css, cs.length = sz) (hn : 0 < n) : ∃ g cap, v = .slice (some ⟨g, 0, none⟩) n cap ∧ RowAt t sz w B g cap n css := by
  rcases h.2 with ⟨_, h0⟩ | ⟨g, cap, cur, rfl, _⟩
  · omega
  · exact ⟨g, cap, rfl, h, hl, hs⟩

theorem modify_eq_set {α : Type} (l : List α) (k : Nat) (f : α → α) (x : α) (h : l[k]? = some x) : l.modify k f = l.set k (f x) := by
  apply List.ext_getElem?
  intro i
  rw [List.getElem?_modify, List.getElem?_set]
  by_cases e : k = i
  · subst e
    have hl : k < l.length := (List.getElem?_eq_some_iff.1 h).1
    have hx : l[k] = x := (List.getElem?_eq_some_iff.1 h).2
    simp [hl, hx]
  · simp [e]
theorem RowAt.put {t sz : Nat} {w : World} {B g cap n : Nat} {css : List (List Value)} {k i : Nat} {cs : List Value} (h : RowAt t sz w B g cap n css) (hk : css[k]? = some cs) (hi : i < sz) (v : Value) : RowAt t sz (w.setCell ⟨g, k * sz + i, none⟩ v) B g cap n (css.set k (cs.set i v)) := by
  have := h.set (k := k) hi v
  rwa [modify_eq_set _ _ _ _ hk] at this
theorem get_set_self {α : Type} {l : List α} {k : Nat} {x : α} (h : l[k]? = some x) (y : α) : (l.set k y)[k]? = some y := by
  have hl : k < l.length := (List.getElem?_eq_some_iff.1 h).1
  simp [hl]
theorem RowAt.put2 {t sz : Nat} {w : World} {B g cap n : Nat} {css : List (List Value)} {k i j : Nat} {cs : List Value} (h : RowAt t sz w B g cap n css) (hk : css[k]? = some cs) (hi : i < sz) (hj : j < sz) (u v : Value) :
    RowAt t sz ((w.setCell ⟨g, k * sz + i, none⟩ u).setCell ⟨g, k * sz + j, none⟩ v) B g cap n (css.set k ((cs.set i u).set j v)) := by
  have := (h.put hk hi u).put (get_set_self hk _) hj v
  rwa [List.set_set] at this
theorem RowAt.put3 {t sz : Nat} {w : World} {B g cap n : Nat} {css : List (List Value)} {k i j m : Nat} {cs : List Value} (h : RowAt t sz w B g cap n css) (hk : css[k]? = some cs) (hi : i < sz) (hj : j < sz) (hm : m < sz) (u v x : Value) :
    RowAt t sz (((w.setCell ⟨g, k * sz + i, none⟩ u).setCell ⟨g, k * sz + j, none⟩ v).setCell ⟨g, k * sz + m, none⟩ x) B g cap n (css.set k (((cs.set i u).set j v).set m x)) := by
  have := (h.put2 hk hi hj u v).put (get_set_self hk _) hm x
  rwa [List.set_set] at this
theorem RowAt.not {t sz : Nat} {w : World} {B g cap n B' : Nat} {T : List Nat} {css : List (List Value)} (h : RowAt t sz w B g cap n css) (ht : t ∉ T) : ¬ NT B' T w g := by
  obtain ⟨_, cur, hb, _⟩ := h.blk
  exact NT.not hb ht
/-- What was made stays, whatever turns in blocks of other types. -/
theorem Sl.stay {α : Type} {K : Rk α} {B B' : Nat} {T S : List Nat} {w w' : World} {v : Value} {l : List α} (h : Sl K (NT B T w) w v l) (f : Fr S w w') (hB : B' ≤ B) (hS : ∀ k, k ∈ S → ¬ NT B T w k) : Sl K (NT B' T w') w' v l :=
  (h.fr (NT.fr f hS)).fr (NT.wide hB (fun _ h => h))
theorem fr_sets {g : Nat} {w : World} (o : Nat) (v : Value) : Fr [g] w (w.setCell ⟨g, o, none⟩ v) := (Fr.refl _ _).setCell (by simp) _

/-- A row of one's own, nil let in. -/
def OwnE (t sz : Nat) (w : World) (B : Nat) (v : Value) (n : Nat) (css : List (List Value)) : Prop :=
  w.ownsRow B t sz v n css.flatten ∧ css.length = n ∧ ∀ cs ∈ css, cs.length = sz
theorem OwnE.at_ {t sz : Nat} {w : World} {B n : Nat} {v : Value} {css : List (List Value)} (h : OwnE t sz w B v n css) (hn : 0 < n) : ∃ g cap, v = .slice (some ⟨g, 0, none⟩) n cap ∧ RowAt t sz w B g cap n css := RowAt.of_own h.1 h.2.1 h.2.2 hn
theorem OwnE.fr {t sz : Nat} {w w' : World} {B n : Nat} {v : Value} {css : List (List Value)} {S : List Nat} (h : OwnE t sz w B v n css) (f : Fr S w w') (hn : ∀ k, v.ownBlock = some k → k ∉ S) : OwnE t sz w' B v n css := ⟨own_fr h.1 f hn, h.2⟩
theorem OwnE.lt {t sz : Nat} {w : World} {B n : Nat} {v : Value} {css : List (List Value)} (h : OwnE t sz w B v n css) : ∀ k, v.ownBlock = some k → B ≤ k ∧ k < w.heap.size := h.1.lt
theorem OwnE.blk {t sz : Nat} {w : World} {B n : Nat} {v : Value} {css : List (List Value)} (h : OwnE t sz w B v n css) : ∀ k, v.ownBlock = some k → B ≤ k ∧ ∃ c, Blk w k c t := fun k hk => by
  rcases h.1.2 with ⟨rfl, _⟩ | ⟨g, cap, cur, rfl, hb, hg, _⟩
  · simp [Value.ownBlock] at hk
  · simp [Value.ownBlock] at hk
    subst hk
    exact ⟨hb, cur, hg⟩

/-- A clone, told over an elder world w0: what is new lies behind w0. -/
def FromPost {α : Type} (K : Rk α) (t : Nat) (w0 w : World) (l : List α) (e : Ending) (w' : World) : Prop :=
  ∃ A c, e = .returned (.slice A l.length c) ∧ Fr [] w w' ∧ Sl K (NT w0.heap.size [t] w') w' (.slice A l.length c) l

theorem int_from (w0 w : World) (p : Nat → Prop) (v : Value) (l : List Int) (f : Fr [] w0 w) (h : Sl rInt p w0 v l) : Calls Try.prog 82 #[v] w (FromPost rInt 3 w0 w l) := by
  refine (clone_int w (fun _ => True) v l (h.fr (fun k _ hk => ⟨trivial, f.block k hk (by simp)⟩))).mono ?_
  rintro e w' ⟨v', css, rfl, f1, ho, hR⟩
  have hs : Sl rInt (NT w0.heap.size [3] w') w' v' l := sl_of_own ho hR h.reach (NT.own ho f.size (by simp))
  obtain ⟨A, c, rfl⟩ := own_slice ho
  exact ⟨A, c, rfl, f1, hs⟩
theorem str_from (w0 w : World) (p : Nat → Prop) (v : Value) (l : List ByteArray) (f : Fr [] w0 w) (h : Sl rStr p w0 v l) : Calls Try.prog 86 #[v] w (FromPost rStr 9 w0 w l) := by
  refine (clone_str w (fun _ => True) v l (h.fr (fun k _ hk => ⟨trivial, f.block k hk (by simp)⟩))).mono ?_
  rintro e w' ⟨v', css, rfl, f1, ho, hR⟩
  have hs : Sl rStr (NT w0.heap.size [9] w') w' v' l := sl_of_own ho hR h.reach (NT.own ho f.size (by simp))
  obtain ⟨A, c, rfl⟩ := own_slice ho
  exact ⟨A, c, rfl, f1, hs⟩
def LoadFrom (w0 w : World) (k : Int) (l : List DPar) (b : ByteArray) (e : Ending) (w' : World) : Prop :=
  ∃ A c, e = .returned (.agg #[.int .i64 k, .slice A l.length c, .string b]) ∧ Fr [] w w' ∧ Sl rPar (NT w0.heap.size [130] w') w' (.slice A l.length c) l
theorem load_from (w0 w : World) (p : Nat → Prop) (k : Int) (v : Value) (l : List DPar) (b : ByteArray) (f : Fr [] w0 w) (h : Sl rPar p w0 v l) : Calls Try.prog 84 #[.agg #[.int .i64 k, v, .string b]] w (LoadFrom w0 w k l b) := by
  refine (cloneLoad_any w (fun _ => True) k v l b (h.fr (fun k _ hk => ⟨trivial, f.block k hk (by simp)⟩))).mono ?_
  rintro e w' ⟨A, c, rfl, f1, hs⟩
  exact ⟨A, c, rfl, f1, hs.fr (NT.wide f.size (fun _ h => h))⟩
end Go.Proofs.Ytekfbafljilchaa
