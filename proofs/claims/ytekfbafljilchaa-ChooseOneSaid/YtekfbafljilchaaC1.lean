/- A row of one's own whose elements are made new one by one. -/
import Derived.Test.YtekfbafljilchaaA4
import Derived.Test.YtekfbafljilchaaA5
import Derived.Test.YtekfbafljilchaaA6
import Derived.Test.YtekfbafljilchaaA7
import Derived.Test.YtekfbafljilchaaA8
import Derived.Test.YtekfbafljilchaaA9
set_option linter.unusedVariables false
set_option linter.unusedSimpArgs false
namespace Go.Proofs.Ytekfbafljilchaa
open Go.RowKit Go.Lib

/-- The first k elements are wholly new, the others as they came. -/
def Half {α : Type} (K : Rk α) (B : Nat) (T : List Nat) (w : World) (k : Nat) (css : List (List Value)) (l : List α) : Prop :=
  ∀ (j : Nat) (cs : List Value) (x : α), css[j]? = some cs → l[j]? = some x → (j < k → K.ok (NT B T w) w cs x) ∧ (k ≤ j → K.ok (fun k => k < B) w cs x)

theorem Half.start {α : Type} {K : Rk α} {B : Nat} {T : List Nat} {w w' : World} {css : List (List Value)} {l : List α} {p : Nat → Prop} (h : Rows_ K p w css l) (f : ∀ k, p k → k < w.heap.size → k < B ∧ w'.heap[k]? = w.heap[k]?) : Half K B T w' 0 css l :=
  fun j cs x h1 h2 => ⟨fun h => absurd h (Nat.not_lt_zero _), fun _ => K.fr f (h.2 j cs x h1 h2)⟩
theorem Half.step {α : Type} {K : Rk α} {B g : Nat} {T : List Nat} {w w' : World} {k : Nat} {css : List (List Value)} {l : List α} {el : List Value} {x : α} (h : Half K B T w k css l) (f : Fr [g] w w') (hg : B ≤ g) (hn : ¬ NT B T w g) (hB : B ≤ w.heap.size)
    (hk : k < css.length) (hx : l[k]? = some x) (ok : K.ok (NT B T w') w' el x) : Half K B T w' (k + 1) (css.set k el) l := by
  intro j cs y h1 h2
  rw [List.getElem?_set] at h1
  by_cases e : k = j
  · subst e
    rw [if_pos rfl, if_pos hk] at h1
    obtain rfl := Option.some.inj h1
    obtain rfl := Option.some.inj (hx.symm.trans h2)
    exact ⟨fun _ => ok, fun h => absurd h (by omega)⟩
  · rw [if_neg e] at h1
    obtain ⟨ha, hb⟩ := h j cs y h1 h2
    refine ⟨fun hj => K.fr (NT.fr f (fun x hx => ?_)) (ha (by omega)), fun hj => K.fr (fun k hk hlt => ⟨hk, f.block k hlt ?_⟩) (hb (by omega))⟩
    · obtain rfl := List.mem_singleton.1 hx
      exact hn
    · intro hm
      have : k = g := List.mem_singleton.1 hm
      omega
theorem Half.fr {α : Type} {K : Rk α} {B : Nat} {T S : List Nat} {w w' : World} {k : Nat} {css : List (List Value)} {l : List α} (h : Half K B T w k css l) (f : Fr S w w') (hS : ∀ x, x ∈ S → B ≤ x ∧ ¬ NT B T w x) : Half K B T w' k css l := fun j cs x h1 h2 =>
  ⟨fun hj => K.fr (NT.fr f (fun x hx => (hS x hx).2)) ((h j cs x h1 h2).1 hj), fun hj => K.fr (fun k hk hlt => ⟨hk, f.block k hlt (fun hm => by have := (hS k hm).1; omega)⟩) ((h j cs x h1 h2).2 hj)⟩
theorem Half.done {α : Type} {K : Rk α} {t B B2 : Nat} {T : List Nat} {w : World} {v : Value} {css : List (List Value)} {l : List α} (h : Half K B T w l.length css l) (ho : OwnE t K.n w B2 v l.length css) (hB : B ≤ B2) (hr : l.length * K.by_ ≤ 140737488351232) : Sl K (NT B (t :: T) w) w v l :=
  sl_of_own ho.1 ⟨ho.2.1, fun j cs x h1 h2 => K.fr (NT.wide (Nat.le_refl _) (fun _ h => List.mem_cons_of_mem _ h)) ((h j cs x h1 h2).1 (List.getElem?_eq_some_iff.1 h2).1)⟩ hr (NT.own ho.1 hB (List.mem_cons_self ..))
theorem RowAt.ownE {t sz : Nat} {w : World} {B g cap n : Nat} {css : List (List Value)} (h : RowAt t sz w B g cap n css) : OwnE t sz w B (.slice (some ⟨g, 0, none⟩) n cap) n css := h
/-- A chart's rows, wherever they lie. -/
structure Rows8 (p : Nat → Prop) (w : World) (c : DChart) (vS vT vB vD vI : Value) : Prop where
  s : Sl rState p w vS c.states
  t : Sl rTrans p w vT c.trans
  b : Sl rBlock p w vB c.blocks
  d : Sl rDatum p w vD c.data
  i : Sl rInvoke p w vI c.invokes
theorem Rows8.fr {p q : Nat → Prop} {w w' : World} {c : DChart} {vS vT vB vD vI : Value} (h : Rows8 p w c vS vT vB vD vI) (hp : ∀ k, p k → k < w.heap.size → q k ∧ w'.heap[k]? = w.heap[k]?) : Rows8 q w' c vS vT vB vD vI :=
  ⟨h.s.fr hp, h.t.fr hp, h.b.fr hp, h.d.fr hp, h.i.fr hp⟩
def chartV (c : DChart) (vS vT vB vD vI : Value) : Value := .agg #[.string c.name, .bool c.late, .int .i64 c.script, vS, vT, vB, vD, vI]
/-- A slice that came in is cloned: a new row, its elements as they came. -/
theorem ClonePost.start {α : Type} {K : Rk α} {t B : Nat} {T : List Nat} {w : World} {l : List α} {e : Ending} {w' : World} (h : ClonePost K t (fun k => k < B) w l e w') (hB : B ≤ w.heap.size) :
    ∃ A c css, e = .returned (.slice A l.length c) ∧ Fr [] w w' ∧ OwnE t K.n w' w.heap.size (.slice A l.length c) l.length css ∧ Half K B T w' 0 css l := by
  obtain ⟨v', css, rfl, f, ho, hR⟩ := h
  have hl := hR.lens
  obtain ⟨A, c, rfl⟩ := own_slice ho
  exact ⟨A, c, css, rfl, f, ⟨ho, hR.1, hl⟩, Half.start hR (fun k hk hlt => ⟨hk, f.block k hlt (by simp)⟩)⟩
end Go.Proofs.Ytekfbafljilchaa

/- lattice.Clone. -/
set_option linter.unusedVariables false
set_option linter.unusedSimpArgs false
namespace Go.Proofs.Ytekfbafljilchaa
open Go.RowKit Go.Lib

def zChart : Array Value := #[.string ⟨#[]⟩, .bool false, .int .i64 0, .slice none 0 0, .slice none 0 0, .slice none 0 0, .slice none 0 0, .slice none 0 0]
/-- What Clone comes to. -/
def CloneDone (W : World) (c : DChart) (e : Ending) (w' : World) : Prop :=
  ∃ vS vT vB vD vI, e = .returned (chartV c vS vT vB vD vI) ∧ Fr [] W w' ∧ Sl rState (NT W.heap.size [50, 3, 130] w') w' vS c.states ∧ Sl rTrans (NT W.heap.size [45, 9, 3] w') w' vT c.trans ∧
    Sl rBlock (NT W.heap.size [110, 113, 9, 3, 130] w') w' vB c.blocks ∧ Sl rDatum (NT W.heap.size [115] w') w' vD c.data ∧ Sl rInvoke (NT W.heap.size [118, 130] w') w' vI c.invokes

/-- The boxes: the chart under way, and the result. -/
def Boxes (W w : World) (c : DChart) (vS vT vB vD vI : Value) : Prop :=
  Fr [] W w ∧ Blk w W.heap.size #[.string c.name, .bool c.late, .int .i64 c.script, vS, vT, vB, vD, vI] 28 ∧ Blk w (W.heap.size + 1) zChart 28
theorem Boxes.fr {W w w' : World} {c : DChart} {vS vT vB vD vI : Value} {S : List Nat} (h : Boxes W w c vS vT vB vD vI) (f : Fr S w w') (hS : ∀ x, x ∈ S → W.heap.size + 2 ≤ x) : Boxes W w' c vS vT vB vD vI :=
  ⟨h.1.trans f (fun x hx hlt => by have := hS x hx; omega), h.2.1.fr f (fun hm => by have := hS _ hm; omega), h.2.2.fr f (fun hm => by have := hS _ hm; omega)⟩
theorem Boxes.put {W w : World} {c : DChart} {vS vT vB vD vI : Value} {i : Nat} (v : Value) (h : Boxes W w c vS vT vB vD vI) (f : Fr [W.heap.size] w (w.setCell ⟨W.heap.size, i, none⟩ v)) :
    Fr [] W (w.setCell ⟨W.heap.size, i, none⟩ v) ∧ Blk (w.setCell ⟨W.heap.size, i, none⟩ v) W.heap.size (#[.string c.name, .bool c.late, .int .i64 c.script, vS, vT, vB, vD, vI].setIfInBounds i v) 28 ∧ Blk (w.setCell ⟨W.heap.size, i, none⟩ v) (W.heap.size + 1) zChart 28 :=
  ⟨h.1.trans f (fun x hx hlt => by simp at hx; omega), h.2.1.set i v, h.2.2.fr f (by simp)⟩
theorem OwnE.low {t sz : Nat} {w : World} {B B' n : Nat} {v : Value} {css : List (List Value)} (h : OwnE t sz w B v n css) (hB : B' ≤ B) : OwnE t sz w B' v n css :=
  ⟨⟨h.1.1, h.1.2.elim .inl (fun ⟨g, cap, cur, hv, hg, r⟩ => .inr ⟨g, cap, cur, hv, Nat.le_trans hB hg, r⟩)⟩, h.2⟩
theorem Rows_.any {K : Rk DDatum} {p q : Nat → Prop} {w w' : World} {css : List (List Value)} {l : List DDatum} (h : Rows_ K p w css l) (hK : K = rDatum := by rfl) : Rows_ K q w' css l := by
  subst hK
  exact ⟨h.1, fun j cs x h1 h2 => h.2 j cs x h1 h2⟩
theorem RowAt.keep {α : Type} {K : Rk α} {t sz B B2 g cap n : Nat} {T : List Nat} {w w' : World} {v : Value} {l : List α} {css : List (List Value)} (h : Sl K (NT B T w) w v l) (r : RowAt t sz w B2 g cap n css) (f : Fr [g] w w') (ht : t ∉ T) : Sl K (NT B T w') w' v l :=
  h.stay f (Nat.le_refl _) (fun x hx => by obtain rfl := List.mem_singleton.1 hx; exact r.not ht)

/-- What came in reads on. -/
theorem Sl.old {α : Type} {K : Rk α} {B g : Nat} {w w' : World} {v : Value} {l : List α} (h : Sl K (fun k => k < B) w v l) (f : Fr [g] w w') (hg : B ≤ g) : Sl K (fun k => k < B) w' v l :=
  h.fr (fun k hk hlt => ⟨hk, f.block k hlt (by simp; omega)⟩)
theorem set_set_of {α : Type} {l : List α} {k : Nat} (x y : α) : (l.set k x).set k y = l.set k y := List.set_set ..

set_option maxRecDepth 100000 in
set_option maxHeartbeats 16000000 in
theorem clone_any (W : World) (c : DChart) (vS vT vB vD vI : Value) (h : Rows8 (fun k => k < W.heap.size) W c vS vT vB vD vI) :
    Calls Try.prog 45 #[chartV c vS vT vB vD vI] W (CloneDone W c) := by
  obtain ⟨hS, hT, hB, hD, hI⟩ := h
  obtain ⟨AS, cS, rfl, _⟩ := hS.form
  obtain ⟨AT, cT, rfl, _⟩ := hT.form
  obtain ⟨AB, cB, rfl, _⟩ := hB.form
  obtain ⟨AD, cD, rfl, _⟩ := hD.form
  obtain ⟨AI, cI, rfl, _⟩ := hI.form
  have lS := hS.len
  have lT := hT.len
  have lB := hB.len
  have lI := hI.len
  have HS := Lib.hid hS
  have HT := Lib.hid hT
  have HB := Lib.hid hB
  have HD := Lib.hid hD
  have HI := Lib.hid hI
  have hbx : Boxes W ((W.alloc (.cells #[.string c.name, .bool c.late, .int .i64 c.script, .slice AS c.states.length cS, .slice AT c.trans.length cT, .slice AB c.blocks.length cB, .slice AD c.data.length cD, .slice AI c.invokes.length cI] 28)).alloc (.cells zChart 28)) c (.slice AS c.states.length cS) (.slice AT c.trans.length cT) (.slice AB c.blocks.length cB) (.slice AD c.data.length cD) (.slice AI c.invokes.length cI) :=
    ⟨((Fr.refl [] W).alloc _).alloc _, (Blk.new W _ 28).alloc _, by simpa using Blk.new (W.alloc (.cells #[.string c.name, .bool c.late, .int .i64 c.script, .slice AS c.states.length cS, .slice AT c.trans.length cT, .slice AB c.blocks.length cB, .slice AD c.data.length cD, .slice AI c.invokes.length cI] 28)) zChart 28⟩
  have hcl := clone_state _ (fun k => k < W.heap.size) _ c.states (hS.fr (fun k hp hk => ⟨hp, hbx.1.block k hk (by simp)⟩))
  unfold chartV
  unfold zChart at hbx hcl
  clear hS hT hB hD hI
  go_enter Try.func45, Try.ntmps45
  go_wp2_with fail
  refine hcl.mono ?_
  intro e w1 h1
  obtain ⟨A', c', css0, rfl, f1, hown0, hhalf0⟩ := h1.start (T := [3, 130]) (by simp; omega)
  have hb1 := hbx.fr f1 (by simp)
  have hc3 := hb1.2.1.cell 3
  have hf3 := hb1.2.1.free 3
  simp at hc3
  have hlt := hb1.2.1.lt
  have fs : Fr [W.heap.size] w1 (w1.setCell ⟨W.heap.size, 3, none⟩ (.slice A' c.states.length c')) := fr_sets _ _
  have hown1 := hown0.fr fs (fun k hk => by have := (hown0.lt k hk).1; simp at this ⊢; omega)
  have hhalf1 := hhalf0.fr fs (fun x hx => by obtain rfl := List.mem_singleton.1 hx; exact ⟨Nat.le_refl _, NT.not hb1.2.1 (by simp)⟩)
  have hbx1 : Boxes W (w1.setCell ⟨W.heap.size, 3, none⟩ (.slice A' c.states.length c')) c (.slice A' c.states.length c') (.slice AT c.trans.length cT) (.slice AB c.blocks.length cB) (.slice AD c.data.length cD) (.slice AI c.invokes.length cI) :=
    ⟨hb1.1.trans fs (fun x hx hlt => by simp at hx; omega), by simpa using hb1.2.1.set 3 (.slice A' c.states.length c'), hb1.2.2.fr fs (by simp)⟩
  have hown3 : OwnE 50 13 (w1.setCell ⟨W.heap.size, 3, none⟩ (.slice A' c.states.length c')) (W.heap.size + 2) (.slice A' c.states.length c') c.states.length css0 := by
    have h : OwnE 50 13 _ _ _ _ _ := hown1
    simpa [Nat.add_assoc] using h
  have OWN := Lib.hid hown3
  have HALF := Lib.hid hhalf1
  have BOX := Lib.hid hbx1
  clear hbx hcl h1 hb1 hown0 hown1 hown3 hhalf0 hhalf1 fs hbx1
  go_wp2
  go_loopg [17] c.states.length (fun gg s17 wr => ∃ k : Nat, k ≤ c.states.length ∧ c.states.length - k ≤ gg ∧ s17 = .int .i64 k ∧ Aside (∃ css, OwnE 50 13 wr (W.heap.size + 2) (.slice A' c.states.length c') c.states.length css ∧ Half rState W.heap.size [3, 130] wr k css c.states) ∧ Aside (Boxes W wr c (.slice A' c.states.length c') (.slice AT c.trans.length cT) (.slice AB c.blocks.length cB) (.slice AD c.data.length cD) (.slice AI c.invokes.length cI)))
  case atStart => exact ⟨0, Nat.zero_le _, by omega, rfl, ⟨css0, OWN.out, HALF.out⟩, BOX.out⟩
  case round =>
    obtain ⟨k, hk, hg, rfl, hI, hbx⟩ := hrel
    by_cases hlt : k < c.states.length
    · have hltz : (k : Int) < (c.states.length : Int) := by omega
      obtain ⟨css, hown, hhalf⟩ := hI.out
      obtain ⟨g, cap, e, hrow⟩ := hown.at_ (by omega)
      injection e with e1 e2 e3
      subst e1 e3
      have hkc : k < css.length := by rw [hrow.2.1]; exact hlt
      have hx := List.getElem?_eq_getElem hlt
      obtain ⟨v3, v5, v6, v7, v8, v9, v11, hcs, h3, h5, h6, h7, h8, h9, h11⟩ := (hhalf k css[k] c.states[k] (List.getElem?_eq_getElem hkc) hx).2 (Nat.le_refl _)
      obtain ⟨A3, d3, rfl, _⟩ := h3.form
      obtain ⟨A5, d5, rfl, _⟩ := h5.form
      obtain ⟨A6, d6, rfl, _⟩ := h6.form
      obtain ⟨A7, d7, rfl, _⟩ := h7.form
      obtain ⟨A8, d8, rfl, _⟩ := h8.form
      obtain ⟨A9, d9, rfl, _⟩ := h9.form
      obtain ⟨A11, d11, rfl, _⟩ := h11.form
      have hcs' := List.getElem?_eq_getElem hkc
      rw [hcs] at hcs'
      have b3 := hbx.out.2.1.cell 3
      simp at b3
      have hWr := hbx.out.2.1.lt
      have HCS := Lib.hid hcs'
      have HROW := Lib.hid hrow
      have HHALF := Lib.hid hhalf
      have HX := Lib.hid hx
      clear hcs' hcs hrow hown hhalf hx
      have hgB := HROW.out.blk.1
      go_wp2
      refine clone6 (B := W.heap.size) (by omega) HROW.out HCS.out h3 h5 h6 ?_
      intro u24 u25 u26 u27 u28 u29 u30 u31 u32 u33 u34 u35 u36 u37 u38 u39 u40 u41 u42 u43 u44 u45 u46 u47 w6 hpost
      obtain ⟨B3, e3, B5, e5, B6, e6, f6, R6, s3, s5, s6⟩ := hpost
      have RR6 := Lib.hid R6
      clear R6
      go_wp2
      refine clone7 (B := W.heap.size) (by have := f6.size; omega) RR6.out (get_set_self HCS.out _) (h7.old f6 (by omega)) (h8.old f6 (by omega)) (h9.old f6 (by omega)) ?_
      intro u48 u49 u50 u51 u52 u53 u54 u55 u56 u57 u58 u59 u60 u61 u62 u63 u64 u65 u66 u67 u68 u69 u70 u71 w7 hpost
      obtain ⟨B7, e7, B8, e8, B9, e9, f7, R7, s7, s8, s9⟩ := hpost
      rw [set_set_of] at R7
      have hk7 := get_set_self HCS.out [.string c.states[k].id, .int .i64 c.states[k].kind, .int .i64 c.states[k].par, .slice B3 c.states[k].kids.length e3, .int .i64 c.states[k].init, .slice B5 c.states[k].entry.length e5, .slice B6 c.states[k].exit.length e6, .slice B7 c.states[k].trans.length e7, .slice B8 c.states[k].data.length e8, .slice B9 c.states[k].invokes.length e9, .int .i64 c.states[k].done.kind, .slice A11 c.states[k].done.params.length d11, .string c.states[k].done.body]
      have x10 := R7.cell hk7 (i := 10) rfl
      have x11 := R7.cell hk7 (i := 11) rfl
      have x12 := R7.cell hk7 (i := 12) rfl
      have hrl := R7.lt
      have K7 := Lib.hid hk7
      have RR7 := Lib.hid R7
      clear hk7 R7
      go_wp2_with fail
      refine (load_from w7 w7 _ _ _ _ _ (Fr.refl _ _) ((h11.old f6 (by omega)).old f7 (by omega))).mono ?_
      rintro e w8 ⟨B11, e11, rfl, f8, s11⟩
      have R8 := RR7.out.fr f8 (by simp)
      have z10 := R8.cell K7.out (i := 10) rfl
      have z11 := R8.cell K7.out (i := 11) rfl
      have z12 := R8.cell K7.out (i := 12) rfl
      have zf := R8.free
      have zl := R8.lt
      have RR8 := Lib.hid R8
      clear R8
      go_wp2
      go_roundg (c.states.length - (k + 1))
      case measure => omega
      case rel =>
        have fs : Fr [g] w8 (((w8.setCell ⟨g, k * 13 + 10, none⟩ (.int .i64 c.states[k].done.kind)).setCell ⟨g, k * 13 + 11, none⟩ (.slice B11 c.states[k].done.params.length e11)).setCell ⟨g, k * 13 + 12, none⟩ (.string c.states[k].done.body)) := (((Fr.refl _ _).setCell (by simp) _).setCell (by simp) _).setCell (by simp) _
        have ft : Fr [g] wr w8 := (f6.trans f7 (fun _ h _ => h)).trans' f8
        have fa := ft.trans fs (fun _ h _ => h)
        have R9 := RR8.out.put3 K7.out (i := 10) (j := 11) (m := 12) (by decide) (by decide) (by decide) (.int .i64 c.states[k].done.kind) (.slice B11 c.states[k].done.params.length e11) (.string c.states[k].done.body)
        rw [set_set_of] at R9
        have hw7 := f6.size
        have hw8 := f7.size
        have f78 := f7.trans' f8
        refine ⟨k + 1, by omega, by omega, by go_num, ⟨_, R9.ownE, HHALF.out.step fa (by omega) (HROW.out.not (by simp)) (by omega) hkc HX.out ?_⟩, hbx.out.fr fa (by simp; omega)⟩
        refine ⟨_, _, _, _, _, _, _, rfl, ?_, ?_, ?_, ?_, ?_, ?_, ?_⟩
        · exact (RowAt.keep (RowAt.keep s3 RR6.out f78 (by simp)) RR8.out fs (by simp)).fr (NT.wide (Nat.le_refl _) (by simp))
        · exact (RowAt.keep (RowAt.keep s5 RR6.out f78 (by simp)) RR8.out fs (by simp)).fr (NT.wide (Nat.le_refl _) (by simp))
        · exact (RowAt.keep (RowAt.keep s6 RR6.out f78 (by simp)) RR8.out fs (by simp)).fr (NT.wide (Nat.le_refl _) (by simp))
        · exact (RowAt.keep (s7.fr (NT.fr0 f8)) RR8.out fs (by simp)).fr (NT.wide (Nat.le_refl _) (by simp))
        · exact (RowAt.keep (s8.fr (NT.fr0 f8)) RR8.out fs (by simp)).fr (NT.wide (Nat.le_refl _) (by simp))
        · exact (RowAt.keep (s9.fr (NT.fr0 f8)) RR8.out fs (by simp)).fr (NT.wide (Nat.le_refl _) (by simp))
        · exact (RowAt.keep (s11.fr (NT.wide (B' := W.heap.size) (by omega) (fun _ h => h))) RR8.out fs (by simp)).fr (NT.wide (Nat.le_refl _) (by simp))
    · obtain rfl : k = c.states.length := by omega
      have hltz : ¬ (c.states.length : Int) < (c.states.length : Int) := by omega
      obtain ⟨css, hown, hhalf⟩ := hI.out
      have hbx := hbx.out
      have DS := Lib.hid (hhalf.done hown (by omega) HS.out.reach)
      have hcl := clone_trans wr (fun k => k < W.heap.size) _ c.trans (HT.out.fr (fun k hp hk => ⟨hp, hbx.1.block k hk (by simp)⟩))
      have c4 := hbx.2.1.cell 4
      have c3 := hbx.2.1.cell 3
      simp at c3 c4
      have hltB := hbx.2.1.lt
      have BX := Lib.hid hbx
      clear hI hown hhalf hbx hg hk hlt
      go_wp2_with fail
      refine hcl.mono ?_
      intro e w2 h1
      obtain ⟨AT', cT', css1, rfl, f2, hown0, hhalf0⟩ := h1.start (T := [9, 3]) (by omega)
      have hb1 := BX.out.fr f2 (by simp)
      have DS1 := DS.out.fr (NT.fr0 f2)
      have hc4 := hb1.2.1.cell 4
      have hf4 := hb1.2.1.free 4
      simp at hc4
      have hlt := hb1.2.1.lt
      have fs : Fr [W.heap.size] w2 (w2.setCell ⟨W.heap.size, 4, none⟩ (.slice AT' c.trans.length cT')) := fr_sets _ _
      have hown1 := hown0.fr fs (fun k hk => by have := (hown0.lt k hk).1; simp at this ⊢; omega)
      have hhalf2 := hhalf0.fr fs (fun x hx => by obtain rfl := List.mem_singleton.1 hx; exact ⟨Nat.le_refl _, NT.not hb1.2.1 (by simp)⟩)
      have hbx1 := Boxes.put (.slice AT' c.trans.length cT') hb1 fs
      have DS2 := DS1.stay fs (Nat.le_refl _) (fun x hx => by obtain rfl := List.mem_singleton.1 hx; exact NT.not hb1.2.1 (by simp))
      have hown2 : OwnE 45 6 (w2.setCell ⟨W.heap.size, 4, none⟩ (.slice AT' c.trans.length cT')) (W.heap.size + 2) (.slice AT' c.trans.length cT') c.trans.length css1 := OwnE.low hown1 (by have := BX.out.2.2.lt; omega)
      have hbx2 : Boxes W (w2.setCell ⟨W.heap.size, 4, none⟩ (.slice AT' c.trans.length cT')) c _ (.slice AT' c.trans.length cT') (.slice AB c.blocks.length cB) (.slice AD c.data.length cD) (.slice AI c.invokes.length cI) := ⟨hbx1.1, by simpa using hbx1.2.1, hbx1.2.2⟩
      have OWN := Lib.hid hown2
      have HALF := Lib.hid hhalf2
      have BOX := Lib.hid hbx2
      have DST := Lib.hid DS2
      clear hcl h1 hb1 hown0 hown1 hown2 hhalf0 hhalf2 fs hbx1 hbx2 DS1 DS2
      go_wp2
      go_loopg [88] c.trans.length (fun gg s88 wr => ∃ k : Nat, k ≤ c.trans.length ∧ c.trans.length - k ≤ gg ∧ s88 = .int .i64 k ∧ Aside (∃ css, OwnE 45 6 wr (W.heap.size + 2) (.slice AT' c.trans.length cT') c.trans.length css ∧ Half rTrans W.heap.size [9, 3] wr k css c.trans) ∧ Aside (Boxes W wr c (.slice A' c.states.length c') (.slice AT' c.trans.length cT') (.slice AB c.blocks.length cB) (.slice AD c.data.length cD) (.slice AI c.invokes.length cI)) ∧ Aside (Sl rState (NT W.heap.size [50, 3, 130] wr) wr (.slice A' c.states.length c') c.states))
      case atStart => exact ⟨0, Nat.zero_le _, by omega, rfl, ⟨css1, OWN.out, HALF.out⟩, BOX.out, DST.out⟩
      case round =>
        obtain ⟨k, hk, hg, rfl, hI, hbx, hDS⟩ := hrel
        by_cases hlt : k < c.trans.length
        · have hltz : (k : Int) < (c.trans.length : Int) := by omega
          obtain ⟨css, hown, hhalf⟩ := hI.out
          obtain ⟨g, cap, e, hrow⟩ := hown.at_ (by omega)
          injection e with e1 e2 e3
          subst e1 e3
          have hkc : k < css.length := by rw [hrow.2.1]; exact hlt
          have hx := List.getElem?_eq_getElem hlt
          obtain ⟨v1, v3, hcs, h1, h3⟩ := (hhalf k css[k] c.trans[k] (List.getElem?_eq_getElem hkc) hx).2 (Nat.le_refl _)
          obtain ⟨A1, d1, rfl, _⟩ := h1.form
          obtain ⟨A3, d3, rfl, _⟩ := h3.form
          have hcs' := List.getElem?_eq_getElem hkc
          rw [hcs] at hcs'
          have b4 := hbx.out.2.1.cell 4
          simp at b4
          have hWr := hbx.out.2.1.lt
          have HCS := Lib.hid hcs'
          have HROW := Lib.hid hrow
          have HHALF := Lib.hid hhalf
          have HX := Lib.hid hx
          clear hcs' hcs hrow hown hhalf hx
          have hgB := HROW.out.blk.1
          go_wp2
          refine clone14 (B := W.heap.size) (by omega) HROW.out HCS.out hlt (by omega) (by omega) (p := fun k => k < W.heap.size) (by omega) b4 h1 h3 ?_
          intro u91 u92 u93 u94 u95 u96 u97 u98 u99 u100 u101 u102 u103 u104 u105 u106 u107 u108 u109 u110 u111 u112 u113 u114 w6 hpost
          obtain ⟨B1, e1, B3, e3, f6, R6, s1, s3⟩ := hpost
          have RR6 := Lib.hid R6
          clear R6
          go_wp2
          go_roundg (c.trans.length - (k + 1))
          case measure => omega
          case rel =>
            refine ⟨k + 1, by omega, by omega, by go_num, ⟨_, RR6.out.ownE, HHALF.out.step f6 (by omega) (HROW.out.not (by simp)) (by omega) hkc HX.out ?_⟩, hbx.out.fr f6 (by simp; omega), RowAt.keep hDS.out HROW.out f6 (by simp)⟩
            exact ⟨_, _, rfl, s1.fr (NT.wide (Nat.le_refl _) (by simp)), s3.fr (NT.wide (Nat.le_refl _) (by simp))⟩
        · obtain rfl : k = c.trans.length := by omega
          have hltz : ¬ (c.trans.length : Int) < (c.trans.length : Int) := by omega
          obtain ⟨css, hown, hhalf⟩ := hI.out
          have hbx := hbx.out
          have DT := Lib.hid (hhalf.done hown (by omega) HT.out.reach)
          have hcl := clone_block wr (fun k => k < W.heap.size) _ c.blocks (HB.out.fr (fun k hp hk => ⟨hp, hbx.1.block k hk (by simp)⟩))
          have c5 := hbx.2.1.cell 5
          simp at c5
          have hltB := hbx.2.1.lt
          have BX := Lib.hid hbx
          clear hI hown hhalf hbx hg hk hlt
          go_wp2_with fail
          refine hcl.mono ?_
          intro e w3 h1
          obtain ⟨AB', cB', css2, rfl, f3, hown0, hhalf0⟩ := h1.start (T := [113, 9, 3, 130]) (by omega)
          have hb1 := BX.out.fr f3 (by simp)
          have DS1 := hDS.out.fr (NT.fr0 f3)
          have DT1 := DT.out.fr (NT.fr0 f3)
          have hc5 := hb1.2.1.cell 5
          have hf5 := hb1.2.1.free 5
          simp at hc5
          have hlt := hb1.2.1.lt
          have fs : Fr [W.heap.size] w3 (w3.setCell ⟨W.heap.size, 5, none⟩ (.slice AB' c.blocks.length cB')) := fr_sets _ _
          have hown1 := hown0.fr fs (fun k hk => by have := (hown0.lt k hk).1; simp at this ⊢; omega)
          have hhalf1 := hhalf0.fr fs (fun x hx => by obtain rfl := List.mem_singleton.1 hx; exact ⟨Nat.le_refl _, NT.not hb1.2.1 (by simp)⟩)
          have hbx1 := Boxes.put (.slice AB' c.blocks.length cB') hb1 fs
          have DS2 := DS1.stay fs (Nat.le_refl _) (fun x hx => by obtain rfl := List.mem_singleton.1 hx; exact NT.not hb1.2.1 (by simp))
          have DT2 := DT1.stay fs (Nat.le_refl _) (fun x hx => by obtain rfl := List.mem_singleton.1 hx; exact NT.not hb1.2.1 (by simp))
          have hown2 : OwnE 110 1 (w3.setCell ⟨W.heap.size, 5, none⟩ (.slice AB' c.blocks.length cB')) (W.heap.size + 2) (.slice AB' c.blocks.length cB') c.blocks.length css2 := OwnE.low hown1 (by have := BX.out.2.2.lt; omega)
          have hbx2 : Boxes W (w3.setCell ⟨W.heap.size, 5, none⟩ (.slice AB' c.blocks.length cB')) c (.slice A' c.states.length c') (.slice AT' c.trans.length cT') (.slice AB' c.blocks.length cB') (.slice AD c.data.length cD) (.slice AI c.invokes.length cI) := ⟨hbx1.1, by simpa using hbx1.2.1, hbx1.2.2⟩
          have OWNB := Lib.hid hown2
          have HALFB := Lib.hid hhalf1
          have BOXB := Lib.hid hbx2
          have DSB := Lib.hid DS2
          have DTB := Lib.hid DT2
          clear hcl h1 hb1 hown0 hown1 hown2 hhalf0 hhalf1 fs hbx1 hbx2 DS1 DS2 DT1 DT2
          go_wp2
          go_loopg [123] c.blocks.length (fun gg s123 wr => ∃ k : Nat, k ≤ c.blocks.length ∧ c.blocks.length - k ≤ gg ∧ s123 = .int .i64 k ∧ Aside (∃ css, OwnE 110 1 wr (W.heap.size + 2) (.slice AB' c.blocks.length cB') c.blocks.length css ∧ Half rBlock W.heap.size [113, 9, 3, 130] wr k css c.blocks) ∧ Aside (Boxes W wr c (.slice A' c.states.length c') (.slice AT' c.trans.length cT') (.slice AB' c.blocks.length cB') (.slice AD c.data.length cD) (.slice AI c.invokes.length cI)) ∧ Aside (Sl rState (NT W.heap.size [50, 3, 130] wr) wr (.slice A' c.states.length c') c.states) ∧ Aside (Sl rTrans (NT W.heap.size [45, 9, 3] wr) wr (.slice AT' c.trans.length cT') c.trans))
          case atStart => exact ⟨0, Nat.zero_le _, by omega, rfl, ⟨css2, OWNB.out, HALFB.out⟩, BOXB.out, DSB.out, DTB.out⟩
          case round =>
            obtain ⟨k, hk, hg, rfl, hI, hbx, hDSb, hDTb⟩ := hrel
            by_cases hlt : k < c.blocks.length
            · have hltz : (k : Int) < (c.blocks.length : Int) := by omega
              obtain ⟨wo, rfl⟩ : ∃ wo : World, wo = wr := ⟨_, rfl⟩
              obtain ⟨css, hown, hhalf⟩ := hI.out
              obtain ⟨g, cap, e, hrow⟩ := hown.at_ (by omega)
              injection e with e1 e2 e3
              subst e1 e3
              have hkc : k < css.length := by rw [hrow.2.1]; exact hlt
              have hx := List.getElem?_eq_getElem hlt
              obtain ⟨v0, hcs, h0⟩ := (hhalf k css[k] c.blocks[k] (List.getElem?_eq_getElem hkc) hx).2 (Nat.le_refl _)
              obtain ⟨A0, d0, rfl, _⟩ := h0.form
              have hcs' := List.getElem?_eq_getElem hkc
              rw [hcs] at hcs'
              have b5 := hbx.out.2.1.cell 5
              simp at b5
              have hWr := hbx.out.2.1.lt
              have x0 := hrow.cell hcs' (i := 0) rfl
              simp only [Nat.mul_one, Nat.add_zero] at x0
              have hrl := hrow.lt
              have hla := h0.len
              have hra := Lib.hid h0.reach
              have hca := clone_act wo (fun k => k < W.heap.size) _ c.blocks[k].acts h0
              have HCS := Lib.hid hcs'
              have HROW := Lib.hid hrow
              have HHALF := Lib.hid hhalf
              have HX := Lib.hid hx
              clear hcs' hcs hrow hown hhalf hx h0
              have hgB := HROW.out.blk.1
              go_wp2_with fail
              refine hca.mono ?_
              intro e w4 h4
              obtain ⟨Aa, ca, acss, rfl, f4, hoa, hha⟩ := h4.start (T := [9, 3, 130]) (by omega)
              have HOA := Lib.hid hoa
              have HHA := Lib.hid hha
              clear h4 hoa hha hca
              go_wp2
              go_loopg [135] c.blocks[k].acts.length (fun gg s135 wr => ∃ j : Nat, j ≤ c.blocks[k].acts.length ∧ c.blocks[k].acts.length - j ≤ gg ∧ s135 = .int .i64 j ∧ Aside (∃ acss, OwnE 113 19 wr wo.heap.size (.slice Aa c.blocks[k].acts.length ca) c.blocks[k].acts.length acss ∧ Half rAct W.heap.size [9, 3, 130] wr j acss c.blocks[k].acts) ∧ Aside (Fr [] wo wr))
              case atStart => exact ⟨0, Nat.zero_le _, by omega, rfl, ⟨acss, HOA.out, HHA.out⟩, f4⟩
              case round =>
                obtain ⟨j, hj, hgj, rfl, hIj, hfo⟩ := hrel
                by_cases hjt : j < c.blocks[k].acts.length
                · have hjtz : (j : Int) < (c.blocks[k].acts.length : Int) := by omega
                  obtain ⟨acss, hoa, hha⟩ := hIj.out
                  obtain ⟨ga, capa, e, hra2⟩ := hoa.at_ (by omega)
                  injection e with e1 e2 e3
                  subst e1 e3
                  have hjc : j < acss.length := by rw [hra2.2.1]; exact hjt
                  have hy := List.getElem?_eq_getElem hjt
                  obtain ⟨v14, v15, v17, hcs, h14, h15, h17⟩ := (hha j acss[j] c.blocks[k].acts[j] (List.getElem?_eq_getElem hjc) hy).2 (Nat.le_refl _)
                  obtain ⟨A14, d14, rfl, _⟩ := h14.form
                  obtain ⟨A15, d15, rfl, _⟩ := h15.form
                  obtain ⟨A17, d17, rfl, _⟩ := h17.form
                  have hcs' := List.getElem?_eq_getElem hjc
                  rw [hcs] at hcs'
                  have ACS := Lib.hid hcs'
                  have AROW := Lib.hid hra2
                  have AHALF := Lib.hid hha
                  have AX := Lib.hid hy
                  clear hcs' hcs hra2 hoa hha hy
                  have hwo := hfo.out.size
                  have hga := AROW.out.blk.1
                  go_wp2
                  refine clone24 (B := W.heap.size) (by omega) AROW.out ACS.out hjt (by omega) h14 h15 h17 ?_
                  intro u138 u139 u140 u141 u142 u143 u144 u145 u146 u147 u148 u149 u150 u151 u152 u153 u154 u155 u156 u157 u158 u159 u160 u161 u162 u163 u164 u165 u166 u167 w6 hpost
                  obtain ⟨B14, e14, B15, e15, B17, e17, f6, R6, s14, s15, s17⟩ := hpost
                  have RR6 := Lib.hid R6
                  clear R6
                  go_wp2
                  go_roundg (c.blocks[k].acts.length - (j + 1))
                  case measure => omega
                  case rel =>
                    refine ⟨j + 1, by omega, by omega, by go_num, ⟨_, RR6.out.ownE, AHALF.out.step f6 (by omega) (AROW.out.not (by simp)) (by omega) hjc AX.out ?_⟩, hfo.out.trans f6 (fun x hx hxl => by simp at hx; omega)⟩
                    exact ⟨_, _, _, rfl, s14.fr (NT.wide (Nat.le_refl _) (by simp)), s15.fr (NT.wide (Nat.le_refl _) (by simp)), s17.fr (NT.wide (Nat.le_refl _) (by simp))⟩
                · obtain rfl : j = c.blocks[k].acts.length := by omega
                  have hjtz : ¬ (c.blocks[k].acts.length : Int) < (c.blocks[k].acts.length : Int) := by omega
                  obtain ⟨acss, hoa, hha⟩ := hIj.out
                  have hfo := hfo.out
                  have DA := Lib.hid (hha.done hoa (by omega) hra.out)
                  have R1 := HROW.out.fr hfo (by simp)
                  have y0 := R1.cell HCS.out (i := 0) rfl
                  have yf := R1.free
                  have yl := R1.lt
                  simp only [Nat.mul_one, Nat.add_zero] at y0
                  have c5' := (hbx.out.fr hfo (by simp)).2.1.cell 5
                  simp at c5'
                  have hltB := (hbx.out.fr hfo (by simp)).2.1.lt
                  have RR1 := Lib.hid R1
                  have FO := Lib.hid hfo
                  clear hIj hoa hha R1 hfo hgj hj hjt
                  go_wp2
                  go_roundg (c.blocks.length - (k + 1))
                  case measure => omega
                  case rel =>
                    have R2 := RR1.out.put HCS.out (i := 0) (by decide) (.slice Aa c.blocks[k].acts.length ca)
                    simp only [Nat.mul_one, Nat.add_zero] at R2
                    have fs := fr_sets (g := g) (w := wr) k (.slice Aa c.blocks[k].acts.length ca)
                    have fa : Fr [g] wo (wr.setCell ⟨g, k, none⟩ (.slice Aa c.blocks[k].acts.length ca)) := FO.out.nil.trans fs (fun _ h _ => h)
                    have hng : ∀ T, 110 ∉ T → ∀ x, x ∈ [g] → ¬ NT W.heap.size T wr x := fun T hT x hx => by
                      obtain rfl := List.mem_singleton.1 hx
                      exact RR1.out.not hT
                    refine ⟨k + 1, by omega, by omega, by go_num, ⟨_, R2.ownE, HHALF.out.step fa (by omega) (HROW.out.not (by simp)) (by omega) hkc HX.out ?_⟩, hbx.out.fr fa (by simp; omega), (hDSb.out.fr (NT.fr0 FO.out)).stay fs (Nat.le_refl _) (hng _ (by simp)), (hDTb.out.fr (NT.fr0 FO.out)).stay fs (Nat.le_refl _) (hng _ (by simp))⟩
                    exact ⟨_, rfl, DA.out.stay fs (Nat.le_refl _) (hng _ (by simp))⟩
            · obtain rfl : k = c.blocks.length := by omega
              have hltz : ¬ (c.blocks.length : Int) < (c.blocks.length : Int) := by omega
              obtain ⟨css, hown, hhalf⟩ := hI.out
              have hbx := hbx.out
              have DB := Lib.hid (hhalf.done hown (by omega) HB.out.reach)
              have hcl := clone_datum wr (fun k => k < W.heap.size) _ c.data (HD.out.fr (fun k hp hk => ⟨hp, hbx.1.block k hk (by simp)⟩))
              have c6 := hbx.2.1.cell 6
              simp at c6
              have hltB := hbx.2.1.lt
              have BXb := Lib.hid hbx
              clear hI hown hhalf hbx hg hk hlt
              go_wp2_with fail
              refine hcl.mono ?_
              intro e w5 h1
              obtain ⟨v6, css6, rfl, f5, ho6, hR6⟩ := h1
              have hs6 : Sl rDatum (NT W.heap.size [115] w5) w5 v6 c.data := sl_of_own ho6 (hR6.fr (fun k hk hlt => ⟨hk, f5.block k hlt (by simp)⟩)).any HD.out.reach (NT.own ho6 (by omega) (by simp))
              obtain ⟨AD', cD', rfl⟩ := own_slice ho6
              have hb1 := BXb.out.fr f5 (by simp)
              have DS1 := hDSb.out.fr (NT.fr0 f5)
              have DT1 := hDTb.out.fr (NT.fr0 f5)
              have DB1 := DB.out.fr (NT.fr0 f5)
              have hc6 := hb1.2.1.cell 6
              have hf6 := hb1.2.1.free 6
              have hc7 := hb1.2.1.cell 7
              simp at hc6 hc7
              have hlt := hb1.2.1.lt
              have fs : Fr [W.heap.size] w5 (w5.setCell ⟨W.heap.size, 6, none⟩ (.slice AD' c.data.length cD')) := fr_sets _ _
              have hbx1 := Boxes.put (.slice AD' c.data.length cD') hb1 fs
              have hnB : ∀ T, 28 ∉ T → ∀ x, x ∈ [W.heap.size] → ¬ NT W.heap.size T w5 x := fun T hT x hx => by
                obtain rfl := List.mem_singleton.1 hx
                exact NT.not hb1.2.1 hT
              have DS2 := DS1.stay fs (Nat.le_refl _) (hnB _ (by simp))
              have DT2 := DT1.stay fs (Nat.le_refl _) (hnB _ (by simp))
              have DB2 := DB1.stay fs (Nat.le_refl _) (hnB _ (by simp))
              have DD2 := hs6.stay fs (Nat.le_refl _) (hnB _ (by simp))
              have hbx2 : Boxes W (w5.setCell ⟨W.heap.size, 6, none⟩ (.slice AD' c.data.length cD')) c (.slice A' c.states.length c') (.slice AT' c.trans.length cT') (.slice AB' c.blocks.length cB') (.slice AD' c.data.length cD') (.slice AI c.invokes.length cI) := ⟨hbx1.1, by simpa using hbx1.2.1, hbx1.2.2⟩
              obtain ⟨w6, hw6⟩ : ∃ w6, w6 = w5.setCell ⟨W.heap.size, 6, none⟩ (.slice AD' c.data.length cD') := ⟨_, rfl⟩
              have hci := clone_invoke w6 (fun k => k < W.heap.size) _ c.invokes (HI.out.fr (fun k hp hk => ⟨hp, by rw [hw6]; exact hbx2.1.block k hk (by simp)⟩))
              rw [← hw6] at DS2 DT2 DB2 DD2 hbx2
              have DSB6 := Lib.hid DS2
              have DTB6 := Lib.hid DT2
              have DBB6 := Lib.hid DB2
              have DDB6 := Lib.hid DD2
              have BX6 := Lib.hid hbx2
              have c7' := hbx2.2.1.cell 7
              simp at c7'
              rw [hw6] at hci
              have HW6 := Lib.hid hw6
              clear hcl hb1 ho6 hR6 hs6 fs hbx1 hbx2 DS1 DS2 DT1 DT2 DB1 DB2 DD2 hnB hw6 c7'
              go_wp2_with fail
              refine hci.mono ?_
              intro e w7 h1
              rw [← HW6.out] at h1
              obtain ⟨AI', cI', css7, rfl, f7, hown0, hhalf0⟩ := h1.start (T := [130]) (by have := BX6.out.2.1.lt; omega)
              have hb1 := BX6.out.fr f7 (by simp)
              have DS1 := DSB6.out.fr (NT.fr0 f7)
              have DT1 := DTB6.out.fr (NT.fr0 f7)
              have DB1 := DBB6.out.fr (NT.fr0 f7)
              have DD1 := DDB6.out.fr (NT.fr0 f7)
              have hc7 := hb1.2.1.cell 7
              have hf7 := hb1.2.1.free 7
              simp at hc7
              have hlt := hb1.2.1.lt
              have fs : Fr [W.heap.size] w7 (w7.setCell ⟨W.heap.size, 7, none⟩ (.slice AI' c.invokes.length cI')) := fr_sets _ _
              have hown1 := hown0.fr fs (fun k hk => by have := (hown0.lt k hk).1; have := BX6.out.2.1.lt; simp; omega)
              have hhalf1 := hhalf0.fr fs (fun x hx => by obtain rfl := List.mem_singleton.1 hx; exact ⟨Nat.le_refl _, NT.not hb1.2.1 (by simp)⟩)
              have hbx1 := Boxes.put (.slice AI' c.invokes.length cI') hb1 fs
              have hnB : ∀ T, 28 ∉ T → ∀ x, x ∈ [W.heap.size] → ¬ NT W.heap.size T w7 x := fun T hT x hx => by
                obtain rfl := List.mem_singleton.1 hx
                exact NT.not hb1.2.1 hT
              have DSI := Lib.hid (DS1.stay fs (Nat.le_refl _) (hnB _ (by simp)))
              have DTI := Lib.hid (DT1.stay fs (Nat.le_refl _) (hnB _ (by simp)))
              have DBI := Lib.hid (DB1.stay fs (Nat.le_refl _) (hnB _ (by simp)))
              have DDI := Lib.hid (DD1.stay fs (Nat.le_refl _) (hnB _ (by simp)))
              have hown2 : OwnE 118 8 (w7.setCell ⟨W.heap.size, 7, none⟩ (.slice AI' c.invokes.length cI')) (W.heap.size + 2) (.slice AI' c.invokes.length cI') c.invokes.length css7 := OwnE.low hown1 (by have := BX6.out.2.2.lt; omega)
              have hbx2 : Boxes W (w7.setCell ⟨W.heap.size, 7, none⟩ (.slice AI' c.invokes.length cI')) c (.slice A' c.states.length c') (.slice AT' c.trans.length cT') (.slice AB' c.blocks.length cB') (.slice AD' c.data.length cD') (.slice AI' c.invokes.length cI') := ⟨hbx1.1, by simpa using hbx1.2.1, hbx1.2.2⟩
              have OWNI := Lib.hid hown2
              have HALFI := Lib.hid hhalf1
              have BOXI := Lib.hid hbx2
              clear hci h1 hb1 hown0 hown1 hown2 hhalf0 hhalf1 fs hbx1 hbx2 DS1 DT1 DB1 DD1 hnB
              go_wp2
              go_loopg [187] c.invokes.length (fun gg s187 wr => ∃ k : Nat, k ≤ c.invokes.length ∧ c.invokes.length - k ≤ gg ∧ s187 = .int .i64 k ∧ Aside (∃ css, OwnE 118 8 wr (W.heap.size + 2) (.slice AI' c.invokes.length cI') c.invokes.length css ∧ Half rInvoke W.heap.size [130] wr k css c.invokes) ∧ Aside (Boxes W wr c (.slice A' c.states.length c') (.slice AT' c.trans.length cT') (.slice AB' c.blocks.length cB') (.slice AD' c.data.length cD') (.slice AI' c.invokes.length cI')) ∧ Aside (Sl rState (NT W.heap.size [50, 3, 130] wr) wr (.slice A' c.states.length c') c.states) ∧ Aside (Sl rTrans (NT W.heap.size [45, 9, 3] wr) wr (.slice AT' c.trans.length cT') c.trans) ∧ Aside (Sl rBlock (NT W.heap.size [110, 113, 9, 3, 130] wr) wr (.slice AB' c.blocks.length cB') c.blocks) ∧ Aside (Sl rDatum (NT W.heap.size [115] wr) wr (.slice AD' c.data.length cD') c.data))
              case atStart => exact ⟨0, Nat.zero_le _, by omega, rfl, ⟨css7, OWNI.out, HALFI.out⟩, BOXI.out, DSI.out, DTI.out, DBI.out, DDI.out⟩
              case round =>
                obtain ⟨k, hk, hg, rfl, hI, hbx, hDSi, hDTi, hDBi, hDDi⟩ := hrel
                by_cases hlt : k < c.invokes.length
                · have hltz : (k : Int) < (c.invokes.length : Int) := by omega
                  obtain ⟨css, hown, hhalf⟩ := hI.out
                  obtain ⟨g, cap, e, hrow⟩ := hown.at_ (by omega)
                  injection e with e1 e2 e3
                  subst e1 e3
                  have hkc : k < css.length := by rw [hrow.2.1]; exact hlt
                  have hx := List.getElem?_eq_getElem hlt
                  obtain ⟨v5, hcs, h5⟩ := (hhalf k css[k] c.invokes[k] (List.getElem?_eq_getElem hkc) hx).2 (Nat.le_refl _)
                  obtain ⟨A5, d5, rfl, _⟩ := h5.form
                  have hcs' := List.getElem?_eq_getElem hkc
                  rw [hcs] at hcs'
                  have b7 := hbx.out.2.1.cell 7
                  simp at b7
                  have hWr := hbx.out.2.1.lt
                  have HCS := Lib.hid hcs'
                  have HROW := Lib.hid hrow
                  have HHALF := Lib.hid hhalf
                  have HX := Lib.hid hx
                  clear hcs' hcs hrow hown hhalf hx
                  have hgB := HROW.out.blk.1
                  go_wp2
                  refine clone33 (B := W.heap.size) (by omega) HROW.out HCS.out hlt (by omega) (by omega) (p := fun k => k < W.heap.size) (by omega) b7 h5 ?_
                  intro u190 u191 u192 u193 u194 u195 u196 u197 u198 u199 u200 u201 w8 hpost
                  obtain ⟨B5, e5, f8, R8, s5⟩ := hpost
                  have RR8 := Lib.hid R8
                  clear R8
                  go_wp2
                  go_roundg (c.invokes.length - (k + 1))
                  case measure => omega
                  case rel =>
                    refine ⟨k + 1, by omega, by omega, by go_num, ⟨_, RR8.out.ownE, HHALF.out.step f8 (by omega) (HROW.out.not (by simp)) (by omega) hkc HX.out ?_⟩, hbx.out.fr f8 (by simp; omega), RowAt.keep hDSi.out HROW.out f8 (by simp), RowAt.keep hDTi.out HROW.out f8 (by simp), RowAt.keep hDBi.out HROW.out f8 (by simp), RowAt.keep hDDi.out HROW.out f8 (by simp)⟩
                    exact ⟨_, rfl, s5.fr (NT.wide (Nat.le_refl _) (by simp))⟩
                · obtain rfl : k = c.invokes.length := by omega
                  have hltz : ¬ (c.invokes.length : Int) < (c.invokes.length : Int) := by omega
                  obtain ⟨css, hown, hhalf⟩ := hI.out
                  have hbx := hbx.out
                  have DI := Lib.hid (hhalf.done hown (by omega) HI.out.reach)
                  have k0 := hbx.2.1.cell 0
                  have k1 := hbx.2.1.cell 1
                  have k2 := hbx.2.1.cell 2
                  have k3 := hbx.2.1.cell 3
                  have k4 := hbx.2.1.cell 4
                  have k5 := hbx.2.1.cell 5
                  have k6 := hbx.2.1.cell 6
                  have k7 := hbx.2.1.cell 7
                  have q0 := hbx.2.2.cell 0
                  have q1 := hbx.2.2.cell 1
                  have q2 := hbx.2.2.cell 2
                  have q3 := hbx.2.2.cell 3
                  have q4 := hbx.2.2.cell 4
                  have q5 := hbx.2.2.cell 5
                  have q6 := hbx.2.2.cell 6
                  have q7 := hbx.2.2.cell 7
                  unfold zChart at q0 q1 q2 q3 q4 q5 q6 q7
                  simp at k0 k1 k2 k3 k4 k5 k6 k7 q0 q1 q2 q3 q4 q5 q6 q7
                  have qf := hbx.2.2.free
                  have hlt1 := hbx.2.1.lt
                  have hlt2 := hbx.2.2.lt
                  have BXe := Lib.hid hbx
                  clear hI hown hhalf hbx hg hk hlt
                  go_wp2
                  have fe : Fr [W.heap.size + 1] wr ((((((((wr.setCell ⟨W.heap.size + 1, 0, none⟩ (.string c.name)).setCell ⟨W.heap.size + 1, 1, none⟩ (.bool c.late)).setCell ⟨W.heap.size + 1, 2, none⟩ (.int .i64 c.script)).setCell ⟨W.heap.size + 1, 3, none⟩ (.slice A' c.states.length c')).setCell ⟨W.heap.size + 1, 4, none⟩ (.slice AT' c.trans.length cT')).setCell ⟨W.heap.size + 1, 5, none⟩ (.slice AB' c.blocks.length cB')).setCell ⟨W.heap.size + 1, 6, none⟩ (.slice AD' c.data.length cD')).setCell ⟨W.heap.size + 1, 7, none⟩ (.slice AI' c.invokes.length cI')) :=
                    ((((((((Fr.refl _ _).setCell (by simp) _).setCell (by simp) _).setCell (by simp) _).setCell (by simp) _).setCell (by simp) _).setCell (by simp) _).setCell (by simp) _).setCell (by simp) _
                  have hnE : ∀ T, 28 ∉ T → ∀ x, x ∈ [W.heap.size + 1] → ¬ NT W.heap.size T wr x := fun T hT x hx => by
                    obtain rfl := List.mem_singleton.1 hx
                    exact NT.not BXe.out.2.2 hT
                  refine bodyPost_ret (v := chartV c (.slice A' c.states.length c') (.slice AT' c.trans.length cT') (.slice AB' c.blocks.length cB') (.slice AD' c.data.length cD') (.slice AI' c.invokes.length cI')) (by simp [results, Try.results45, go_sem, chartV, q0, q1, q2, q3, q4, q5, q6, q7]) rfl ?_
                  exact ⟨_, _, _, _, _, rfl, BXe.out.1.trans fe (fun x hx hxl => by simp at hx; omega), hDSi.out.stay fe (Nat.le_refl _) (hnE _ (by simp)), hDTi.out.stay fe (Nat.le_refl _) (hnE _ (by simp)), hDBi.out.stay fe (Nat.le_refl _) (hnE _ (by simp)), hDDi.out.stay fe (Nat.le_refl _) (hnE _ (by simp)), DI.out.stay fe (Nat.le_refl _) (hnE _ (by simp))⟩
end Go.Proofs.Ytekfbafljilchaa
