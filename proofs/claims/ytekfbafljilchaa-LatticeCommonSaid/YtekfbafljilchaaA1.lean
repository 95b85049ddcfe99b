/- The program's structs: Lean structures, what their cells say, how what came in is opened. (Printed by kinds.py.) -/
import Derived.Test.YtekfbafljilchaaA0
set_option linter.unusedVariables false
set_option linter.unusedSimpArgs false
namespace Go.Proofs.Ytekfbafljilchaa
open Go.RowKit

theorem list1 {α : Type} {l : List α} (h : l.length = 1) : ∃ c0, l = [c0] := by
  match l, h with
  | [c0], _ => exact ⟨c0, rfl⟩
theorem list2 {α : Type} {l : List α} (h : l.length = 2) : ∃ c0 c1, l = [c0, c1] := by
  match l, h with
  | [c0, c1], _ => exact ⟨c0, c1, rfl⟩
theorem list3 {α : Type} {l : List α} (h : l.length = 3) : ∃ c0 c1 c2, l = [c0, c1, c2] := by
  match l, h with
  | [c0, c1, c2], _ => exact ⟨c0, c1, c2, rfl⟩
theorem list6 {α : Type} {l : List α} (h : l.length = 6) : ∃ c0 c1 c2 c3 c4 c5, l = [c0, c1, c2, c3, c4, c5] := by
  match l, h with
  | [c0, c1, c2, c3, c4, c5], _ => exact ⟨c0, c1, c2, c3, c4, c5, rfl⟩
theorem list8 {α : Type} {l : List α} (h : l.length = 8) : ∃ c0 c1 c2 c3 c4 c5 c6 c7, l = [c0, c1, c2, c3, c4, c5, c6, c7] := by
  match l, h with
  | [c0, c1, c2, c3, c4, c5, c6, c7], _ => exact ⟨c0, c1, c2, c3, c4, c5, c6, c7, rfl⟩
theorem list13 {α : Type} {l : List α} (h : l.length = 13) : ∃ c0 c1 c2 c3 c4 c5 c6 c7 c8 c9 c10 c11 c12, l = [c0, c1, c2, c3, c4, c5, c6, c7, c8, c9, c10, c11, c12] := by
  match l, h with
  | [c0, c1, c2, c3, c4, c5, c6, c7, c8, c9, c10, c11, c12], _ => exact ⟨c0, c1, c2, c3, c4, c5, c6, c7, c8, c9, c10, c11, c12, rfl⟩
theorem list19 {α : Type} {l : List α} (h : l.length = 19) : ∃ c0 c1 c2 c3 c4 c5 c6 c7 c8 c9 c10 c11 c12 c13 c14 c15 c16 c17 c18, l = [c0, c1, c2, c3, c4, c5, c6, c7, c8, c9, c10, c11, c12, c13, c14, c15, c16, c17, c18] := by
  match l, h with
  | [c0, c1, c2, c3, c4, c5, c6, c7, c8, c9, c10, c11, c12, c13, c14, c15, c16, c17, c18], _ => exact ⟨c0, c1, c2, c3, c4, c5, c6, c7, c8, c9, c10, c11, c12, c13, c14, c15, c16, c17, c18, rfl⟩
theorem list11 {α : Type} {l : List α} (h : l.length = 11) : ∃ c0 c1 c2 c3 c4 c5 c6 c7 c8 c9 c10, l = [c0, c1, c2, c3, c4, c5, c6, c7, c8, c9, c10] := by
  match l, h with
  | [c0, c1, c2, c3, c4, c5, c6, c7, c8, c9, c10], _ => exact ⟨c0, c1, c2, c3, c4, c5, c6, c7, c8, c9, c10, rfl⟩
theorem list17 {α : Type} {l : List α} (h : l.length = 17) : ∃ c0 c1 c2 c3 c4 c5 c6 c7 c8 c9 c10 c11 c12 c13 c14 c15 c16, l = [c0, c1, c2, c3, c4, c5, c6, c7, c8, c9, c10, c11, c12, c13, c14, c15, c16] := by
  match l, h with
  | [c0, c1, c2, c3, c4, c5, c6, c7, c8, c9, c10, c11, c12, c13, c14, c15, c16], _ => exact ⟨c0, c1, c2, c3, c4, c5, c6, c7, c8, c9, c10, c11, c12, c13, c14, c15, c16, rfl⟩
theorem cells3 : Try.prog.cellsOf 3 = 1 := by kernel_rfl
theorem cells4 : Try.prog.cellsOf 4 = 1 := by kernel_rfl
theorem cells9 : Try.prog.cellsOf 9 = 1 := by kernel_rfl
theorem cells22 : Try.prog.cellsOf 22 = 1 := by kernel_rfl
theorem cells23 : Try.prog.cellsOf 23 = 1 := by kernel_rfl
theorem cells24 : Try.prog.cellsOf 24 = 1 := by kernel_rfl
theorem cells25 : Try.prog.cellsOf 25 = 1 := by kernel_rfl
theorem cells26 : Try.prog.cellsOf 26 = 1 := by kernel_rfl
theorem cells29 : Try.prog.cellsOf 29 = 1 := by kernel_rfl
theorem cells43 : Try.prog.cellsOf 43 = 1 := by kernel_rfl
theorem cells46 : Try.prog.cellsOf 46 = 1 := by kernel_rfl
theorem cells48 : Try.prog.cellsOf 48 = 3 := by kernel_rfl
theorem cells108 : Try.prog.cellsOf 108 = 1 := by kernel_rfl
theorem o3 : Opens Try.prog 3 rInt := opens_int Try.underlying3
theorem o4 : Opens Try.prog 4 rBool := opens_bool Try.underlying4
theorem o9 : Opens Try.prog 9 rStr := opens_str Try.underlying9
theorem o29 : Opens Try.prog 29 (rSl rInt) := opens_sl Try.underlying29 (by kernel_rfl) (by kernel_rfl) o3
theorem o43 : Opens Try.prog 43 (rSl rStr) := opens_sl Try.underlying43 (by kernel_rfl) (by kernel_rfl) o9
structure DPar where
  name : ByteArray
  expr : ByteArray
  deriving DecidableEq
instance : Inhabited DPar := ⟨⟨⟨#[]⟩, ⟨#[]⟩⟩⟩
def okPar (p : Nat → Prop) (w : World) (cs : List Value) (x : DPar) : Prop :=
  cs = [.string x.name, .string x.expr]
def rPar : Rk DPar where
  n := 2
  by_ := 32
  pos := by decide
  bpos := by decide
  ok := okPar
  len := fun h => by
    obtain rfl := h
    rfl
  one := fun h u hu => by
    obtain rfl := h
    simp only [List.mem_cons, List.not_mem_nil, or_false] at hu
    rcases hu with rfl | rfl
    · rfl
    · rfl
  fr := fun hp h => by
    obtain rfl := h
    exact rfl
theorem o130 : Opens Try.prog 130 rPar := by
  intro H enc w base sp held fuel cs d ps h hw
  obtain ⟨xs, n, _, hx, hl, hlen, hf⟩ := DataW.trod_struct Try.underlying130 h
  have hl' : cs.length = 2 := hl.trans (by kernel_rfl)
  obtain ⟨y0, y1, rfl⟩ := list2 (l := xs) hlen
  obtain ⟨c0, c1, rfl⟩ := list2 hl'
  simp only [Prod.mk.injEq] at hx
  obtain ⟨rfl, rfl⟩ := hx
  have g0 : DataW.trod enc Try.prog w base sp held n 9 [c0] = some y0 := by
    have h : DataW.trod enc Try.prog w base sp held n 9 (([c0, c1].drop 0).take (Try.prog.cellsOf 9)) = some y0 := hf 0 _ rfl
    rw [cells9] at h
    exact h
  obtain ⟨z0, e0⟩ := o9 (d := y0.1) (ps := y0.2) g0 (fun n hn => hw n (by
    simp only [DataW.weights, Try.underlying130]
    exact DataW.weights_mem_each (j := 0) rfl rfl n hn))
  have g1 : DataW.trod enc Try.prog w base sp held n 9 [c1] = some y1 := by
    have h : DataW.trod enc Try.prog w base sp held n 9 (([c0, c1].drop 1).take (Try.prog.cellsOf 9)) = some y1 := hf 1 _ rfl
    rw [cells9] at h
    exact h
  obtain ⟨z1, e1⟩ := o9 (d := y1.1) (ps := y1.2) g1 (fun n hn => hw n (by
    simp only [DataW.weights, Try.underlying130]
    exact DataW.weights_mem_each (j := 1) rfl rfl n hn))
  obtain ⟨q0, _⟩ := e0
  simp only [List.cons.injEq, and_true] at q0
  subst q0
  obtain ⟨q1, _⟩ := e1
  simp only [List.cons.injEq, and_true] at q1
  subst q1
  exact ⟨⟨z0, z1⟩, rfl⟩
theorem Sl.par_at {p : Nat → Prop} {w : World} {A : Option Addr} {n c : Nat} {l : List DPar} (h : Sl rPar p w (.slice A n c) l) (j : Nat) (hj : j < l.length) :
    ∃ g o , A = some ⟨g, o, none⟩ ∧ p g ∧ g < w.heap.size ∧ w.cell? ⟨g, o + j * 2, none⟩ = some (.string l[j].name) ∧ w.cell? ⟨g, o + j * 2 + 1, none⟩ = some (.string l[j].expr) := by
  obtain ⟨A', c', e, _, _, hr⟩ := h
  injection e with e1 e2 e3
  subst e1
  obtain ⟨g, o, cs, hA, hg, hlt, hok, hcell⟩ := hr j _ (List.getElem?_eq_getElem hj)
  have hok' : okPar p w cs l[j] := hok
  obtain rfl := hok'
  exact ⟨g, o, hA, hg, hlt, hcell 0 _ rfl, hcell 1 _ rfl⟩
theorem o46 : Opens Try.prog 46 (rSl rPar) := opens_sl Try.underlying46 (by kernel_rfl) (by kernel_rfl) o130
structure DLoad where
  kind : Int
  params : List DPar
  body : ByteArray
  deriving DecidableEq
instance : Inhabited DLoad := ⟨⟨0, [], ⟨#[]⟩⟩⟩
def okLoad (p : Nat → Prop) (w : World) (cs : List Value) (x : DLoad) : Prop :=
  ∃ v1, cs = [.int .i64 x.kind, v1, .string x.body] ∧ Sl rPar p w v1 x.params
def rLoad : Rk DLoad where
  n := 3
  by_ := 48
  pos := by decide
  bpos := by decide
  ok := okLoad
  len := fun h => by
    obtain ⟨v1, rfl, h1⟩ := h
    rfl
  one := fun h u hu => by
    obtain ⟨v1, rfl, h1⟩ := h
    simp only [List.mem_cons, List.not_mem_nil, or_false] at hu
    rcases hu with rfl | rfl | rfl
    · rfl
    · exact h1.one
    · rfl
  fr := fun hp h => by
    obtain ⟨v1, rfl, h1⟩ := h
    exact ⟨v1, rfl, h1.fr hp⟩
theorem o48 : Opens Try.prog 48 rLoad := by
  intro H enc w base sp held fuel cs d ps h hw
  obtain ⟨xs, n, _, hx, hl, hlen, hf⟩ := DataW.trod_struct Try.underlying48 h
  have hl' : cs.length = 3 := hl.trans (by kernel_rfl)
  obtain ⟨y0, y1, y2, rfl⟩ := list3 (l := xs) hlen
  obtain ⟨c0, c1, c2, rfl⟩ := list3 hl'
  simp only [Prod.mk.injEq] at hx
  obtain ⟨rfl, rfl⟩ := hx
  have g0 : DataW.trod enc Try.prog w base sp held n 3 [c0] = some y0 := by
    have h : DataW.trod enc Try.prog w base sp held n 3 (([c0, c1, c2].drop 0).take (Try.prog.cellsOf 3)) = some y0 := hf 0 _ rfl
    rw [cells3] at h
    exact h
  obtain ⟨z0, e0⟩ := o3 (d := y0.1) (ps := y0.2) g0 (fun n hn => hw n (by
    simp only [DataW.weights, Try.underlying48]
    exact DataW.weights_mem_each (j := 0) rfl rfl n hn))
  have g1 : DataW.trod enc Try.prog w base sp held n 46 [c1] = some y1 := by
    have h : DataW.trod enc Try.prog w base sp held n 46 (([c0, c1, c2].drop 1).take (Try.prog.cellsOf 46)) = some y1 := hf 1 _ rfl
    rw [cells46] at h
    exact h
  obtain ⟨z1, e1⟩ := o46 (d := y1.1) (ps := y1.2) g1 (fun n hn => hw n (by
    simp only [DataW.weights, Try.underlying48]
    exact DataW.weights_mem_each (j := 1) rfl rfl n hn))
  have g2 : DataW.trod enc Try.prog w base sp held n 9 [c2] = some y2 := by
    have h : DataW.trod enc Try.prog w base sp held n 9 (([c0, c1, c2].drop 2).take (Try.prog.cellsOf 9)) = some y2 := hf 2 _ rfl
    rw [cells9] at h
    exact h
  obtain ⟨z2, e2⟩ := o9 (d := y2.1) (ps := y2.2) g2 (fun n hn => hw n (by
    simp only [DataW.weights, Try.underlying48]
    exact DataW.weights_mem_each (j := 2) rfl rfl n hn))
  have q0 : [c0] = [.int .i64 z0] := e0
  simp only [List.cons.injEq, and_true] at q0
  subst q0
  obtain ⟨u1, q1, h1⟩ := e1
  simp only [List.cons.injEq, and_true] at q1
  subst q1
  obtain ⟨q2, _⟩ := e2
  simp only [List.cons.injEq, and_true] at q2
  subst q2
  exact ⟨⟨z0, z1, z2⟩, _, rfl, h1⟩
theorem Sl.load_at {p : Nat → Prop} {w : World} {A : Option Addr} {n c : Nat} {l : List DLoad} (h : Sl rLoad p w (.slice A n c) l) (j : Nat) (hj : j < l.length) :
    ∃ g o A1 d1, A = some ⟨g, o, none⟩ ∧ p g ∧ g < w.heap.size ∧ w.cell? ⟨g, o + j * 3, none⟩ = some (.int .i64 l[j].kind) ∧ w.cell? ⟨g, o + j * 3 + 1, none⟩ = some (.slice A1 l[j].params.length d1) ∧ w.cell? ⟨g, o + j * 3 + 2, none⟩ = some (.string l[j].body) ∧ Sl rPar p w (.slice A1 l[j].params.length d1) l[j].params := by
  obtain ⟨A', c', e, _, _, hr⟩ := h
  injection e with e1 e2 e3
  subst e1
  obtain ⟨g, o, cs, hA, hg, hlt, hok, hcell⟩ := hr j _ (List.getElem?_eq_getElem hj)
  have hok' : okLoad p w cs l[j] := hok
  obtain ⟨v1, rfl, h1⟩ := hok'
  obtain ⟨A1, d1, rfl, _⟩ := h1.form
  exact ⟨g, o, A1, d1, hA, hg, hlt, hcell 0 _ rfl, hcell 1 _ rfl, hcell 2 _ rfl, h1⟩
structure DState where
  id : ByteArray
  kind : Int
  par : Int
  kids : List Int
  init : Int
  entry : List Int
  exit : List Int
  trans : List Int
  data : List Int
  invokes : List Int
  done : DLoad
  deriving DecidableEq
instance : Inhabited DState := ⟨⟨⟨#[]⟩, 0, 0, [], 0, [], [], [], [], [], default⟩⟩
def okState (p : Nat → Prop) (w : World) (cs : List Value) (x : DState) : Prop :=
  ∃ v3 v5 v6 v7 v8 v9 v11, cs = [.string x.id, .int .i64 x.kind, .int .i64 x.par, v3, .int .i64 x.init, v5, v6, v7, v8, v9, .int .i64 x.done.kind, v11, .string x.done.body] ∧ Sl rInt p w v3 x.kids ∧ Sl rInt p w v5 x.entry ∧ Sl rInt p w v6 x.exit ∧ Sl rInt p w v7 x.trans ∧ Sl rInt p w v8 x.data ∧ Sl rInt p w v9 x.invokes ∧ Sl rPar p w v11 x.done.params
def rState : Rk DState where
  n := 13
  by_ := 232
  pos := by decide
  bpos := by decide
  ok := okState
  len := fun h => by
    obtain ⟨v3, v5, v6, v7, v8, v9, v11, rfl, h3, h5, h6, h7, h8, h9, h11⟩ := h
    rfl
  one := fun h u hu => by
    obtain ⟨v3, v5, v6, v7, v8, v9, v11, rfl, h3, h5, h6, h7, h8, h9, h11⟩ := h
    simp only [List.mem_cons, List.not_mem_nil, or_false] at hu
    rcases hu with rfl | rfl | rfl | rfl | rfl | rfl | rfl | rfl | rfl | rfl | rfl | rfl | rfl
    · rfl
    · rfl
    · rfl
    · exact h3.one
    · rfl
    · exact h5.one
    · exact h6.one
    · exact h7.one
    · exact h8.one
    · exact h9.one
    · rfl
    · exact h11.one
    · rfl
  fr := fun hp h => by
    obtain ⟨v3, v5, v6, v7, v8, v9, v11, rfl, h3, h5, h6, h7, h8, h9, h11⟩ := h
    exact ⟨v3, v5, v6, v7, v8, v9, v11, rfl, h3.fr hp, h5.fr hp, h6.fr hp, h7.fr hp, h8.fr hp, h9.fr hp, h11.fr hp⟩
theorem o50 : Opens Try.prog 50 rState := by
  intro H enc w base sp held fuel cs d ps h hw
  obtain ⟨xs, n, _, hx, hl, hlen, hf⟩ := DataW.trod_struct Try.underlying50 h
  have hl' : cs.length = 13 := hl.trans (by kernel_rfl)
  obtain ⟨y0, y1, y2, y3, y4, y5, y6, y7, y8, y9, y10, rfl⟩ := list11 (l := xs) hlen
  obtain ⟨c0, c1, c2, c3, c4, c5, c6, c7, c8, c9, c10, c11, c12, rfl⟩ := list13 hl'
  simp only [Prod.mk.injEq] at hx
  obtain ⟨rfl, rfl⟩ := hx
  have g0 : DataW.trod enc Try.prog w base sp held n 9 [c0] = some y0 := by
    have h : DataW.trod enc Try.prog w base sp held n 9 (([c0, c1, c2, c3, c4, c5, c6, c7, c8, c9, c10, c11, c12].drop 0).take (Try.prog.cellsOf 9)) = some y0 := hf 0 _ rfl
    rw [cells9] at h
    exact h
  obtain ⟨z0, e0⟩ := o9 (d := y0.1) (ps := y0.2) g0 (fun n hn => hw n (by
    simp only [DataW.weights, Try.underlying50]
    exact DataW.weights_mem_each (j := 0) rfl rfl n hn))
  have g1 : DataW.trod enc Try.prog w base sp held n 3 [c1] = some y1 := by
    have h : DataW.trod enc Try.prog w base sp held n 3 (([c0, c1, c2, c3, c4, c5, c6, c7, c8, c9, c10, c11, c12].drop 1).take (Try.prog.cellsOf 3)) = some y1 := hf 1 _ rfl
    rw [cells3] at h
    exact h
  obtain ⟨z1, e1⟩ := o3 (d := y1.1) (ps := y1.2) g1 (fun n hn => hw n (by
    simp only [DataW.weights, Try.underlying50]
    exact DataW.weights_mem_each (j := 1) rfl rfl n hn))
  have g2 : DataW.trod enc Try.prog w base sp held n 3 [c2] = some y2 := by
    have h : DataW.trod enc Try.prog w base sp held n 3 (([c0, c1, c2, c3, c4, c5, c6, c7, c8, c9, c10, c11, c12].drop 2).take (Try.prog.cellsOf 3)) = some y2 := hf 2 _ rfl
    rw [cells3] at h
    exact h
  obtain ⟨z2, e2⟩ := o3 (d := y2.1) (ps := y2.2) g2 (fun n hn => hw n (by
    simp only [DataW.weights, Try.underlying50]
    exact DataW.weights_mem_each (j := 2) rfl rfl n hn))
  have g3 : DataW.trod enc Try.prog w base sp held n 29 [c3] = some y3 := by
    have h : DataW.trod enc Try.prog w base sp held n 29 (([c0, c1, c2, c3, c4, c5, c6, c7, c8, c9, c10, c11, c12].drop 3).take (Try.prog.cellsOf 29)) = some y3 := hf 3 _ rfl
    rw [cells29] at h
    exact h
  obtain ⟨z3, e3⟩ := o29 (d := y3.1) (ps := y3.2) g3 (fun n hn => hw n (by
    simp only [DataW.weights, Try.underlying50]
    exact DataW.weights_mem_each (j := 3) rfl rfl n hn))
  have g4 : DataW.trod enc Try.prog w base sp held n 3 [c4] = some y4 := by
    have h : DataW.trod enc Try.prog w base sp held n 3 (([c0, c1, c2, c3, c4, c5, c6, c7, c8, c9, c10, c11, c12].drop 4).take (Try.prog.cellsOf 3)) = some y4 := hf 4 _ rfl
    rw [cells3] at h
    exact h
  obtain ⟨z4, e4⟩ := o3 (d := y4.1) (ps := y4.2) g4 (fun n hn => hw n (by
    simp only [DataW.weights, Try.underlying50]
    exact DataW.weights_mem_each (j := 4) rfl rfl n hn))
  have g5 : DataW.trod enc Try.prog w base sp held n 29 [c5] = some y5 := by
    have h : DataW.trod enc Try.prog w base sp held n 29 (([c0, c1, c2, c3, c4, c5, c6, c7, c8, c9, c10, c11, c12].drop 5).take (Try.prog.cellsOf 29)) = some y5 := hf 5 _ rfl
    rw [cells29] at h
    exact h
  obtain ⟨z5, e5⟩ := o29 (d := y5.1) (ps := y5.2) g5 (fun n hn => hw n (by
    simp only [DataW.weights, Try.underlying50]
    exact DataW.weights_mem_each (j := 5) rfl rfl n hn))
  have g6 : DataW.trod enc Try.prog w base sp held n 29 [c6] = some y6 := by
    have h : DataW.trod enc Try.prog w base sp held n 29 (([c0, c1, c2, c3, c4, c5, c6, c7, c8, c9, c10, c11, c12].drop 6).take (Try.prog.cellsOf 29)) = some y6 := hf 6 _ rfl
    rw [cells29] at h
    exact h
  obtain ⟨z6, e6⟩ := o29 (d := y6.1) (ps := y6.2) g6 (fun n hn => hw n (by
    simp only [DataW.weights, Try.underlying50]
    exact DataW.weights_mem_each (j := 6) rfl rfl n hn))
  have g7 : DataW.trod enc Try.prog w base sp held n 29 [c7] = some y7 := by
    have h : DataW.trod enc Try.prog w base sp held n 29 (([c0, c1, c2, c3, c4, c5, c6, c7, c8, c9, c10, c11, c12].drop 7).take (Try.prog.cellsOf 29)) = some y7 := hf 7 _ rfl
    rw [cells29] at h
    exact h
  obtain ⟨z7, e7⟩ := o29 (d := y7.1) (ps := y7.2) g7 (fun n hn => hw n (by
    simp only [DataW.weights, Try.underlying50]
    exact DataW.weights_mem_each (j := 7) rfl rfl n hn))
  have g8 : DataW.trod enc Try.prog w base sp held n 29 [c8] = some y8 := by
    have h : DataW.trod enc Try.prog w base sp held n 29 (([c0, c1, c2, c3, c4, c5, c6, c7, c8, c9, c10, c11, c12].drop 8).take (Try.prog.cellsOf 29)) = some y8 := hf 8 _ rfl
    rw [cells29] at h
    exact h
  obtain ⟨z8, e8⟩ := o29 (d := y8.1) (ps := y8.2) g8 (fun n hn => hw n (by
    simp only [DataW.weights, Try.underlying50]
    exact DataW.weights_mem_each (j := 8) rfl rfl n hn))
  have g9 : DataW.trod enc Try.prog w base sp held n 29 [c9] = some y9 := by
    have h : DataW.trod enc Try.prog w base sp held n 29 (([c0, c1, c2, c3, c4, c5, c6, c7, c8, c9, c10, c11, c12].drop 9).take (Try.prog.cellsOf 29)) = some y9 := hf 9 _ rfl
    rw [cells29] at h
    exact h
  obtain ⟨z9, e9⟩ := o29 (d := y9.1) (ps := y9.2) g9 (fun n hn => hw n (by
    simp only [DataW.weights, Try.underlying50]
    exact DataW.weights_mem_each (j := 9) rfl rfl n hn))
  have g10 : DataW.trod enc Try.prog w base sp held n 48 [c10, c11, c12] = some y10 := by
    have h : DataW.trod enc Try.prog w base sp held n 48 (([c0, c1, c2, c3, c4, c5, c6, c7, c8, c9, c10, c11, c12].drop 10).take (Try.prog.cellsOf 48)) = some y10 := hf 10 _ rfl
    rw [cells48] at h
    exact h
  obtain ⟨z10, e10⟩ := o48 (d := y10.1) (ps := y10.2) g10 (fun n hn => hw n (by
    simp only [DataW.weights, Try.underlying50]
    exact DataW.weights_mem_each (j := 10) rfl rfl n hn))
  obtain ⟨q0, _⟩ := e0
  simp only [List.cons.injEq, and_true] at q0
  subst q0
  have q1 : [c1] = [.int .i64 z1] := e1
  simp only [List.cons.injEq, and_true] at q1
  subst q1
  have q2 : [c2] = [.int .i64 z2] := e2
  simp only [List.cons.injEq, and_true] at q2
  subst q2
  obtain ⟨u3, q3, h3⟩ := e3
  simp only [List.cons.injEq, and_true] at q3
  subst q3
  have q4 : [c4] = [.int .i64 z4] := e4
  simp only [List.cons.injEq, and_true] at q4
  subst q4
  obtain ⟨u5, q5, h5⟩ := e5
  simp only [List.cons.injEq, and_true] at q5
  subst q5
  obtain ⟨u6, q6, h6⟩ := e6
  simp only [List.cons.injEq, and_true] at q6
  subst q6
  obtain ⟨u7, q7, h7⟩ := e7
  simp only [List.cons.injEq, and_true] at q7
  subst q7
  obtain ⟨u8, q8, h8⟩ := e8
  simp only [List.cons.injEq, and_true] at q8
  subst q8
  obtain ⟨u9, q9, h9⟩ := e9
  simp only [List.cons.injEq, and_true] at q9
  subst q9
  obtain ⟨u11, q10, h11⟩ := e10
  simp only [List.cons.injEq, and_true] at q10
  obtain ⟨rfl, rfl, rfl⟩ := q10
  exact ⟨⟨z0, z1, z2, z3, z4, z5, z6, z7, z8, z9, z10⟩, _, _, _, _, _, _, _, rfl, h3, h5, h6, h7, h8, h9, h11⟩
theorem Sl.state_at {p : Nat → Prop} {w : World} {A : Option Addr} {n c : Nat} {l : List DState} (h : Sl rState p w (.slice A n c) l) (j : Nat) (hj : j < l.length) :
    ∃ g o A3 d3 A5 d5 A6 d6 A7 d7 A8 d8 A9 d9 A11 d11, A = some ⟨g, o, none⟩ ∧ p g ∧ g < w.heap.size ∧ w.cell? ⟨g, o + j * 13, none⟩ = some (.string l[j].id) ∧ w.cell? ⟨g, o + j * 13 + 1, none⟩ = some (.int .i64 l[j].kind) ∧ w.cell? ⟨g, o + j * 13 + 2, none⟩ = some (.int .i64 l[j].par) ∧ w.cell? ⟨g, o + j * 13 + 3, none⟩ = some (.slice A3 l[j].kids.length d3) ∧ w.cell? ⟨g, o + j * 13 + 4, none⟩ = some (.int .i64 l[j].init) ∧ w.cell? ⟨g, o + j * 13 + 5, none⟩ = some (.slice A5 l[j].entry.length d5) ∧ w.cell? ⟨g, o + j * 13 + 6, none⟩ = some (.slice A6 l[j].exit.length d6) ∧ w.cell? ⟨g, o + j * 13 + 7, none⟩ = some (.slice A7 l[j].trans.length d7) ∧ w.cell? ⟨g, o + j * 13 + 8, none⟩ = some (.slice A8 l[j].data.length d8) ∧ w.cell? ⟨g, o + j * 13 + 9, none⟩ = some (.slice A9 l[j].invokes.length d9) ∧ w.cell? ⟨g, o + j * 13 + 10, none⟩ = some (.int .i64 l[j].done.kind) ∧ w.cell? ⟨g, o + j * 13 + 11, none⟩ = some (.slice A11 l[j].done.params.length d11) ∧ w.cell? ⟨g, o + j * 13 + 12, none⟩ = some (.string l[j].done.body) ∧ Sl rInt p w (.slice A3 l[j].kids.length d3) l[j].kids ∧ Sl rInt p w (.slice A5 l[j].entry.length d5) l[j].entry ∧ Sl rInt p w (.slice A6 l[j].exit.length d6) l[j].exit ∧ Sl rInt p w (.slice A7 l[j].trans.length d7) l[j].trans ∧ Sl rInt p w (.slice A8 l[j].data.length d8) l[j].data ∧ Sl rInt p w (.slice A9 l[j].invokes.length d9) l[j].invokes ∧ Sl rPar p w (.slice A11 l[j].done.params.length d11) l[j].done.params := by
  obtain ⟨A', c', e, _, _, hr⟩ := h
  injection e with e1 e2 e3
  subst e1
  obtain ⟨g, o, cs, hA, hg, hlt, hok, hcell⟩ := hr j _ (List.getElem?_eq_getElem hj)
  have hok' : okState p w cs l[j] := hok
  obtain ⟨v3, v5, v6, v7, v8, v9, v11, rfl, h3, h5, h6, h7, h8, h9, h11⟩ := hok'
  obtain ⟨A3, d3, rfl, _⟩ := h3.form
  obtain ⟨A5, d5, rfl, _⟩ := h5.form
  obtain ⟨A6, d6, rfl, _⟩ := h6.form
  obtain ⟨A7, d7, rfl, _⟩ := h7.form
  obtain ⟨A8, d8, rfl, _⟩ := h8.form
  obtain ⟨A9, d9, rfl, _⟩ := h9.form
  obtain ⟨A11, d11, rfl, _⟩ := h11.form
  exact ⟨g, o, A3, d3, A5, d5, A6, d6, A7, d7, A8, d8, A9, d9, A11, d11, hA, hg, hlt, hcell 0 _ rfl, hcell 1 _ rfl, hcell 2 _ rfl, hcell 3 _ rfl, hcell 4 _ rfl, hcell 5 _ rfl, hcell 6 _ rfl, hcell 7 _ rfl, hcell 8 _ rfl, hcell 9 _ rfl, hcell 10 _ rfl, hcell 11 _ rfl, hcell 12 _ rfl, h3, h5, h6, h7, h8, h9, h11⟩
theorem o22 : Opens Try.prog 22 (rSl rState) := opens_sl Try.underlying22 (by kernel_rfl) (by kernel_rfl) o50
structure DTrans where
  src : Int
  events : List ByteArray
  cond : ByteArray
  targets : List Int
  internal : Bool
  block : Int
  deriving DecidableEq
instance : Inhabited DTrans := ⟨⟨0, [], ⟨#[]⟩, [], false, 0⟩⟩
def okTrans (p : Nat → Prop) (w : World) (cs : List Value) (x : DTrans) : Prop :=
  ∃ v1 v3, cs = [.int .i64 x.src, v1, .string x.cond, v3, .bool x.internal, .int .i64 x.block] ∧ Sl rStr p w v1 x.events ∧ Sl rInt p w v3 x.targets
def rTrans : Rk DTrans where
  n := 6
  by_ := 88
  pos := by decide
  bpos := by decide
  ok := okTrans
  len := fun h => by
    obtain ⟨v1, v3, rfl, h1, h3⟩ := h
    rfl
  one := fun h u hu => by
    obtain ⟨v1, v3, rfl, h1, h3⟩ := h
    simp only [List.mem_cons, List.not_mem_nil, or_false] at hu
    rcases hu with rfl | rfl | rfl | rfl | rfl | rfl
    · rfl
    · exact h1.one
    · rfl
    · exact h3.one
    · rfl
    · rfl
  fr := fun hp h => by
    obtain ⟨v1, v3, rfl, h1, h3⟩ := h
    exact ⟨v1, v3, rfl, h1.fr hp, h3.fr hp⟩
theorem o45 : Opens Try.prog 45 rTrans := by
  intro H enc w base sp held fuel cs d ps h hw
  obtain ⟨xs, n, _, hx, hl, hlen, hf⟩ := DataW.trod_struct Try.underlying45 h
  have hl' : cs.length = 6 := hl.trans (by kernel_rfl)
  obtain ⟨y0, y1, y2, y3, y4, y5, rfl⟩ := list6 (l := xs) hlen
  obtain ⟨c0, c1, c2, c3, c4, c5, rfl⟩ := list6 hl'
  simp only [Prod.mk.injEq] at hx
  obtain ⟨rfl, rfl⟩ := hx
  have g0 : DataW.trod enc Try.prog w base sp held n 3 [c0] = some y0 := by
    have h : DataW.trod enc Try.prog w base sp held n 3 (([c0, c1, c2, c3, c4, c5].drop 0).take (Try.prog.cellsOf 3)) = some y0 := hf 0 _ rfl
    rw [cells3] at h
    exact h
  obtain ⟨z0, e0⟩ := o3 (d := y0.1) (ps := y0.2) g0 (fun n hn => hw n (by
    simp only [DataW.weights, Try.underlying45]
    exact DataW.weights_mem_each (j := 0) rfl rfl n hn))
  have g1 : DataW.trod enc Try.prog w base sp held n 43 [c1] = some y1 := by
    have h : DataW.trod enc Try.prog w base sp held n 43 (([c0, c1, c2, c3, c4, c5].drop 1).take (Try.prog.cellsOf 43)) = some y1 := hf 1 _ rfl
    rw [cells43] at h
    exact h
  obtain ⟨z1, e1⟩ := o43 (d := y1.1) (ps := y1.2) g1 (fun n hn => hw n (by
    simp only [DataW.weights, Try.underlying45]
    exact DataW.weights_mem_each (j := 1) rfl rfl n hn))
  have g2 : DataW.trod enc Try.prog w base sp held n 9 [c2] = some y2 := by
    have h : DataW.trod enc Try.prog w base sp held n 9 (([c0, c1, c2, c3, c4, c5].drop 2).take (Try.prog.cellsOf 9)) = some y2 := hf 2 _ rfl
    rw [cells9] at h
    exact h
  obtain ⟨z2, e2⟩ := o9 (d := y2.1) (ps := y2.2) g2 (fun n hn => hw n (by
    simp only [DataW.weights, Try.underlying45]
    exact DataW.weights_mem_each (j := 2) rfl rfl n hn))
  have g3 : DataW.trod enc Try.prog w base sp held n 29 [c3] = some y3 := by
    have h : DataW.trod enc Try.prog w base sp held n 29 (([c0, c1, c2, c3, c4, c5].drop 3).take (Try.prog.cellsOf 29)) = some y3 := hf 3 _ rfl
    rw [cells29] at h
    exact h
  obtain ⟨z3, e3⟩ := o29 (d := y3.1) (ps := y3.2) g3 (fun n hn => hw n (by
    simp only [DataW.weights, Try.underlying45]
    exact DataW.weights_mem_each (j := 3) rfl rfl n hn))
  have g4 : DataW.trod enc Try.prog w base sp held n 4 [c4] = some y4 := by
    have h : DataW.trod enc Try.prog w base sp held n 4 (([c0, c1, c2, c3, c4, c5].drop 4).take (Try.prog.cellsOf 4)) = some y4 := hf 4 _ rfl
    rw [cells4] at h
    exact h
  obtain ⟨z4, e4⟩ := o4 (d := y4.1) (ps := y4.2) g4 (fun n hn => hw n (by
    simp only [DataW.weights, Try.underlying45]
    exact DataW.weights_mem_each (j := 4) rfl rfl n hn))
  have g5 : DataW.trod enc Try.prog w base sp held n 3 [c5] = some y5 := by
    have h : DataW.trod enc Try.prog w base sp held n 3 (([c0, c1, c2, c3, c4, c5].drop 5).take (Try.prog.cellsOf 3)) = some y5 := hf 5 _ rfl
    rw [cells3] at h
    exact h
  obtain ⟨z5, e5⟩ := o3 (d := y5.1) (ps := y5.2) g5 (fun n hn => hw n (by
    simp only [DataW.weights, Try.underlying45]
    exact DataW.weights_mem_each (j := 5) rfl rfl n hn))
  have q0 : [c0] = [.int .i64 z0] := e0
  simp only [List.cons.injEq, and_true] at q0
  subst q0
  obtain ⟨u1, q1, h1⟩ := e1
  simp only [List.cons.injEq, and_true] at q1
  subst q1
  obtain ⟨q2, _⟩ := e2
  simp only [List.cons.injEq, and_true] at q2
  subst q2
  obtain ⟨u3, q3, h3⟩ := e3
  simp only [List.cons.injEq, and_true] at q3
  subst q3
  have q4 : [c4] = [.bool z4] := e4
  simp only [List.cons.injEq, and_true] at q4
  subst q4
  have q5 : [c5] = [.int .i64 z5] := e5
  simp only [List.cons.injEq, and_true] at q5
  subst q5
  exact ⟨⟨z0, z1, z2, z3, z4, z5⟩, _, _, rfl, h1, h3⟩
theorem Sl.trans_at {p : Nat → Prop} {w : World} {A : Option Addr} {n c : Nat} {l : List DTrans} (h : Sl rTrans p w (.slice A n c) l) (j : Nat) (hj : j < l.length) :
    ∃ g o A1 d1 A3 d3, A = some ⟨g, o, none⟩ ∧ p g ∧ g < w.heap.size ∧ w.cell? ⟨g, o + j * 6, none⟩ = some (.int .i64 l[j].src) ∧ w.cell? ⟨g, o + j * 6 + 1, none⟩ = some (.slice A1 l[j].events.length d1) ∧ w.cell? ⟨g, o + j * 6 + 2, none⟩ = some (.string l[j].cond) ∧ w.cell? ⟨g, o + j * 6 + 3, none⟩ = some (.slice A3 l[j].targets.length d3) ∧ w.cell? ⟨g, o + j * 6 + 4, none⟩ = some (.bool l[j].internal) ∧ w.cell? ⟨g, o + j * 6 + 5, none⟩ = some (.int .i64 l[j].block) ∧ Sl rStr p w (.slice A1 l[j].events.length d1) l[j].events ∧ Sl rInt p w (.slice A3 l[j].targets.length d3) l[j].targets := by
  obtain ⟨A', c', e, _, _, hr⟩ := h
  injection e with e1 e2 e3
  subst e1
  obtain ⟨g, o, cs, hA, hg, hlt, hok, hcell⟩ := hr j _ (List.getElem?_eq_getElem hj)
  have hok' : okTrans p w cs l[j] := hok
  obtain ⟨v1, v3, rfl, h1, h3⟩ := hok'
  obtain ⟨A1, d1, rfl, _⟩ := h1.form
  obtain ⟨A3, d3, rfl, _⟩ := h3.form
  exact ⟨g, o, A1, d1, A3, d3, hA, hg, hlt, hcell 0 _ rfl, hcell 1 _ rfl, hcell 2 _ rfl, hcell 3 _ rfl, hcell 4 _ rfl, hcell 5 _ rfl, h1, h3⟩
theorem o23 : Opens Try.prog 23 (rSl rTrans) := opens_sl Try.underlying23 (by kernel_rfl) (by kernel_rfl) o45
structure DAct where
  kind : Int
  event : ByteArray
  eventExpr : ByteArray
  target : ByteArray
  targetExpr : ByteArray
  type_ : ByteArray
  id : ByteArray
  place : ByteArray
  delay : Int
  delayExpr : ByteArray
  expr : ByteArray
  label : ByteArray
  item : ByteArray
  index : ByteArray
  conds : List ByteArray
  blocks : List Int
  load : DLoad
  deriving DecidableEq
instance : Inhabited DAct := ⟨⟨0, ⟨#[]⟩, ⟨#[]⟩, ⟨#[]⟩, ⟨#[]⟩, ⟨#[]⟩, ⟨#[]⟩, ⟨#[]⟩, 0, ⟨#[]⟩, ⟨#[]⟩, ⟨#[]⟩, ⟨#[]⟩, ⟨#[]⟩, [], [], default⟩⟩
def okAct (p : Nat → Prop) (w : World) (cs : List Value) (x : DAct) : Prop :=
  ∃ v14 v15 v17, cs = [.int .i64 x.kind, .string x.event, .string x.eventExpr, .string x.target, .string x.targetExpr, .string x.type_, .string x.id, .string x.place, .int .i64 x.delay, .string x.delayExpr, .string x.expr, .string x.label, .string x.item, .string x.index, v14, v15, .int .i64 x.load.kind, v17, .string x.load.body] ∧ Sl rStr p w v14 x.conds ∧ Sl rInt p w v15 x.blocks ∧ Sl rPar p w v17 x.load.params
def rAct : Rk DAct where
  n := 19
  by_ := 304
  pos := by decide
  bpos := by decide
  ok := okAct
  len := fun h => by
    obtain ⟨v14, v15, v17, rfl, h14, h15, h17⟩ := h
    rfl
  one := fun h u hu => by
    obtain ⟨v14, v15, v17, rfl, h14, h15, h17⟩ := h
    simp only [List.mem_cons, List.not_mem_nil, or_false] at hu
    rcases hu with rfl | rfl | rfl | rfl | rfl | rfl | rfl | rfl | rfl | rfl | rfl | rfl | rfl | rfl | rfl | rfl | rfl | rfl | rfl
    · rfl
    · rfl
    · rfl
    · rfl
    · rfl
    · rfl
    · rfl
    · rfl
    · rfl
    · rfl
    · rfl
    · rfl
    · rfl
    · rfl
    · exact h14.one
    · exact h15.one
    · rfl
    · exact h17.one
    · rfl
  fr := fun hp h => by
    obtain ⟨v14, v15, v17, rfl, h14, h15, h17⟩ := h
    exact ⟨v14, v15, v17, rfl, h14.fr hp, h15.fr hp, h17.fr hp⟩
theorem o113 : Opens Try.prog 113 rAct := by
  intro H enc w base sp held fuel cs d ps h hw
  obtain ⟨xs, n, _, hx, hl, hlen, hf⟩ := DataW.trod_struct Try.underlying113 h
  have hl' : cs.length = 19 := hl.trans (by kernel_rfl)
  obtain ⟨y0, y1, y2, y3, y4, y5, y6, y7, y8, y9, y10, y11, y12, y13, y14, y15, y16, rfl⟩ := list17 (l := xs) hlen
  obtain ⟨c0, c1, c2, c3, c4, c5, c6, c7, c8, c9, c10, c11, c12, c13, c14, c15, c16, c17, c18, rfl⟩ := list19 hl'
  simp only [Prod.mk.injEq] at hx
  obtain ⟨rfl, rfl⟩ := hx
  have g0 : DataW.trod enc Try.prog w base sp held n 3 [c0] = some y0 := by
    have h : DataW.trod enc Try.prog w base sp held n 3 (([c0, c1, c2, c3, c4, c5, c6, c7, c8, c9, c10, c11, c12, c13, c14, c15, c16, c17, c18].drop 0).take (Try.prog.cellsOf 3)) = some y0 := hf 0 _ rfl
    rw [cells3] at h
    exact h
  obtain ⟨z0, e0⟩ := o3 (d := y0.1) (ps := y0.2) g0 (fun n hn => hw n (by
    simp only [DataW.weights, Try.underlying113]
    exact DataW.weights_mem_each (j := 0) rfl rfl n hn))
  have g1 : DataW.trod enc Try.prog w base sp held n 9 [c1] = some y1 := by
    have h : DataW.trod enc Try.prog w base sp held n 9 (([c0, c1, c2, c3, c4, c5, c6, c7, c8, c9, c10, c11, c12, c13, c14, c15, c16, c17, c18].drop 1).take (Try.prog.cellsOf 9)) = some y1 := hf 1 _ rfl
    rw [cells9] at h
    exact h
  obtain ⟨z1, e1⟩ := o9 (d := y1.1) (ps := y1.2) g1 (fun n hn => hw n (by
    simp only [DataW.weights, Try.underlying113]
    exact DataW.weights_mem_each (j := 1) rfl rfl n hn))
  have g2 : DataW.trod enc Try.prog w base sp held n 9 [c2] = some y2 := by
    have h : DataW.trod enc Try.prog w base sp held n 9 (([c0, c1, c2, c3, c4, c5, c6, c7, c8, c9, c10, c11, c12, c13, c14, c15, c16, c17, c18].drop 2).take (Try.prog.cellsOf 9)) = some y2 := hf 2 _ rfl
    rw [cells9] at h
    exact h
  obtain ⟨z2, e2⟩ := o9 (d := y2.1) (ps := y2.2) g2 (fun n hn => hw n (by
    simp only [DataW.weights, Try.underlying113]
    exact DataW.weights_mem_each (j := 2) rfl rfl n hn))
  have g3 : DataW.trod enc Try.prog w base sp held n 9 [c3] = some y3 := by
    have h : DataW.trod enc Try.prog w base sp held n 9 (([c0, c1, c2, c3, c4, c5, c6, c7, c8, c9, c10, c11, c12, c13, c14, c15, c16, c17, c18].drop 3).take (Try.prog.cellsOf 9)) = some y3 := hf 3 _ rfl
    rw [cells9] at h
    exact h
  obtain ⟨z3, e3⟩ := o9 (d := y3.1) (ps := y3.2) g3 (fun n hn => hw n (by
    simp only [DataW.weights, Try.underlying113]
    exact DataW.weights_mem_each (j := 3) rfl rfl n hn))
  have g4 : DataW.trod enc Try.prog w base sp held n 9 [c4] = some y4 := by
    have h : DataW.trod enc Try.prog w base sp held n 9 (([c0, c1, c2, c3, c4, c5, c6, c7, c8, c9, c10, c11, c12, c13, c14, c15, c16, c17, c18].drop 4).take (Try.prog.cellsOf 9)) = some y4 := hf 4 _ rfl
    rw [cells9] at h
    exact h
  obtain ⟨z4, e4⟩ := o9 (d := y4.1) (ps := y4.2) g4 (fun n hn => hw n (by
    simp only [DataW.weights, Try.underlying113]
    exact DataW.weights_mem_each (j := 4) rfl rfl n hn))
  have g5 : DataW.trod enc Try.prog w base sp held n 9 [c5] = some y5 := by
    have h : DataW.trod enc Try.prog w base sp held n 9 (([c0, c1, c2, c3, c4, c5, c6, c7, c8, c9, c10, c11, c12, c13, c14, c15, c16, c17, c18].drop 5).take (Try.prog.cellsOf 9)) = some y5 := hf 5 _ rfl
    rw [cells9] at h
    exact h
  obtain ⟨z5, e5⟩ := o9 (d := y5.1) (ps := y5.2) g5 (fun n hn => hw n (by
    simp only [DataW.weights, Try.underlying113]
    exact DataW.weights_mem_each (j := 5) rfl rfl n hn))
  have g6 : DataW.trod enc Try.prog w base sp held n 9 [c6] = some y6 := by
    have h : DataW.trod enc Try.prog w base sp held n 9 (([c0, c1, c2, c3, c4, c5, c6, c7, c8, c9, c10, c11, c12, c13, c14, c15, c16, c17, c18].drop 6).take (Try.prog.cellsOf 9)) = some y6 := hf 6 _ rfl
    rw [cells9] at h
    exact h
  obtain ⟨z6, e6⟩ := o9 (d := y6.1) (ps := y6.2) g6 (fun n hn => hw n (by
    simp only [DataW.weights, Try.underlying113]
    exact DataW.weights_mem_each (j := 6) rfl rfl n hn))
  have g7 : DataW.trod enc Try.prog w base sp held n 9 [c7] = some y7 := by
    have h : DataW.trod enc Try.prog w base sp held n 9 (([c0, c1, c2, c3, c4, c5, c6, c7, c8, c9, c10, c11, c12, c13, c14, c15, c16, c17, c18].drop 7).take (Try.prog.cellsOf 9)) = some y7 := hf 7 _ rfl
    rw [cells9] at h
    exact h
  obtain ⟨z7, e7⟩ := o9 (d := y7.1) (ps := y7.2) g7 (fun n hn => hw n (by
    simp only [DataW.weights, Try.underlying113]
    exact DataW.weights_mem_each (j := 7) rfl rfl n hn))
  have g8 : DataW.trod enc Try.prog w base sp held n 3 [c8] = some y8 := by
    have h : DataW.trod enc Try.prog w base sp held n 3 (([c0, c1, c2, c3, c4, c5, c6, c7, c8, c9, c10, c11, c12, c13, c14, c15, c16, c17, c18].drop 8).take (Try.prog.cellsOf 3)) = some y8 := hf 8 _ rfl
    rw [cells3] at h
    exact h
  obtain ⟨z8, e8⟩ := o3 (d := y8.1) (ps := y8.2) g8 (fun n hn => hw n (by
    simp only [DataW.weights, Try.underlying113]
    exact DataW.weights_mem_each (j := 8) rfl rfl n hn))
  have g9 : DataW.trod enc Try.prog w base sp held n 9 [c9] = some y9 := by
    have h : DataW.trod enc Try.prog w base sp held n 9 (([c0, c1, c2, c3, c4, c5, c6, c7, c8, c9, c10, c11, c12, c13, c14, c15, c16, c17, c18].drop 9).take (Try.prog.cellsOf 9)) = some y9 := hf 9 _ rfl
    rw [cells9] at h
    exact h
  obtain ⟨z9, e9⟩ := o9 (d := y9.1) (ps := y9.2) g9 (fun n hn => hw n (by
    simp only [DataW.weights, Try.underlying113]
    exact DataW.weights_mem_each (j := 9) rfl rfl n hn))
  have g10 : DataW.trod enc Try.prog w base sp held n 9 [c10] = some y10 := by
    have h : DataW.trod enc Try.prog w base sp held n 9 (([c0, c1, c2, c3, c4, c5, c6, c7, c8, c9, c10, c11, c12, c13, c14, c15, c16, c17, c18].drop 10).take (Try.prog.cellsOf 9)) = some y10 := hf 10 _ rfl
    rw [cells9] at h
    exact h
  obtain ⟨z10, e10⟩ := o9 (d := y10.1) (ps := y10.2) g10 (fun n hn => hw n (by
    simp only [DataW.weights, Try.underlying113]
    exact DataW.weights_mem_each (j := 10) rfl rfl n hn))
  have g11 : DataW.trod enc Try.prog w base sp held n 9 [c11] = some y11 := by
    have h : DataW.trod enc Try.prog w base sp held n 9 (([c0, c1, c2, c3, c4, c5, c6, c7, c8, c9, c10, c11, c12, c13, c14, c15, c16, c17, c18].drop 11).take (Try.prog.cellsOf 9)) = some y11 := hf 11 _ rfl
    rw [cells9] at h
    exact h
  obtain ⟨z11, e11⟩ := o9 (d := y11.1) (ps := y11.2) g11 (fun n hn => hw n (by
    simp only [DataW.weights, Try.underlying113]
    exact DataW.weights_mem_each (j := 11) rfl rfl n hn))
  have g12 : DataW.trod enc Try.prog w base sp held n 9 [c12] = some y12 := by
    have h : DataW.trod enc Try.prog w base sp held n 9 (([c0, c1, c2, c3, c4, c5, c6, c7, c8, c9, c10, c11, c12, c13, c14, c15, c16, c17, c18].drop 12).take (Try.prog.cellsOf 9)) = some y12 := hf 12 _ rfl
    rw [cells9] at h
    exact h
  obtain ⟨z12, e12⟩ := o9 (d := y12.1) (ps := y12.2) g12 (fun n hn => hw n (by
    simp only [DataW.weights, Try.underlying113]
    exact DataW.weights_mem_each (j := 12) rfl rfl n hn))
  have g13 : DataW.trod enc Try.prog w base sp held n 9 [c13] = some y13 := by
    have h : DataW.trod enc Try.prog w base sp held n 9 (([c0, c1, c2, c3, c4, c5, c6, c7, c8, c9, c10, c11, c12, c13, c14, c15, c16, c17, c18].drop 13).take (Try.prog.cellsOf 9)) = some y13 := hf 13 _ rfl
    rw [cells9] at h
    exact h
  obtain ⟨z13, e13⟩ := o9 (d := y13.1) (ps := y13.2) g13 (fun n hn => hw n (by
    simp only [DataW.weights, Try.underlying113]
    exact DataW.weights_mem_each (j := 13) rfl rfl n hn))
  have g14 : DataW.trod enc Try.prog w base sp held n 43 [c14] = some y14 := by
    have h : DataW.trod enc Try.prog w base sp held n 43 (([c0, c1, c2, c3, c4, c5, c6, c7, c8, c9, c10, c11, c12, c13, c14, c15, c16, c17, c18].drop 14).take (Try.prog.cellsOf 43)) = some y14 := hf 14 _ rfl
    rw [cells43] at h
    exact h
  obtain ⟨z14, e14⟩ := o43 (d := y14.1) (ps := y14.2) g14 (fun n hn => hw n (by
    simp only [DataW.weights, Try.underlying113]
    exact DataW.weights_mem_each (j := 14) rfl rfl n hn))
  have g15 : DataW.trod enc Try.prog w base sp held n 29 [c15] = some y15 := by
    have h : DataW.trod enc Try.prog w base sp held n 29 (([c0, c1, c2, c3, c4, c5, c6, c7, c8, c9, c10, c11, c12, c13, c14, c15, c16, c17, c18].drop 15).take (Try.prog.cellsOf 29)) = some y15 := hf 15 _ rfl
    rw [cells29] at h
    exact h
  obtain ⟨z15, e15⟩ := o29 (d := y15.1) (ps := y15.2) g15 (fun n hn => hw n (by
    simp only [DataW.weights, Try.underlying113]
    exact DataW.weights_mem_each (j := 15) rfl rfl n hn))
  have g16 : DataW.trod enc Try.prog w base sp held n 48 [c16, c17, c18] = some y16 := by
    have h : DataW.trod enc Try.prog w base sp held n 48 (([c0, c1, c2, c3, c4, c5, c6, c7, c8, c9, c10, c11, c12, c13, c14, c15, c16, c17, c18].drop 16).take (Try.prog.cellsOf 48)) = some y16 := hf 16 _ rfl
    rw [cells48] at h
    exact h
  obtain ⟨z16, e16⟩ := o48 (d := y16.1) (ps := y16.2) g16 (fun n hn => hw n (by
    simp only [DataW.weights, Try.underlying113]
    exact DataW.weights_mem_each (j := 16) rfl rfl n hn))
  have q0 : [c0] = [.int .i64 z0] := e0
  simp only [List.cons.injEq, and_true] at q0
  subst q0
  obtain ⟨q1, _⟩ := e1
  simp only [List.cons.injEq, and_true] at q1
  subst q1
  obtain ⟨q2, _⟩ := e2
  simp only [List.cons.injEq, and_true] at q2
  subst q2
  obtain ⟨q3, _⟩ := e3
  simp only [List.cons.injEq, and_true] at q3
  subst q3
  obtain ⟨q4, _⟩ := e4
  simp only [List.cons.injEq, and_true] at q4
  subst q4
  obtain ⟨q5, _⟩ := e5
  simp only [List.cons.injEq, and_true] at q5
  subst q5
  obtain ⟨q6, _⟩ := e6
  simp only [List.cons.injEq, and_true] at q6
  subst q6
  obtain ⟨q7, _⟩ := e7
  simp only [List.cons.injEq, and_true] at q7
  subst q7
  have q8 : [c8] = [.int .i64 z8] := e8
  simp only [List.cons.injEq, and_true] at q8
  subst q8
  obtain ⟨q9, _⟩ := e9
  simp only [List.cons.injEq, and_true] at q9
  subst q9
  obtain ⟨q10, _⟩ := e10
  simp only [List.cons.injEq, and_true] at q10
  subst q10
  obtain ⟨q11, _⟩ := e11
  simp only [List.cons.injEq, and_true] at q11
  subst q11
  obtain ⟨q12, _⟩ := e12
  simp only [List.cons.injEq, and_true] at q12
  subst q12
  obtain ⟨q13, _⟩ := e13
  simp only [List.cons.injEq, and_true] at q13
  subst q13
  obtain ⟨u14, q14, h14⟩ := e14
  simp only [List.cons.injEq, and_true] at q14
  subst q14
  obtain ⟨u15, q15, h15⟩ := e15
  simp only [List.cons.injEq, and_true] at q15
  subst q15
  obtain ⟨u17, q16, h17⟩ := e16
  simp only [List.cons.injEq, and_true] at q16
  obtain ⟨rfl, rfl, rfl⟩ := q16
  exact ⟨⟨z0, z1, z2, z3, z4, z5, z6, z7, z8, z9, z10, z11, z12, z13, z14, z15, z16⟩, _, _, _, rfl, h14, h15, h17⟩
theorem Sl.act_at {p : Nat → Prop} {w : World} {A : Option Addr} {n c : Nat} {l : List DAct} (h : Sl rAct p w (.slice A n c) l) (j : Nat) (hj : j < l.length) :
    ∃ g o A14 d14 A15 d15 A17 d17, A = some ⟨g, o, none⟩ ∧ p g ∧ g < w.heap.size ∧ w.cell? ⟨g, o + j * 19, none⟩ = some (.int .i64 l[j].kind) ∧ w.cell? ⟨g, o + j * 19 + 1, none⟩ = some (.string l[j].event) ∧ w.cell? ⟨g, o + j * 19 + 2, none⟩ = some (.string l[j].eventExpr) ∧ w.cell? ⟨g, o + j * 19 + 3, none⟩ = some (.string l[j].target) ∧ w.cell? ⟨g, o + j * 19 + 4, none⟩ = some (.string l[j].targetExpr) ∧ w.cell? ⟨g, o + j * 19 + 5, none⟩ = some (.string l[j].type_) ∧ w.cell? ⟨g, o + j * 19 + 6, none⟩ = some (.string l[j].id) ∧ w.cell? ⟨g, o + j * 19 + 7, none⟩ = some (.string l[j].place) ∧ w.cell? ⟨g, o + j * 19 + 8, none⟩ = some (.int .i64 l[j].delay) ∧ w.cell? ⟨g, o + j * 19 + 9, none⟩ = some (.string l[j].delayExpr) ∧ w.cell? ⟨g, o + j * 19 + 10, none⟩ = some (.string l[j].expr) ∧ w.cell? ⟨g, o + j * 19 + 11, none⟩ = some (.string l[j].label) ∧ w.cell? ⟨g, o + j * 19 + 12, none⟩ = some (.string l[j].item) ∧ w.cell? ⟨g, o + j * 19 + 13, none⟩ = some (.string l[j].index) ∧ w.cell? ⟨g, o + j * 19 + 14, none⟩ = some (.slice A14 l[j].conds.length d14) ∧ w.cell? ⟨g, o + j * 19 + 15, none⟩ = some (.slice A15 l[j].blocks.length d15) ∧ w.cell? ⟨g, o + j * 19 + 16, none⟩ = some (.int .i64 l[j].load.kind) ∧ w.cell? ⟨g, o + j * 19 + 17, none⟩ = some (.slice A17 l[j].load.params.length d17) ∧ w.cell? ⟨g, o + j * 19 + 18, none⟩ = some (.string l[j].load.body) ∧ Sl rStr p w (.slice A14 l[j].conds.length d14) l[j].conds ∧ Sl rInt p w (.slice A15 l[j].blocks.length d15) l[j].blocks ∧ Sl rPar p w (.slice A17 l[j].load.params.length d17) l[j].load.params := by
  obtain ⟨A', c', e, _, _, hr⟩ := h
  injection e with e1 e2 e3
  subst e1
  obtain ⟨g, o, cs, hA, hg, hlt, hok, hcell⟩ := hr j _ (List.getElem?_eq_getElem hj)
  have hok' : okAct p w cs l[j] := hok
  obtain ⟨v14, v15, v17, rfl, h14, h15, h17⟩ := hok'
  obtain ⟨A14, d14, rfl, _⟩ := h14.form
  obtain ⟨A15, d15, rfl, _⟩ := h15.form
  obtain ⟨A17, d17, rfl, _⟩ := h17.form
  exact ⟨g, o, A14, d14, A15, d15, A17, d17, hA, hg, hlt, hcell 0 _ rfl, hcell 1 _ rfl, hcell 2 _ rfl, hcell 3 _ rfl, hcell 4 _ rfl, hcell 5 _ rfl, hcell 6 _ rfl, hcell 7 _ rfl, hcell 8 _ rfl, hcell 9 _ rfl, hcell 10 _ rfl, hcell 11 _ rfl, hcell 12 _ rfl, hcell 13 _ rfl, hcell 14 _ rfl, hcell 15 _ rfl, hcell 16 _ rfl, hcell 17 _ rfl, hcell 18 _ rfl, h14, h15, h17⟩
theorem o108 : Opens Try.prog 108 (rSl rAct) := opens_sl Try.underlying108 (by kernel_rfl) (by kernel_rfl) o113
structure DBlock where
  acts : List DAct
  deriving DecidableEq
instance : Inhabited DBlock := ⟨⟨[]⟩⟩
def okBlock (p : Nat → Prop) (w : World) (cs : List Value) (x : DBlock) : Prop :=
  ∃ v0, cs = [v0] ∧ Sl rAct p w v0 x.acts
def rBlock : Rk DBlock where
  n := 1
  by_ := 24
  pos := by decide
  bpos := by decide
  ok := okBlock
  len := fun h => by
    obtain ⟨v0, rfl, h0⟩ := h
    rfl
  one := fun h u hu => by
    obtain ⟨v0, rfl, h0⟩ := h
    obtain rfl := List.mem_singleton.1 hu
    exact h0.one
  fr := fun hp h => by
    obtain ⟨v0, rfl, h0⟩ := h
    exact ⟨v0, rfl, h0.fr hp⟩
theorem o110 : Opens Try.prog 110 rBlock := by
  intro H enc w base sp held fuel cs d ps h hw
  obtain ⟨xs, n, _, hx, hl, hlen, hf⟩ := DataW.trod_struct Try.underlying110 h
  have hl' : cs.length = 1 := hl.trans (by kernel_rfl)
  obtain ⟨y0, rfl⟩ := list1 (l := xs) hlen
  obtain ⟨c0, rfl⟩ := list1 hl'
  simp only [Prod.mk.injEq] at hx
  obtain ⟨rfl, rfl⟩ := hx
  have g0 : DataW.trod enc Try.prog w base sp held n 108 [c0] = some y0 := by
    have h : DataW.trod enc Try.prog w base sp held n 108 (([c0].drop 0).take (Try.prog.cellsOf 108)) = some y0 := hf 0 _ rfl
    rw [cells108] at h
    exact h
  obtain ⟨z0, e0⟩ := o108 (d := y0.1) (ps := y0.2) g0 (fun n hn => hw n (by
    simp only [DataW.weights, Try.underlying110]
    exact DataW.weights_mem_each (j := 0) rfl rfl n hn))
  obtain ⟨u0, q0, h0⟩ := e0
  simp only [List.cons.injEq, and_true] at q0
  subst q0
  exact ⟨⟨z0⟩, _, rfl, h0⟩
theorem Sl.block_at {p : Nat → Prop} {w : World} {A : Option Addr} {n c : Nat} {l : List DBlock} (h : Sl rBlock p w (.slice A n c) l) (j : Nat) (hj : j < l.length) :
    ∃ g o A0 d0, A = some ⟨g, o, none⟩ ∧ p g ∧ g < w.heap.size ∧ w.cell? ⟨g, o + j * 1, none⟩ = some (.slice A0 l[j].acts.length d0) ∧ Sl rAct p w (.slice A0 l[j].acts.length d0) l[j].acts := by
  obtain ⟨A', c', e, _, _, hr⟩ := h
  injection e with e1 e2 e3
  subst e1
  obtain ⟨g, o, cs, hA, hg, hlt, hok, hcell⟩ := hr j _ (List.getElem?_eq_getElem hj)
  have hok' : okBlock p w cs l[j] := hok
  obtain ⟨v0, rfl, h0⟩ := hok'
  obtain ⟨A0, d0, rfl, _⟩ := h0.form
  exact ⟨g, o, A0, d0, hA, hg, hlt, hcell 0 _ rfl, h0⟩
theorem o24 : Opens Try.prog 24 (rSl rBlock) := opens_sl Try.underlying24 (by kernel_rfl) (by kernel_rfl) o110
structure DDatum where
  id : ByteArray
  expr : ByteArray
  text : ByteArray
  deriving DecidableEq
instance : Inhabited DDatum := ⟨⟨⟨#[]⟩, ⟨#[]⟩, ⟨#[]⟩⟩⟩
def okDatum (p : Nat → Prop) (w : World) (cs : List Value) (x : DDatum) : Prop :=
  cs = [.string x.id, .string x.expr, .string x.text]
def rDatum : Rk DDatum where
  n := 3
  by_ := 48
  pos := by decide
  bpos := by decide
  ok := okDatum
  len := fun h => by
    obtain rfl := h
    rfl
  one := fun h u hu => by
    obtain rfl := h
    simp only [List.mem_cons, List.not_mem_nil, or_false] at hu
    rcases hu with rfl | rfl | rfl
    · rfl
    · rfl
    · rfl
  fr := fun hp h => by
    obtain rfl := h
    exact rfl
theorem o115 : Opens Try.prog 115 rDatum := by
  intro H enc w base sp held fuel cs d ps h hw
  obtain ⟨xs, n, _, hx, hl, hlen, hf⟩ := DataW.trod_struct Try.underlying115 h
  have hl' : cs.length = 3 := hl.trans (by kernel_rfl)
  obtain ⟨y0, y1, y2, rfl⟩ := list3 (l := xs) hlen
  obtain ⟨c0, c1, c2, rfl⟩ := list3 hl'
  simp only [Prod.mk.injEq] at hx
  obtain ⟨rfl, rfl⟩ := hx
  have g0 : DataW.trod enc Try.prog w base sp held n 9 [c0] = some y0 := by
    have h : DataW.trod enc Try.prog w base sp held n 9 (([c0, c1, c2].drop 0).take (Try.prog.cellsOf 9)) = some y0 := hf 0 _ rfl
    rw [cells9] at h
    exact h
  obtain ⟨z0, e0⟩ := o9 (d := y0.1) (ps := y0.2) g0 (fun n hn => hw n (by
    simp only [DataW.weights, Try.underlying115]
    exact DataW.weights_mem_each (j := 0) rfl rfl n hn))
  have g1 : DataW.trod enc Try.prog w base sp held n 9 [c1] = some y1 := by
    have h : DataW.trod enc Try.prog w base sp held n 9 (([c0, c1, c2].drop 1).take (Try.prog.cellsOf 9)) = some y1 := hf 1 _ rfl
    rw [cells9] at h
    exact h
  obtain ⟨z1, e1⟩ := o9 (d := y1.1) (ps := y1.2) g1 (fun n hn => hw n (by
    simp only [DataW.weights, Try.underlying115]
    exact DataW.weights_mem_each (j := 1) rfl rfl n hn))
  have g2 : DataW.trod enc Try.prog w base sp held n 9 [c2] = some y2 := by
    have h : DataW.trod enc Try.prog w base sp held n 9 (([c0, c1, c2].drop 2).take (Try.prog.cellsOf 9)) = some y2 := hf 2 _ rfl
    rw [cells9] at h
    exact h
  obtain ⟨z2, e2⟩ := o9 (d := y2.1) (ps := y2.2) g2 (fun n hn => hw n (by
    simp only [DataW.weights, Try.underlying115]
    exact DataW.weights_mem_each (j := 2) rfl rfl n hn))
  obtain ⟨q0, _⟩ := e0
  simp only [List.cons.injEq, and_true] at q0
  subst q0
  obtain ⟨q1, _⟩ := e1
  simp only [List.cons.injEq, and_true] at q1
  subst q1
  obtain ⟨q2, _⟩ := e2
  simp only [List.cons.injEq, and_true] at q2
  subst q2
  exact ⟨⟨z0, z1, z2⟩, rfl⟩
theorem Sl.datum_at {p : Nat → Prop} {w : World} {A : Option Addr} {n c : Nat} {l : List DDatum} (h : Sl rDatum p w (.slice A n c) l) (j : Nat) (hj : j < l.length) :
    ∃ g o , A = some ⟨g, o, none⟩ ∧ p g ∧ g < w.heap.size ∧ w.cell? ⟨g, o + j * 3, none⟩ = some (.string l[j].id) ∧ w.cell? ⟨g, o + j * 3 + 1, none⟩ = some (.string l[j].expr) ∧ w.cell? ⟨g, o + j * 3 + 2, none⟩ = some (.string l[j].text) := by
  obtain ⟨A', c', e, _, _, hr⟩ := h
  injection e with e1 e2 e3
  subst e1
  obtain ⟨g, o, cs, hA, hg, hlt, hok, hcell⟩ := hr j _ (List.getElem?_eq_getElem hj)
  have hok' : okDatum p w cs l[j] := hok
  obtain rfl := hok'
  exact ⟨g, o, hA, hg, hlt, hcell 0 _ rfl, hcell 1 _ rfl, hcell 2 _ rfl⟩
theorem o25 : Opens Try.prog 25 (rSl rDatum) := opens_sl Try.underlying25 (by kernel_rfl) (by kernel_rfl) o115
structure DInvoke where
  id : ByteArray
  place : ByteArray
  chart : Int
  auto : Bool
  load : DLoad
  fin : Int
  deriving DecidableEq
instance : Inhabited DInvoke := ⟨⟨⟨#[]⟩, ⟨#[]⟩, 0, false, default, 0⟩⟩
def okInvoke (p : Nat → Prop) (w : World) (cs : List Value) (x : DInvoke) : Prop :=
  ∃ v5, cs = [.string x.id, .string x.place, .int .i64 x.chart, .bool x.auto, .int .i64 x.load.kind, v5, .string x.load.body, .int .i64 x.fin] ∧ Sl rPar p w v5 x.load.params
def rInvoke : Rk DInvoke where
  n := 8
  by_ := 104
  pos := by decide
  bpos := by decide
  ok := okInvoke
  len := fun h => by
    obtain ⟨v5, rfl, h5⟩ := h
    rfl
  one := fun h u hu => by
    obtain ⟨v5, rfl, h5⟩ := h
    simp only [List.mem_cons, List.not_mem_nil, or_false] at hu
    rcases hu with rfl | rfl | rfl | rfl | rfl | rfl | rfl | rfl
    · rfl
    · rfl
    · rfl
    · rfl
    · rfl
    · exact h5.one
    · rfl
    · rfl
  fr := fun hp h => by
    obtain ⟨v5, rfl, h5⟩ := h
    exact ⟨v5, rfl, h5.fr hp⟩
theorem o118 : Opens Try.prog 118 rInvoke := by
  intro H enc w base sp held fuel cs d ps h hw
  obtain ⟨xs, n, _, hx, hl, hlen, hf⟩ := DataW.trod_struct Try.underlying118 h
  have hl' : cs.length = 8 := hl.trans (by kernel_rfl)
  obtain ⟨y0, y1, y2, y3, y4, y5, rfl⟩ := list6 (l := xs) hlen
  obtain ⟨c0, c1, c2, c3, c4, c5, c6, c7, rfl⟩ := list8 hl'
  simp only [Prod.mk.injEq] at hx
  obtain ⟨rfl, rfl⟩ := hx
  have g0 : DataW.trod enc Try.prog w base sp held n 9 [c0] = some y0 := by
    have h : DataW.trod enc Try.prog w base sp held n 9 (([c0, c1, c2, c3, c4, c5, c6, c7].drop 0).take (Try.prog.cellsOf 9)) = some y0 := hf 0 _ rfl
    rw [cells9] at h
    exact h
  obtain ⟨z0, e0⟩ := o9 (d := y0.1) (ps := y0.2) g0 (fun n hn => hw n (by
    simp only [DataW.weights, Try.underlying118]
    exact DataW.weights_mem_each (j := 0) rfl rfl n hn))
  have g1 : DataW.trod enc Try.prog w base sp held n 9 [c1] = some y1 := by
    have h : DataW.trod enc Try.prog w base sp held n 9 (([c0, c1, c2, c3, c4, c5, c6, c7].drop 1).take (Try.prog.cellsOf 9)) = some y1 := hf 1 _ rfl
    rw [cells9] at h
    exact h
  obtain ⟨z1, e1⟩ := o9 (d := y1.1) (ps := y1.2) g1 (fun n hn => hw n (by
    simp only [DataW.weights, Try.underlying118]
    exact DataW.weights_mem_each (j := 1) rfl rfl n hn))
  have g2 : DataW.trod enc Try.prog w base sp held n 3 [c2] = some y2 := by
    have h : DataW.trod enc Try.prog w base sp held n 3 (([c0, c1, c2, c3, c4, c5, c6, c7].drop 2).take (Try.prog.cellsOf 3)) = some y2 := hf 2 _ rfl
    rw [cells3] at h
    exact h
  obtain ⟨z2, e2⟩ := o3 (d := y2.1) (ps := y2.2) g2 (fun n hn => hw n (by
    simp only [DataW.weights, Try.underlying118]
    exact DataW.weights_mem_each (j := 2) rfl rfl n hn))
  have g3 : DataW.trod enc Try.prog w base sp held n 4 [c3] = some y3 := by
    have h : DataW.trod enc Try.prog w base sp held n 4 (([c0, c1, c2, c3, c4, c5, c6, c7].drop 3).take (Try.prog.cellsOf 4)) = some y3 := hf 3 _ rfl
    rw [cells4] at h
    exact h
  obtain ⟨z3, e3⟩ := o4 (d := y3.1) (ps := y3.2) g3 (fun n hn => hw n (by
    simp only [DataW.weights, Try.underlying118]
    exact DataW.weights_mem_each (j := 3) rfl rfl n hn))
  have g4 : DataW.trod enc Try.prog w base sp held n 48 [c4, c5, c6] = some y4 := by
    have h : DataW.trod enc Try.prog w base sp held n 48 (([c0, c1, c2, c3, c4, c5, c6, c7].drop 4).take (Try.prog.cellsOf 48)) = some y4 := hf 4 _ rfl
    rw [cells48] at h
    exact h
  obtain ⟨z4, e4⟩ := o48 (d := y4.1) (ps := y4.2) g4 (fun n hn => hw n (by
    simp only [DataW.weights, Try.underlying118]
    exact DataW.weights_mem_each (j := 4) rfl rfl n hn))
  have g5 : DataW.trod enc Try.prog w base sp held n 3 [c7] = some y5 := by
    have h : DataW.trod enc Try.prog w base sp held n 3 (([c0, c1, c2, c3, c4, c5, c6, c7].drop 7).take (Try.prog.cellsOf 3)) = some y5 := hf 5 _ rfl
    rw [cells3] at h
    exact h
  obtain ⟨z5, e5⟩ := o3 (d := y5.1) (ps := y5.2) g5 (fun n hn => hw n (by
    simp only [DataW.weights, Try.underlying118]
    exact DataW.weights_mem_each (j := 5) rfl rfl n hn))
  obtain ⟨q0, _⟩ := e0
  simp only [List.cons.injEq, and_true] at q0
  subst q0
  obtain ⟨q1, _⟩ := e1
  simp only [List.cons.injEq, and_true] at q1
  subst q1
  have q2 : [c2] = [.int .i64 z2] := e2
  simp only [List.cons.injEq, and_true] at q2
  subst q2
  have q3 : [c3] = [.bool z3] := e3
  simp only [List.cons.injEq, and_true] at q3
  subst q3
  obtain ⟨u5, q4, h5⟩ := e4
  simp only [List.cons.injEq, and_true] at q4
  obtain ⟨rfl, rfl, rfl⟩ := q4
  have q5 : [c7] = [.int .i64 z5] := e5
  simp only [List.cons.injEq, and_true] at q5
  subst q5
  exact ⟨⟨z0, z1, z2, z3, z4, z5⟩, _, rfl, h5⟩
theorem Sl.invoke_at {p : Nat → Prop} {w : World} {A : Option Addr} {n c : Nat} {l : List DInvoke} (h : Sl rInvoke p w (.slice A n c) l) (j : Nat) (hj : j < l.length) :
    ∃ g o A5 d5, A = some ⟨g, o, none⟩ ∧ p g ∧ g < w.heap.size ∧ w.cell? ⟨g, o + j * 8, none⟩ = some (.string l[j].id) ∧ w.cell? ⟨g, o + j * 8 + 1, none⟩ = some (.string l[j].place) ∧ w.cell? ⟨g, o + j * 8 + 2, none⟩ = some (.int .i64 l[j].chart) ∧ w.cell? ⟨g, o + j * 8 + 3, none⟩ = some (.bool l[j].auto) ∧ w.cell? ⟨g, o + j * 8 + 4, none⟩ = some (.int .i64 l[j].load.kind) ∧ w.cell? ⟨g, o + j * 8 + 5, none⟩ = some (.slice A5 l[j].load.params.length d5) ∧ w.cell? ⟨g, o + j * 8 + 6, none⟩ = some (.string l[j].load.body) ∧ w.cell? ⟨g, o + j * 8 + 7, none⟩ = some (.int .i64 l[j].fin) ∧ Sl rPar p w (.slice A5 l[j].load.params.length d5) l[j].load.params := by
  obtain ⟨A', c', e, _, _, hr⟩ := h
  injection e with e1 e2 e3
  subst e1
  obtain ⟨g, o, cs, hA, hg, hlt, hok, hcell⟩ := hr j _ (List.getElem?_eq_getElem hj)
  have hok' : okInvoke p w cs l[j] := hok
  obtain ⟨v5, rfl, h5⟩ := hok'
  obtain ⟨A5, d5, rfl, _⟩ := h5.form
  exact ⟨g, o, A5, d5, hA, hg, hlt, hcell 0 _ rfl, hcell 1 _ rfl, hcell 2 _ rfl, hcell 3 _ rfl, hcell 4 _ rfl, hcell 5 _ rfl, hcell 6 _ rfl, hcell 7 _ rfl, h5⟩
theorem o26 : Opens Try.prog 26 (rSl rInvoke) := opens_sl Try.underlying26 (by kernel_rfl) (by kernel_rfl) o118
structure DChart where
  name : ByteArray
  late : Bool
  script : Int
  states : List DState
  trans : List DTrans
  blocks : List DBlock
  data : List DDatum
  invokes : List DInvoke
  deriving DecidableEq
instance : Inhabited DChart := ⟨⟨⟨#[]⟩, false, 0, [], [], [], [], []⟩⟩
def okChart (p : Nat → Prop) (w : World) (cs : List Value) (x : DChart) : Prop :=
  ∃ v3 v4 v5 v6 v7, cs = [.string x.name, .bool x.late, .int .i64 x.script, v3, v4, v5, v6, v7] ∧ Sl rState p w v3 x.states ∧ Sl rTrans p w v4 x.trans ∧ Sl rBlock p w v5 x.blocks ∧ Sl rDatum p w v6 x.data ∧ Sl rInvoke p w v7 x.invokes
def rChart : Rk DChart where
  n := 8
  by_ := 152
  pos := by decide
  bpos := by decide
  ok := okChart
  len := fun h => by
    obtain ⟨v3, v4, v5, v6, v7, rfl, h3, h4, h5, h6, h7⟩ := h
    rfl
  one := fun h u hu => by
    obtain ⟨v3, v4, v5, v6, v7, rfl, h3, h4, h5, h6, h7⟩ := h
    simp only [List.mem_cons, List.not_mem_nil, or_false] at hu
    rcases hu with rfl | rfl | rfl | rfl | rfl | rfl | rfl | rfl
    · rfl
    · rfl
    · rfl
    · exact h3.one
    · exact h4.one
    · exact h5.one
    · exact h6.one
    · exact h7.one
  fr := fun hp h => by
    obtain ⟨v3, v4, v5, v6, v7, rfl, h3, h4, h5, h6, h7⟩ := h
    exact ⟨v3, v4, v5, v6, v7, rfl, h3.fr hp, h4.fr hp, h5.fr hp, h6.fr hp, h7.fr hp⟩
theorem o28 : Opens Try.prog 28 rChart := by
  intro H enc w base sp held fuel cs d ps h hw
  obtain ⟨xs, n, _, hx, hl, hlen, hf⟩ := DataW.trod_struct Try.underlying28 h
  have hl' : cs.length = 8 := hl.trans (by kernel_rfl)
  obtain ⟨y0, y1, y2, y3, y4, y5, y6, y7, rfl⟩ := list8 (l := xs) hlen
  obtain ⟨c0, c1, c2, c3, c4, c5, c6, c7, rfl⟩ := list8 hl'
  simp only [Prod.mk.injEq] at hx
  obtain ⟨rfl, rfl⟩ := hx
  have g0 : DataW.trod enc Try.prog w base sp held n 9 [c0] = some y0 := by
    have h : DataW.trod enc Try.prog w base sp held n 9 (([c0, c1, c2, c3, c4, c5, c6, c7].drop 0).take (Try.prog.cellsOf 9)) = some y0 := hf 0 _ rfl
    rw [cells9] at h
    exact h
  obtain ⟨z0, e0⟩ := o9 (d := y0.1) (ps := y0.2) g0 (fun n hn => hw n (by
    simp only [DataW.weights, Try.underlying28]
    exact DataW.weights_mem_each (j := 0) rfl rfl n hn))
  have g1 : DataW.trod enc Try.prog w base sp held n 4 [c1] = some y1 := by
    have h : DataW.trod enc Try.prog w base sp held n 4 (([c0, c1, c2, c3, c4, c5, c6, c7].drop 1).take (Try.prog.cellsOf 4)) = some y1 := hf 1 _ rfl
    rw [cells4] at h
    exact h
  obtain ⟨z1, e1⟩ := o4 (d := y1.1) (ps := y1.2) g1 (fun n hn => hw n (by
    simp only [DataW.weights, Try.underlying28]
    exact DataW.weights_mem_each (j := 1) rfl rfl n hn))
  have g2 : DataW.trod enc Try.prog w base sp held n 3 [c2] = some y2 := by
    have h : DataW.trod enc Try.prog w base sp held n 3 (([c0, c1, c2, c3, c4, c5, c6, c7].drop 2).take (Try.prog.cellsOf 3)) = some y2 := hf 2 _ rfl
    rw [cells3] at h
    exact h
  obtain ⟨z2, e2⟩ := o3 (d := y2.1) (ps := y2.2) g2 (fun n hn => hw n (by
    simp only [DataW.weights, Try.underlying28]
    exact DataW.weights_mem_each (j := 2) rfl rfl n hn))
  have g3 : DataW.trod enc Try.prog w base sp held n 22 [c3] = some y3 := by
    have h : DataW.trod enc Try.prog w base sp held n 22 (([c0, c1, c2, c3, c4, c5, c6, c7].drop 3).take (Try.prog.cellsOf 22)) = some y3 := hf 3 _ rfl
    rw [cells22] at h
    exact h
  obtain ⟨z3, e3⟩ := o22 (d := y3.1) (ps := y3.2) g3 (fun n hn => hw n (by
    simp only [DataW.weights, Try.underlying28]
    exact DataW.weights_mem_each (j := 3) rfl rfl n hn))
  have g4 : DataW.trod enc Try.prog w base sp held n 23 [c4] = some y4 := by
    have h : DataW.trod enc Try.prog w base sp held n 23 (([c0, c1, c2, c3, c4, c5, c6, c7].drop 4).take (Try.prog.cellsOf 23)) = some y4 := hf 4 _ rfl
    rw [cells23] at h
    exact h
  obtain ⟨z4, e4⟩ := o23 (d := y4.1) (ps := y4.2) g4 (fun n hn => hw n (by
    simp only [DataW.weights, Try.underlying28]
    exact DataW.weights_mem_each (j := 4) rfl rfl n hn))
  have g5 : DataW.trod enc Try.prog w base sp held n 24 [c5] = some y5 := by
    have h : DataW.trod enc Try.prog w base sp held n 24 (([c0, c1, c2, c3, c4, c5, c6, c7].drop 5).take (Try.prog.cellsOf 24)) = some y5 := hf 5 _ rfl
    rw [cells24] at h
    exact h
  obtain ⟨z5, e5⟩ := o24 (d := y5.1) (ps := y5.2) g5 (fun n hn => hw n (by
    simp only [DataW.weights, Try.underlying28]
    exact DataW.weights_mem_each (j := 5) rfl rfl n hn))
  have g6 : DataW.trod enc Try.prog w base sp held n 25 [c6] = some y6 := by
    have h : DataW.trod enc Try.prog w base sp held n 25 (([c0, c1, c2, c3, c4, c5, c6, c7].drop 6).take (Try.prog.cellsOf 25)) = some y6 := hf 6 _ rfl
    rw [cells25] at h
    exact h
  obtain ⟨z6, e6⟩ := o25 (d := y6.1) (ps := y6.2) g6 (fun n hn => hw n (by
    simp only [DataW.weights, Try.underlying28]
    exact DataW.weights_mem_each (j := 6) rfl rfl n hn))
  have g7 : DataW.trod enc Try.prog w base sp held n 26 [c7] = some y7 := by
    have h : DataW.trod enc Try.prog w base sp held n 26 (([c0, c1, c2, c3, c4, c5, c6, c7].drop 7).take (Try.prog.cellsOf 26)) = some y7 := hf 7 _ rfl
    rw [cells26] at h
    exact h
  obtain ⟨z7, e7⟩ := o26 (d := y7.1) (ps := y7.2) g7 (fun n hn => hw n (by
    simp only [DataW.weights, Try.underlying28]
    exact DataW.weights_mem_each (j := 7) rfl rfl n hn))
  obtain ⟨q0, _⟩ := e0
  simp only [List.cons.injEq, and_true] at q0
  subst q0
  have q1 : [c1] = [.bool z1] := e1
  simp only [List.cons.injEq, and_true] at q1
  subst q1
  have q2 : [c2] = [.int .i64 z2] := e2
  simp only [List.cons.injEq, and_true] at q2
  subst q2
  obtain ⟨u3, q3, h3⟩ := e3
  simp only [List.cons.injEq, and_true] at q3
  subst q3
  obtain ⟨u4, q4, h4⟩ := e4
  simp only [List.cons.injEq, and_true] at q4
  subst q4
  obtain ⟨u5, q5, h5⟩ := e5
  simp only [List.cons.injEq, and_true] at q5
  subst q5
  obtain ⟨u6, q6, h6⟩ := e6
  simp only [List.cons.injEq, and_true] at q6
  subst q6
  obtain ⟨u7, q7, h7⟩ := e7
  simp only [List.cons.injEq, and_true] at q7
  subst q7
  exact ⟨⟨z0, z1, z2, z3, z4, z5, z6, z7⟩, _, _, _, _, _, rfl, h3, h4, h5, h6, h7⟩
end Go.Proofs.Ytekfbafljilchaa
