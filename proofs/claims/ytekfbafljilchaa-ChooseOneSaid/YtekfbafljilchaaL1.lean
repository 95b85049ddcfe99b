/- What came in: strings, numbers, moves. -/
import Derived.Test.YtekfbafljilchaaL0
import Derived.Test.YtekfbafljilchaaM8
set_option linter.unusedVariables false
set_option linter.unusedSimpArgs false
namespace Go.Proofs.Ytekfbafljilchaa
open Go.ChangeShapes Go.WideShapes Go.ChangeAt Go.RowKit Go.WideElems

def rIntW : Rk Int where
  n := 1
  by_ := 8
  pos := by decide
  bpos := by decide
  ok := fun _ _ cs x => cs = [.int .i64 x] ∧ (Lit.int .i64 x).wf = true
  len := fun h => by rw [h.1]; rfl
  one := fun h u hu => by rw [h.1] at hu; rw [List.mem_singleton.1 hu]; rfl
  fr := fun _ h => h
theorem o3W : Opens Try.prog 3 rIntW := by
  intro H enc w base sp held fuel cs d ps h _
  obtain ⟨n, rfl, _, hw⟩ := DataW.trod_int Try.underlying3 h
  exact ⟨n, rfl, hw⟩
theorem o29W : Opens Try.prog 29 (rSl rIntW) := opens_sl Try.underlying29 (by kernel_rfl) (by kernel_rfl) o3W
theorem o30 : Opens Try.prog 30 (rSl (rSl rInt)) := opens_sl Try.underlying30 (by kernel_rfl) (by kernel_rfl) o29
theorem o31 : Opens Try.prog 31 (rSl rBool) := opens_sl Try.underlying31 (by kernel_rfl) (by kernel_rfl) o4
theorem Sl.plain {p : Nat → Prop} {w : World} {v : Value} {l : List Int} (h : Sl rIntW p w v l) : Sl rInt p w v l ∧ ∀ x, x ∈ l → (Lit.int .i64 x).wf = true := by
  obtain ⟨A, c, rfl, h1, h2, h3⟩ := h
  refine ⟨⟨A, c, rfl, h1, h2, fun j x hx => ?_⟩, fun x hx => ?_⟩
  · obtain ⟨g, o, cs, a, b, d, e, f⟩ := h3 j x hx
    exact ⟨g, o, cs, a, b, d, e.1, f⟩
  · obtain ⟨j, hj, rfl⟩ := List.getElem_of_mem hx
    obtain ⟨g, o, cs, a, b, d, e, f⟩ := h3 j _ (List.getElem?_eq_getElem hj)
    exact e.2
section
variable {H : Type} {enc : TypeId × Value → H} {W : World} {d : DataW H} {p : List MemPlace} {base : Nat} {v : Value}
set_option maxRecDepth 100000 in
theorem str_of_trod (h : DataW.Trod enc Try.prog W 0 (fun _ => true) true 9 v d p) (hok : Value.okWide Try.prog W .any base 9 v) (hw : ∀ n ∈ d.weights Try.prog 9, n ≤ 140737488351232) : ∃ s : ByteArray, v = .string s ∧ s.size ≤ 140737488351232 := by
  obtain ⟨s, rfl⟩ := okWide_string Try.underlying9 hok
  obtain ⟨fuel, hf⟩ := h
  obtain ⟨x, hx, hs⟩ := o9 hf hw
  simp [Value.cells] at hx
  subst hx
  exact ⟨_, rfl, hs⟩
set_option maxRecDepth 100000 in
theorem int_of_trod (h : DataW.Trod enc Try.prog W 0 (fun _ => true) true 3 v d p) (hok : Value.okWide Try.prog W .any base 3 v) : ∃ x : Int, v = .int .i64 x ∧ (Lit.int .i64 x).wf = true := by
  obtain ⟨a, rfl, _, _, hw⟩ := open_int Try.underlying3 hok h
  exact ⟨a, rfl, hw⟩
set_option maxRecDepth 100000 in
theorem move_of_trod (h : DataW.Trod enc Try.prog W 0 (fun _ => true) true 33 v d p) (hok : Value.okWide Try.prog W .any base 33 v) (hw : ∀ n ∈ d.weights Try.prog 33, n ≤ 140737488351232) :
    ∃ (cfg ts : List Int) (mem : List (List Int)) (nm : ByteArray) (ev : Bool) (n4 : Nat) (A1 A2 A3 A4 : Option Addr) (d1 d2 d3 d4 : Nat), v = moveV A1 A2 A3 A4 cfg.length d1 ts.length d2 mem.length d3 n4 d4 nm ev ∧
      Sl rInt (fun k => k < W.heap.size) W (.slice A1 cfg.length d1) cfg ∧ Sl rInt (fun k => k < W.heap.size) W (.slice A2 ts.length d2) ts ∧ (∀ t, t ∈ ts → (Lit.int .i64 t).wf = true) ∧ Sl (rSl rInt) (fun k => k < W.heap.size) W (.slice A3 mem.length d3) mem ∧ nm.size ≤ 140737488351232 ∧ n4 ≤ 140737488351232 := by
  obtain ⟨cs, rfl, _⟩ := okWide_struct Try.underlying33 hok
  obtain ⟨fuel, hf0⟩ := h
  obtain ⟨xs, n, _, hx, hl, hlen, hf⟩ := DataW.trod_struct Try.underlying33 hf0
  have hl' : cs.toList.length = 6 := hl.trans (by kernel_rfl)
  obtain ⟨y0, y1, y2, y3, y4, y5, rfl⟩ := list6 (l := xs) hlen
  obtain ⟨c0, c1, c2, c3, c4, c5, hcs⟩ := list6 hl'
  have hf' := hf
  simp only [Value.cells] at hf'
  rw [hcs] at hf'
  simp only [Prod.mk.injEq] at hx
  obtain ⟨rfl, rfl⟩ := hx
  have one29 : Try.prog.cellsOf 29 = 1 := cells29
  have one30 : Try.prog.cellsOf 30 = 1 := by kernel_rfl
  have one31 : Try.prog.cellsOf 31 = 1 := by kernel_rfl
  have g0 : DataW.trod enc Try.prog W 0 (fun _ => true) true n 29 [c0] = some y0 := by
    have h : DataW.trod enc Try.prog W 0 (fun _ => true) true n 29 (([c0, c1, c2, c3, c4, c5].drop 0).take (Try.prog.cellsOf 29)) = some y0 := hf' 0 _ rfl
    rw [one29] at h; exact h
  have g1 : DataW.trod enc Try.prog W 0 (fun _ => true) true n 29 [c1] = some y1 := by
    have h : DataW.trod enc Try.prog W 0 (fun _ => true) true n 29 (([c0, c1, c2, c3, c4, c5].drop 1).take (Try.prog.cellsOf 29)) = some y1 := hf' 1 _ rfl
    rw [one29] at h; exact h
  have g2 : DataW.trod enc Try.prog W 0 (fun _ => true) true n 30 [c2] = some y2 := by
    have h : DataW.trod enc Try.prog W 0 (fun _ => true) true n 30 (([c0, c1, c2, c3, c4, c5].drop 2).take (Try.prog.cellsOf 30)) = some y2 := hf' 2 _ rfl
    rw [one30] at h; exact h
  have g3 : DataW.trod enc Try.prog W 0 (fun _ => true) true n 9 [c3] = some y3 := by
    have h : DataW.trod enc Try.prog W 0 (fun _ => true) true n 9 (([c0, c1, c2, c3, c4, c5].drop 3).take (Try.prog.cellsOf 9)) = some y3 := hf' 3 _ rfl
    rw [cells9] at h; exact h
  have g4 : DataW.trod enc Try.prog W 0 (fun _ => true) true n 4 [c4] = some y4 := by
    have h : DataW.trod enc Try.prog W 0 (fun _ => true) true n 4 (([c0, c1, c2, c3, c4, c5].drop 4).take (Try.prog.cellsOf 4)) = some y4 := hf' 4 _ rfl
    rw [cells4] at h; exact h
  have g5 : DataW.trod enc Try.prog W 0 (fun _ => true) true n 31 [c5] = some y5 := by
    have h : DataW.trod enc Try.prog W 0 (fun _ => true) true n 31 (([c0, c1, c2, c3, c4, c5].drop 5).take (Try.prog.cellsOf 31)) = some y5 := hf' 5 _ rfl
    rw [one31] at h; exact h
  obtain ⟨cfg, u0, q0, s0⟩ := o29 (d := y0.1) (ps := y0.2) g0 (fun n hn => hw n (by simp only [DataW.weights, Try.underlying33]; exact DataW.weights_mem_each (j := 0) rfl rfl n hn))
  obtain ⟨ts, u1, q1, s1⟩ := o29W (d := y1.1) (ps := y1.2) g1 (fun n hn => hw n (by simp only [DataW.weights, Try.underlying33]; exact DataW.weights_mem_each (j := 1) rfl rfl n hn))
  obtain ⟨mem, u2, q2, s2⟩ := o30 (d := y2.1) (ps := y2.2) g2 (fun n hn => hw n (by simp only [DataW.weights, Try.underlying33]; exact DataW.weights_mem_each (j := 2) rfl rfl n hn))
  obtain ⟨nm, q3, hn3⟩ := o9 (d := y3.1) (ps := y3.2) g3 (fun n hn => hw n (by simp only [DataW.weights, Try.underlying33]; exact DataW.weights_mem_each (j := 3) rfl rfl n hn))
  obtain ⟨ev, q4⟩ := o4 (d := y4.1) (ps := y4.2) g4 (fun n hn => hw n (by simp only [DataW.weights, Try.underlying33]; exact DataW.weights_mem_each (j := 4) rfl rfl n hn))
  obtain ⟨hold, u5, q5, s5⟩ := o31 (d := y5.1) (ps := y5.2) g5 (fun n hn => hw n (by simp only [DataW.weights, Try.underlying33]; exact DataW.weights_mem_each (j := 5) rfl rfl n hn))
  obtain ⟨A1, d1, rfl, _⟩ := s0.form
  obtain ⟨A2, d2, rfl, _⟩ := s1.form
  obtain ⟨A3, d3, rfl, _⟩ := s2.form
  obtain ⟨A4, d4, rfl, _⟩ := s5.form
  have l5 := s5.len
  obtain ⟨s1', hwf⟩ := s1.plain
  simp only [List.cons.injEq, and_true] at q0 q1 q2 q3 q5
  have q4' : [c4] = [.bool ev] := q4
  simp only [List.cons.injEq, and_true] at q4'
  subst q0 q1 q2 q3 q4' q5
  refine ⟨cfg, ts, mem, nm, ev, hold.length, A1, A2, A3, A4, d1, d2, d3, d4, ?_, s0.low, s1'.low, hwf, s2.low, hn3, l5⟩
  cases cs
  simp at hcs
  rw [hcs]
  rfl
end
end Go.Proofs.Ytekfbafljilchaa
