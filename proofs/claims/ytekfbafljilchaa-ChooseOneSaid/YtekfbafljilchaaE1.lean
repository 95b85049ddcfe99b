/- lattice.New: rows that grow in a table (regions 15, 17; printed by grow.py). -/
import Derived.Test.YtekfbafljilchaaA4
import Derived.Test.YtekfbafljilchaaO0
import Derived.Deep.AppendLies
import Derived.Shelf.Abstract
set_option linter.unusedVariables false
set_option linter.unusedSimpArgs false
namespace Go.Proofs.Ytekfbafljilchaa
open Go.RowKit Go.Lib

theorem op_run {P : Program} {o : Oper} {a : Act} {w w' : World} {K : Act → World → Prop} {Q : Exit → Act → World → Prop} {v : Value} (hr : (execOp a.eval o).run P w = .ok (.value v) w') (h : K (a.put o.dst v) w') : o.wp P a w K Q := by
  unfold Oper.wp
  rw [hr]
  exact h
/-- The frame inside the region: what has come up lies in its slots. -/
def N15.A (wr : World) (B sb fb L p n i : Nat) (vs : List Value) (v : Value) (r : List Int) (bn : Nat) (g2 : Nat) (cap2 : Nat) (b0 b1 b2 b3 b4 b5 b6 b7 b8 b9 b10 b11 : Bool) (a0 : Act) : Act := putIf b0 105 (.slice (some ⟨fb, 0, none⟩) n n) (putIf b1 106 (.pointer (some ⟨sb, 2, none⟩)) (putIf b2 107 (.int .i64 (p : Int)) (putIf b3 108 (.slice (some ⟨fb, 0, none⟩) n n) (putIf b4 109 (.pointer (some ⟨sb, 2, none⟩)) (putIf b5 110 (.int .i64 (p : Int)) (putIf b6 111 (.pointer (some ⟨fb, p, none⟩)) (putIf b7 112 v (putIf b8 113 (.int .i64 (i : Int)) (putIf b9 114 (.slice (some ⟨bn, 0, none⟩) 1 1) (putIf b10 115 (.slice (some ⟨g2, 0, none⟩) (r.length + 1) cap2) (putIf b11 116 (.pointer (some ⟨fb, p, none⟩)) (a0))))))))))))
theorem N15.p0 (wr : World) (B sb fb L p n i : Nat) (vs : List Value) (v : Value) (r : List Int) (bn : Nat) (g2 : Nat) (cap2 : Nat)  (b1 b2 b3 b4 b5 b6 b7 b8 b9 b10 b11 : Bool) (a0 : Act) :
    (N15.A wr B sb fb L p n i vs v r bn g2 cap2 false b1 b2 b3 b4 b5 b6 b7 b8 b9 b10 b11 a0).put (some 105) (.slice (some ⟨fb, 0, none⟩) n n) = N15.A wr B sb fb L p n i vs v r bn g2 cap2 true b1 b2 b3 b4 b5 b6 b7 b8 b9 b10 b11 a0 := by
  simp only [N15.A, putIf_put, ne_eq, Nat.reduceEqDiff, not_false_eq_true]
  rfl
theorem N15.e0 {wr : World} {B sb fb L p n i : Nat} {vs : List Value} {v : Value} {r : List Int} {bn : Nat} {g2 : Nat} {cap2 : Nat} {b1 b2 b3 b4 b5 b6 b7 b8 b9 b10 b11 : Bool} {a0 : Act} (hs : a0.tmps.size = 185) : (N15.A wr B sb fb L p n i vs v r bn g2 cap2 true b1 b2 b3 b4 b5 b6 b7 b8 b9 b10 b11 a0).eval (.tmp 105) = (.slice (some ⟨fb, 0, none⟩) n n) := by
  simp [N15.A, eval_putIf, eval_put, size_putIf, hs]
theorem N15.p1 (wr : World) (B sb fb L p n i : Nat) (vs : List Value) (v : Value) (r : List Int) (bn : Nat) (g2 : Nat) (cap2 : Nat)  (b0 b2 b3 b4 b5 b6 b7 b8 b9 b10 b11 : Bool) (a0 : Act) :
    (N15.A wr B sb fb L p n i vs v r bn g2 cap2 b0 false b2 b3 b4 b5 b6 b7 b8 b9 b10 b11 a0).put (some 106) (.pointer (some ⟨sb, 2, none⟩)) = N15.A wr B sb fb L p n i vs v r bn g2 cap2 b0 true b2 b3 b4 b5 b6 b7 b8 b9 b10 b11 a0 := by
  simp only [N15.A, putIf_put, ne_eq, Nat.reduceEqDiff, not_false_eq_true]
  rfl
theorem N15.e1 {wr : World} {B sb fb L p n i : Nat} {vs : List Value} {v : Value} {r : List Int} {bn : Nat} {g2 : Nat} {cap2 : Nat} {b0 b2 b3 b4 b5 b6 b7 b8 b9 b10 b11 : Bool} {a0 : Act} (hs : a0.tmps.size = 185) : (N15.A wr B sb fb L p n i vs v r bn g2 cap2 b0 true b2 b3 b4 b5 b6 b7 b8 b9 b10 b11 a0).eval (.tmp 106) = (.pointer (some ⟨sb, 2, none⟩)) := by
  simp [N15.A, eval_putIf, eval_put, size_putIf, hs]
theorem N15.p2 (wr : World) (B sb fb L p n i : Nat) (vs : List Value) (v : Value) (r : List Int) (bn : Nat) (g2 : Nat) (cap2 : Nat)  (b0 b1 b3 b4 b5 b6 b7 b8 b9 b10 b11 : Bool) (a0 : Act) :
    (N15.A wr B sb fb L p n i vs v r bn g2 cap2 b0 b1 false b3 b4 b5 b6 b7 b8 b9 b10 b11 a0).put (some 107) (.int .i64 (p : Int)) = N15.A wr B sb fb L p n i vs v r bn g2 cap2 b0 b1 true b3 b4 b5 b6 b7 b8 b9 b10 b11 a0 := by
  simp only [N15.A, putIf_put, ne_eq, Nat.reduceEqDiff, not_false_eq_true]
  rfl
theorem N15.e2 {wr : World} {B sb fb L p n i : Nat} {vs : List Value} {v : Value} {r : List Int} {bn : Nat} {g2 : Nat} {cap2 : Nat} {b0 b1 b3 b4 b5 b6 b7 b8 b9 b10 b11 : Bool} {a0 : Act} (hs : a0.tmps.size = 185) : (N15.A wr B sb fb L p n i vs v r bn g2 cap2 b0 b1 true b3 b4 b5 b6 b7 b8 b9 b10 b11 a0).eval (.tmp 107) = (.int .i64 (p : Int)) := by
  simp [N15.A, eval_putIf, eval_put, size_putIf, hs]
theorem N15.p3 (wr : World) (B sb fb L p n i : Nat) (vs : List Value) (v : Value) (r : List Int) (bn : Nat) (g2 : Nat) (cap2 : Nat)  (b0 b1 b2 b4 b5 b6 b7 b8 b9 b10 b11 : Bool) (a0 : Act) :
    (N15.A wr B sb fb L p n i vs v r bn g2 cap2 b0 b1 b2 false b4 b5 b6 b7 b8 b9 b10 b11 a0).put (some 108) (.slice (some ⟨fb, 0, none⟩) n n) = N15.A wr B sb fb L p n i vs v r bn g2 cap2 b0 b1 b2 true b4 b5 b6 b7 b8 b9 b10 b11 a0 := by
  simp only [N15.A, putIf_put, ne_eq, Nat.reduceEqDiff, not_false_eq_true]
  rfl
theorem N15.e3 {wr : World} {B sb fb L p n i : Nat} {vs : List Value} {v : Value} {r : List Int} {bn : Nat} {g2 : Nat} {cap2 : Nat} {b0 b1 b2 b4 b5 b6 b7 b8 b9 b10 b11 : Bool} {a0 : Act} (hs : a0.tmps.size = 185) : (N15.A wr B sb fb L p n i vs v r bn g2 cap2 b0 b1 b2 true b4 b5 b6 b7 b8 b9 b10 b11 a0).eval (.tmp 108) = (.slice (some ⟨fb, 0, none⟩) n n) := by
  simp [N15.A, eval_putIf, eval_put, size_putIf, hs]
theorem N15.p4 (wr : World) (B sb fb L p n i : Nat) (vs : List Value) (v : Value) (r : List Int) (bn : Nat) (g2 : Nat) (cap2 : Nat)  (b0 b1 b2 b3 b5 b6 b7 b8 b9 b10 b11 : Bool) (a0 : Act) :
    (N15.A wr B sb fb L p n i vs v r bn g2 cap2 b0 b1 b2 b3 false b5 b6 b7 b8 b9 b10 b11 a0).put (some 109) (.pointer (some ⟨sb, 2, none⟩)) = N15.A wr B sb fb L p n i vs v r bn g2 cap2 b0 b1 b2 b3 true b5 b6 b7 b8 b9 b10 b11 a0 := by
  simp only [N15.A, putIf_put, ne_eq, Nat.reduceEqDiff, not_false_eq_true]
  rfl
theorem N15.e4 {wr : World} {B sb fb L p n i : Nat} {vs : List Value} {v : Value} {r : List Int} {bn : Nat} {g2 : Nat} {cap2 : Nat} {b0 b1 b2 b3 b5 b6 b7 b8 b9 b10 b11 : Bool} {a0 : Act} (hs : a0.tmps.size = 185) : (N15.A wr B sb fb L p n i vs v r bn g2 cap2 b0 b1 b2 b3 true b5 b6 b7 b8 b9 b10 b11 a0).eval (.tmp 109) = (.pointer (some ⟨sb, 2, none⟩)) := by
  simp [N15.A, eval_putIf, eval_put, size_putIf, hs]
theorem N15.p5 (wr : World) (B sb fb L p n i : Nat) (vs : List Value) (v : Value) (r : List Int) (bn : Nat) (g2 : Nat) (cap2 : Nat)  (b0 b1 b2 b3 b4 b6 b7 b8 b9 b10 b11 : Bool) (a0 : Act) :
    (N15.A wr B sb fb L p n i vs v r bn g2 cap2 b0 b1 b2 b3 b4 false b6 b7 b8 b9 b10 b11 a0).put (some 110) (.int .i64 (p : Int)) = N15.A wr B sb fb L p n i vs v r bn g2 cap2 b0 b1 b2 b3 b4 true b6 b7 b8 b9 b10 b11 a0 := by
  simp only [N15.A, putIf_put, ne_eq, Nat.reduceEqDiff, not_false_eq_true]
  rfl
theorem N15.e5 {wr : World} {B sb fb L p n i : Nat} {vs : List Value} {v : Value} {r : List Int} {bn : Nat} {g2 : Nat} {cap2 : Nat} {b0 b1 b2 b3 b4 b6 b7 b8 b9 b10 b11 : Bool} {a0 : Act} (hs : a0.tmps.size = 185) : (N15.A wr B sb fb L p n i vs v r bn g2 cap2 b0 b1 b2 b3 b4 true b6 b7 b8 b9 b10 b11 a0).eval (.tmp 110) = (.int .i64 (p : Int)) := by
  simp [N15.A, eval_putIf, eval_put, size_putIf, hs]
theorem N15.p6 (wr : World) (B sb fb L p n i : Nat) (vs : List Value) (v : Value) (r : List Int) (bn : Nat) (g2 : Nat) (cap2 : Nat)  (b0 b1 b2 b3 b4 b5 b7 b8 b9 b10 b11 : Bool) (a0 : Act) :
    (N15.A wr B sb fb L p n i vs v r bn g2 cap2 b0 b1 b2 b3 b4 b5 false b7 b8 b9 b10 b11 a0).put (some 111) (.pointer (some ⟨fb, p, none⟩)) = N15.A wr B sb fb L p n i vs v r bn g2 cap2 b0 b1 b2 b3 b4 b5 true b7 b8 b9 b10 b11 a0 := by
  simp only [N15.A, putIf_put, ne_eq, Nat.reduceEqDiff, not_false_eq_true]
  rfl
theorem N15.e6 {wr : World} {B sb fb L p n i : Nat} {vs : List Value} {v : Value} {r : List Int} {bn : Nat} {g2 : Nat} {cap2 : Nat} {b0 b1 b2 b3 b4 b5 b7 b8 b9 b10 b11 : Bool} {a0 : Act} (hs : a0.tmps.size = 185) : (N15.A wr B sb fb L p n i vs v r bn g2 cap2 b0 b1 b2 b3 b4 b5 true b7 b8 b9 b10 b11 a0).eval (.tmp 111) = (.pointer (some ⟨fb, p, none⟩)) := by
  simp [N15.A, eval_putIf, eval_put, size_putIf, hs]
theorem N15.p7 (wr : World) (B sb fb L p n i : Nat) (vs : List Value) (v : Value) (r : List Int) (bn : Nat) (g2 : Nat) (cap2 : Nat)  (b0 b1 b2 b3 b4 b5 b6 b8 b9 b10 b11 : Bool) (a0 : Act) :
    (N15.A wr B sb fb L p n i vs v r bn g2 cap2 b0 b1 b2 b3 b4 b5 b6 false b8 b9 b10 b11 a0).put (some 112) v = N15.A wr B sb fb L p n i vs v r bn g2 cap2 b0 b1 b2 b3 b4 b5 b6 true b8 b9 b10 b11 a0 := by
  simp only [N15.A, putIf_put, ne_eq, Nat.reduceEqDiff, not_false_eq_true]
  rfl
theorem N15.e7 {wr : World} {B sb fb L p n i : Nat} {vs : List Value} {v : Value} {r : List Int} {bn : Nat} {g2 : Nat} {cap2 : Nat} {b0 b1 b2 b3 b4 b5 b6 b8 b9 b10 b11 : Bool} {a0 : Act} (hs : a0.tmps.size = 185) : (N15.A wr B sb fb L p n i vs v r bn g2 cap2 b0 b1 b2 b3 b4 b5 b6 true b8 b9 b10 b11 a0).eval (.tmp 112) = v := by
  simp [N15.A, eval_putIf, eval_put, size_putIf, hs]
theorem N15.p8 (wr : World) (B sb fb L p n i : Nat) (vs : List Value) (v : Value) (r : List Int) (bn : Nat) (g2 : Nat) (cap2 : Nat)  (b0 b1 b2 b3 b4 b5 b6 b7 b9 b10 b11 : Bool) (a0 : Act) :
    (N15.A wr B sb fb L p n i vs v r bn g2 cap2 b0 b1 b2 b3 b4 b5 b6 b7 false b9 b10 b11 a0).put (some 113) (.int .i64 (i : Int)) = N15.A wr B sb fb L p n i vs v r bn g2 cap2 b0 b1 b2 b3 b4 b5 b6 b7 true b9 b10 b11 a0 := by
  simp only [N15.A, putIf_put, ne_eq, Nat.reduceEqDiff, not_false_eq_true]
  rfl
theorem N15.e8 {wr : World} {B sb fb L p n i : Nat} {vs : List Value} {v : Value} {r : List Int} {bn : Nat} {g2 : Nat} {cap2 : Nat} {b0 b1 b2 b3 b4 b5 b6 b7 b9 b10 b11 : Bool} {a0 : Act} (hs : a0.tmps.size = 185) : (N15.A wr B sb fb L p n i vs v r bn g2 cap2 b0 b1 b2 b3 b4 b5 b6 b7 true b9 b10 b11 a0).eval (.tmp 113) = (.int .i64 (i : Int)) := by
  simp [N15.A, eval_putIf, eval_put, size_putIf, hs]
theorem N15.p9 (wr : World) (B sb fb L p n i : Nat) (vs : List Value) (v : Value) (r : List Int) (bn : Nat) (g2 : Nat) (cap2 : Nat) (bn' : Nat) (b0 b1 b2 b3 b4 b5 b6 b7 b8 b10 b11 : Bool) (a0 : Act) :
    (N15.A wr B sb fb L p n i vs v r bn' g2 cap2 b0 b1 b2 b3 b4 b5 b6 b7 b8 false b10 b11 a0).put (some 114) (.slice (some ⟨bn, 0, none⟩) 1 1) = N15.A wr B sb fb L p n i vs v r bn g2 cap2 b0 b1 b2 b3 b4 b5 b6 b7 b8 true b10 b11 a0 := by
  simp only [N15.A, putIf_put, ne_eq, Nat.reduceEqDiff, not_false_eq_true]
  rfl
theorem N15.e9 {wr : World} {B sb fb L p n i : Nat} {vs : List Value} {v : Value} {r : List Int} {bn : Nat} {g2 : Nat} {cap2 : Nat} {b0 b1 b2 b3 b4 b5 b6 b7 b8 b10 b11 : Bool} {a0 : Act} (hs : a0.tmps.size = 185) : (N15.A wr B sb fb L p n i vs v r bn g2 cap2 b0 b1 b2 b3 b4 b5 b6 b7 b8 true b10 b11 a0).eval (.tmp 114) = (.slice (some ⟨bn, 0, none⟩) 1 1) := by
  simp [N15.A, eval_putIf, eval_put, size_putIf, hs]
theorem N15.p10 (wr : World) (B sb fb L p n i : Nat) (vs : List Value) (v : Value) (r : List Int) (bn : Nat) (g2 : Nat) (cap2 : Nat) (g2' : Nat) (cap2' : Nat) (b0 b1 b2 b3 b4 b5 b6 b7 b8 b9 b11 : Bool) (a0 : Act) :
    (N15.A wr B sb fb L p n i vs v r bn g2' cap2' b0 b1 b2 b3 b4 b5 b6 b7 b8 b9 false b11 a0).put (some 115) (.slice (some ⟨g2, 0, none⟩) (r.length + 1) cap2) = N15.A wr B sb fb L p n i vs v r bn g2 cap2 b0 b1 b2 b3 b4 b5 b6 b7 b8 b9 true b11 a0 := by
  simp only [N15.A, putIf_put, ne_eq, Nat.reduceEqDiff, not_false_eq_true]
  rfl
theorem N15.e10 {wr : World} {B sb fb L p n i : Nat} {vs : List Value} {v : Value} {r : List Int} {bn : Nat} {g2 : Nat} {cap2 : Nat} {b0 b1 b2 b3 b4 b5 b6 b7 b8 b9 b11 : Bool} {a0 : Act} (hs : a0.tmps.size = 185) : (N15.A wr B sb fb L p n i vs v r bn g2 cap2 b0 b1 b2 b3 b4 b5 b6 b7 b8 b9 true b11 a0).eval (.tmp 115) = (.slice (some ⟨g2, 0, none⟩) (r.length + 1) cap2) := by
  simp [N15.A, eval_putIf, eval_put, size_putIf, hs]
theorem N15.p11 (wr : World) (B sb fb L p n i : Nat) (vs : List Value) (v : Value) (r : List Int) (bn : Nat) (g2 : Nat) (cap2 : Nat)  (b0 b1 b2 b3 b4 b5 b6 b7 b8 b9 b10 : Bool) (a0 : Act) :
    (N15.A wr B sb fb L p n i vs v r bn g2 cap2 b0 b1 b2 b3 b4 b5 b6 b7 b8 b9 b10 false a0).put (some 116) (.pointer (some ⟨fb, p, none⟩)) = N15.A wr B sb fb L p n i vs v r bn g2 cap2 b0 b1 b2 b3 b4 b5 b6 b7 b8 b9 b10 true a0 := by
  simp only [N15.A, putIf_put, ne_eq, Nat.reduceEqDiff, not_false_eq_true]
  rfl
theorem N15.e11 {wr : World} {B sb fb L p n i : Nat} {vs : List Value} {v : Value} {r : List Int} {bn : Nat} {g2 : Nat} {cap2 : Nat} {b0 b1 b2 b3 b4 b5 b6 b7 b8 b9 b10 : Bool} {a0 : Act} (hs : a0.tmps.size = 185) : (N15.A wr B sb fb L p n i vs v r bn g2 cap2 b0 b1 b2 b3 b4 b5 b6 b7 b8 b9 b10 true a0).eval (.tmp 116) = (.pointer (some ⟨fb, p, none⟩)) := by
  simp [N15.A, eval_putIf, eval_put, size_putIf, hs]
theorem N15.z (wr : World) (B sb fb L p n i : Nat) (vs : List Value) (v : Value) (r : List Int) (bn : Nat) (g2 : Nat) (cap2 : Nat) (a0 : Act) : a0 = N15.A wr B sb fb L p n i vs v r bn g2 cap2 false false false false false false false false false false false false a0 := rfl
theorem N15.size {wr : World} {B sb fb L p n i : Nat} {vs : List Value} {v : Value} {r : List Int} {bn : Nat} {g2 : Nat} {cap2 : Nat} {b0 b1 b2 b3 b4 b5 b6 b7 b8 b9 b10 b11 : Bool} {a0 : Act} : (N15.A wr B sb fb L p n i vs v r bn g2 cap2 b0 b1 b2 b3 b4 b5 b6 b7 b8 b9 b10 b11 a0).tmps.size = a0.tmps.size := by
  simp [N15.A, size_putIf]
theorem N15.f8 {wr : World} {B sb fb L p n i : Nat} {vs : List Value} {v : Value} {r : List Int} {bn : Nat} {g2 : Nat} {cap2 : Nat} {b0 b1 b2 b3 b4 b5 b6 b7 b8 b9 b10 b11 : Bool} {a0 : Act} : (N15.A wr B sb fb L p n i vs v r bn g2 cap2 b0 b1 b2 b3 b4 b5 b6 b7 b8 b9 b10 b11 a0).eval (.tmp 8) = a0.eval (.tmp 8) := by
  simp [N15.A, eval_putIf]
theorem N15.f7 {wr : World} {B sb fb L p n i : Nat} {vs : List Value} {v : Value} {r : List Int} {bn : Nat} {g2 : Nat} {cap2 : Nat} {b0 b1 b2 b3 b4 b5 b6 b7 b8 b9 b10 b11 : Bool} {a0 : Act} : (N15.A wr B sb fb L p n i vs v r bn g2 cap2 b0 b1 b2 b3 b4 b5 b6 b7 b8 b9 b10 b11 a0).eval (.tmp 7) = a0.eval (.tmp 7) := by
  simp [N15.A, eval_putIf]
theorem N15.f6 {wr : World} {B sb fb L p n i : Nat} {vs : List Value} {v : Value} {r : List Int} {bn : Nat} {g2 : Nat} {cap2 : Nat} {b0 b1 b2 b3 b4 b5 b6 b7 b8 b9 b10 b11 : Bool} {a0 : Act} : (N15.A wr B sb fb L p n i vs v r bn g2 cap2 b0 b1 b2 b3 b4 b5 b6 b7 b8 b9 b10 b11 a0).eval (.tmp 6) = a0.eval (.tmp 6) := by
  simp [N15.A, eval_putIf]
def N15.B (wr : World) (B sb fb L p n i : Nat) (vs : List Value) (v : Value) (r : List Int) (a0 : Act) : Prop := a0.tmps.size = 185 ∧ a0.eval (.tmp 8) = (.pointer (some ⟨sb, 0, none⟩)) ∧ a0.eval (.tmp 7) = (.int .i64 (i : Int)) ∧ a0.eval (.tmp 6) = (.slice (some ⟨fb, 0, none⟩) n n)
def N15.I (wr : World) (B sb fb L p n i : Nat) (vs : List Value) (v : Value) (r : List Int) (bn : Nat) (g2 : Nat) (cap2 : Nat) (b0 b1 b2 b3 b4 b5 b6 b7 b8 b9 b10 b11 b12 : Bool) (w : World) : Prop := Fr (fb :: v.ownBlock.toList) wr w ∧ Blk w fb (bif b12 then (vs.set p (.slice (some ⟨g2, 0, none⟩) (r.length + 1) cap2)).toArray else vs.toArray) 29 ∧ (b9 = true → b10 = false → Blk w bn #[.int .i64 (i : Int)] 3 ∧ wr.heap.size ≤ bn) ∧ (b10 = false → w.ownsRow B 3 1 v r.length (r.map (.int .i64))) ∧ (b10 = true → w.ownsRow B 3 1 (.slice (some ⟨g2, 0, none⟩) (r.length + 1) cap2) (r.length + 1) ((r ++ [(i : Int)]).map (.int .i64)) ∧ (v.ownBlock = some g2 ∨ wr.heap.size ≤ g2)) ∧ (b10 = true → b7 = true ∧ b9 = true) ∧ (b12 = true → b10 = true)
/-- What stays true inside the region, whatever has come up. -/
def N15.J (wr : World) (B sb fb L p n i : Nat) (vs : List Value) (v : Value) (r : List Int) (a0 : Act) (l : Array Bool) (a : Act) (w : World) : Prop :=
  N15.B wr B sb fb L p n i vs v r a0 ∧ ∃ b0 b1 b2 b3 b4 b5 b6 b7 b8 b9 b10 b11 b12 bn g2 cap2, l = #[b0, b1, b2, b3, b4, b5, b6, b7, b8, b9, b10, b11, b12] ∧ a = N15.A wr B sb fb L p n i vs v r bn g2 cap2 b0 b1 b2 b3 b4 b5 b6 b7 b8 b9 b10 b11 a0 ∧ N15.I wr B sb fb L p n i vs v r bn g2 cap2 b0 b1 b2 b3 b4 b5 b6 b7 b8 b9 b10 b11 b12 w
attribute [irreducible] N15.A

set_option maxRecDepth 100000 in
set_option maxHeartbeats 8000000 in
theorem new15 {Q : Exit → Act → World → Prop} {t0 t1 t2 t3 t4 t5 t9 t10 t11 t12 t13 t14 t15 t16 t17 t18 t19 t20 t21 t22 t23 t24 t25 t26 t27 t28 t29 t30 t31 t32 t33 t34 t35 t36 t37 t38 t39 t40 t41 t42 t43 t44 t45 t46 t47 t48 t49 t50 t51 t52 t53 t54 t55 t56 t57 t58 t59 t60 t61 t62 t63 t64 t65 t66 t67 t68 t69 t70 t71 t72 t73 t74 t75 t76 t77 t78 t79 t80 t81 t82 t83 t84 t85 t86 t87 t88 t89 t90 t91 t92 t93 t94 t95 t96 t97 t98 t99 t100 t101 t102 t103 t104 t105 t106 t107 t108 t109 t110 t111 t112 t113 t114 t115 t116 t117 t118 t119 t120 t121 t122 t123 t124 t125 t126 t127 t128 t129 t130 t131 t132 t133 t134 t135 t136 t137 t138 t139 t140 t141 t142 t143 t144 t145 t146 t147 t148 t149 t150 t151 t152 t153 t154 t155 t156 t157 t158 t159 t160 t161 t162 t163 t164 t165 t166 t167 t168 t169 t170 t171 t172 t173 t174 t175 t176 t177 t178 t179 t180 t181 t182 t183 t184 : Value} {wr : World} {B sb fb L p n i : Nat} {vs : List Value} {v : Value} {r : List Int} (hs : wr.cell? ⟨sb, 2, none⟩ = some (.int .i64 (p : Int))) (hp : p < n) (hn : n ≤ 128) (hb : Blk wr fb vs.toArray 29) (hl : vs.length = n) (hv : vs[p]? = some v) (hown : wr.ownsRow B 3 1 v r.length (r.map (.int .i64))) (hr : r.length ≤ 128) (hbase : B ≤ wr.heap.size) (hne : v.ownBlock ≠ some fb) (hsn : v.ownBlock ≠ some sb) (hsf : sb ≠ fb)
    (hQ : ∀ (u105 u106 u107 u108 u109 u110 u111 u112 u113 u114 u115 u116 : Value) (wx : World), (∃ g cap, Fr (fb :: v.ownBlock.toList) wr wx ∧ Blk wx fb (vs.set p (.slice (some ⟨g, 0, none⟩) (r.length + 1) cap)).toArray 29 ∧ wx.ownsRow B 3 1 (.slice (some ⟨g, 0, none⟩) (r.length + 1) cap) (r.length + 1) ((r ++ [(i : Int)]).map (.int .i64)) ∧ (v.ownBlock = some g ∨ wr.heap.size ≤ g)) → Q .normal ⟨#[t0, t1, t2, t3, t4, t5, (.slice (some ⟨fb, 0, none⟩) n n), (.int .i64 (i : Int)), (.pointer (some ⟨sb, 0, none⟩)), t9, t10, t11, t12, t13, t14, t15, t16, t17, t18, t19, t20, t21, t22, t23, t24, t25, t26, t27, t28, t29, t30, t31, t32, t33, t34, t35, t36, t37, t38, t39, t40, t41, t42, t43, t44, t45, t46, t47, t48, t49, t50, t51, t52, t53, t54, t55, t56, t57, t58, t59, t60, t61, t62, t63, t64, t65, t66, t67, t68, t69, t70, t71, t72, t73, t74, t75, t76, t77, t78, t79, t80, t81, t82, t83, t84, t85, t86, t87, t88, t89, t90, t91, t92, t93, t94, t95, t96, t97, t98, t99, t100, t101, t102, t103, t104, u105, u106, u107, u108, u109, u110, u111, u112, u113, u114, u115, u116, t117, t118, t119, t120, t121, t122, t123, t124, t125, t126, t127, t128, t129, t130, t131, t132, t133, t134, t135, t136, t137, t138, t139, t140, t141, t142, t143, t144, t145, t146, t147, t148, t149, t150, t151, t152, t153, t154, t155, t156, t157, t158, t159, t160, t161, t162, t163, t164, t165, t166, t167, t168, t169, t170, t171, t172, t173, t174, t175, t176, t177, t178, t179, t180, t181, t182, t183, t184], []⟩ wx) :
    (regAt Try.f14 15).wp Try.prog Q ⟨#[t0, t1, t2, t3, t4, t5, (.slice (some ⟨fb, 0, none⟩) n n), (.int .i64 (i : Int)), (.pointer (some ⟨sb, 0, none⟩)), t9, t10, t11, t12, t13, t14, t15, t16, t17, t18, t19, t20, t21, t22, t23, t24, t25, t26, t27, t28, t29, t30, t31, t32, t33, t34, t35, t36, t37, t38, t39, t40, t41, t42, t43, t44, t45, t46, t47, t48, t49, t50, t51, t52, t53, t54, t55, t56, t57, t58, t59, t60, t61, t62, t63, t64, t65, t66, t67, t68, t69, t70, t71, t72, t73, t74, t75, t76, t77, t78, t79, t80, t81, t82, t83, t84, t85, t86, t87, t88, t89, t90, t91, t92, t93, t94, t95, t96, t97, t98, t99, t100, t101, t102, t103, t104, t105, t106, t107, t108, t109, t110, t111, t112, t113, t114, t115, t116, t117, t118, t119, t120, t121, t122, t123, t124, t125, t126, t127, t128, t129, t130, t131, t132, t133, t134, t135, t136, t137, t138, t139, t140, t141, t142, t143, t144, t145, t146, t147, t148, t149, t150, t151, t152, t153, t154, t155, t156, t157, t158, t159, t160, t161, t162, t163, t164, t165, t166, t167, t168, t169, t170, t171, t172, t173, t174, t175, t176, t177, t178, t179, t180, t181, t182, t183, t184], []⟩ wr := by
  have hk0 : (0 : Int) ≤ (p : Int) := by omega
  have hk1 : (p : Int) < (n : Int) := by omega
  have hvl : p < vs.length := by omega
  refine Code.wp_mono (Q := OnlyN (fun a w => Q .normal a w)) onlyN_imp ?_
  conv => arg 2; whnf
  dsimp only
  refine region_inv (by kernel_rfl) (fun a0 l a w => N15.J wr B sb fb L p n i vs v r a0 l a w) ?_ ?_ ?_
  · refine ⟨⟨rfl, rfl, rfl, rfl⟩, false, false, false, false, false, false, false, false, false, false, false, false, false, 0, 0, 0, rfl, N15.z .., (Fr.refl _ _).drew, hb, (fun h => by cases h), fun _ => hown.drew, (fun h => by cases h), (fun h => by cases h), (fun h => by cases h)⟩
  · intro l a' w' hJ hi
    obtain ⟨-, b0, b1, b2, b3, b4, b5, b6, b7, b8, b9, b10, b11, b12, bn, g2, cap2, rfl, rfl, hinv⟩ := hJ
    have t0 : b0 = true := ready_nil hi 0 (by decide) (by simp [Region.binds])
    have t1 : b1 = true := ready_nil hi 1 (by decide) (by simp [Region.binds])
    have t2 : b2 = true := ready_nil hi 2 (by decide) (by simp [Region.binds, t1])
    have t3 : b3 = true := ready_nil hi 3 (by decide) (by simp [Region.binds])
    have t4 : b4 = true := ready_nil hi 4 (by decide) (by simp [Region.binds])
    have t5 : b5 = true := ready_nil hi 5 (by decide) (by simp [Region.binds, t4])
    have t6 : b6 = true := ready_nil hi 6 (by decide) (by simp [Region.binds, t3, t5])
    have t7 : b7 = true := ready_nil hi 7 (by decide) (by simp [Region.binds, t6])
    have t8 : b8 = true := ready_nil hi 8 (by decide) (by simp [Region.binds])
    have t9 : b9 = true := ready_nil hi 9 (by decide) (by simp [Region.binds, t8])
    have t10 : b10 = true := ready_nil hi 10 (by decide) (by simp [Region.binds, t7, t9])
    have t11 : b11 = true := ready_nil hi 11 (by decide) (by simp [Region.binds, t0, t1, t2, t3, t4, t5, t6, t7, t8, t9, t10])
    have t12 : b12 = true := ready_nil hi 12 (by decide) (by simp [Region.binds, t0, t1, t2, t3, t4, t5, t6, t7, t8, t9, t10, t11])
    subst t0 t1 t2 t3 t4 t5 t6 t7 t8 t9 t10 t11 t12
    clear hi
    obtain ⟨hF, hT, hN, hO, hG, hq, hq2⟩ := hinv
    obtain ⟨hG1, hG2⟩ := hG rfl
    simp only [OnlyN, N15.A, putIf_true, Act.put, List.setIfInBounds_toArray, List.set_cons_zero, List.set_cons_succ]
    exact hQ _ _ _ _ _ _ _ _ _ _ _ _ _ ⟨g2, cap2, hF, hT, hG1, hG2⟩
  · intro a0 l a' w' i hJ hi
    obtain ⟨hB, b0, b1, b2, b3, b4, b5, b6, b7, b8, b9, b10, b11, b12, bn, g2, cap2, rfl, rfl, hinv⟩ := hJ
    have hBB := hB
    obtain ⟨hs0, g8, g7, g6⟩ := hBB
    obtain ⟨h10, hlf, haf⟩ := mem_ready hi
    clear hi
    have hc : i = 0 ∨ i = 1 ∨ i = 2 ∨ i = 3 ∨ i = 4 ∨ i = 5 ∨ i = 6 ∨ i = 7 ∨ i = 8 ∨ i = 9 ∨ i = 10 ∨ i = 11 ∨ i = 12 := by
      have : i < 13 := h10
      omega
    clear h10
    rcases hc with rfl | rfl | rfl | rfl | rfl | rfl | rfl | rfl | rfl | rfl | rfl | rfl | rfl
    · obtain rfl : b0 = false := by simpa using hlf
      refine wpOp_at rfl rfl ?_
      simp only [List.getElem_toArray, List.getElem_cons_zero, List.getElem_cons_succ]
      refine op_val (v := (.slice (some ⟨fb, 0, none⟩) n n)) ?_ (show N15.J wr B sb fb L p n i vs v r a0 _ _ _ from ⟨hB, true, b1, b2, b3, b4, b5, b6, b7, b8, b9, b10, b11, b12, bn, g2, cap2, rfl, N15.p0 .., hinv⟩)
      simp only [execOp, N15.f6, g6]
      go_simp
    · obtain rfl : b1 = false := by simpa using hlf
      refine wpOp_at rfl rfl ?_
      simp only [List.getElem_toArray, List.getElem_cons_zero, List.getElem_cons_succ]
      refine op_val (v := (.pointer (some ⟨sb, 2, none⟩))) ?_ (show N15.J wr B sb fb L p n i vs v r a0 _ _ _ from ⟨hB, b0, true, b2, b3, b4, b5, b6, b7, b8, b9, b10, b11, b12, bn, g2, cap2, rfl, N15.p1 .., hinv⟩)
      simp only [execOp, N15.f8, g8]
      go_simp
    · obtain rfl : b2 = false := by simpa using hlf
      refine wpOp_at rfl rfl ?_
      simp only [List.getElem_toArray, List.getElem_cons_zero, List.getElem_cons_succ]
      simp [Region.binds] at haf
      subst haf
      obtain ⟨hF, hT, hN, hO, hG, hq, hq2⟩ := hinv
      have hx : w'.cell? ⟨sb, 2, none⟩ = _ := (World.cell?_of_block (hF.block sb (World.block_lt_of_cell? wr _ hs) (by simpa using ⟨hsf, hsn⟩))).trans hs
      refine op_val (v := (.int .i64 (p : Int))) ?_ (show N15.J wr B sb fb L p n i vs v r a0 _ _ _ from ⟨hB, b0, true, true, b3, b4, b5, b6, b7, b8, b9, b10, b11, b12, bn, g2, cap2, rfl, N15.p2 .., hF, hT, hN, hO, hG, by simpa using hq, hq2⟩)
      simp only [execOp, N15.e1 hs0]
      go_simp
    · obtain rfl : b3 = false := by simpa using hlf
      refine wpOp_at rfl rfl ?_
      simp only [List.getElem_toArray, List.getElem_cons_zero, List.getElem_cons_succ]
      refine op_val (v := (.slice (some ⟨fb, 0, none⟩) n n)) ?_ (show N15.J wr B sb fb L p n i vs v r a0 _ _ _ from ⟨hB, b0, b1, b2, true, b4, b5, b6, b7, b8, b9, b10, b11, b12, bn, g2, cap2, rfl, N15.p3 .., hinv⟩)
      simp only [execOp, N15.f6, g6]
      go_simp
    · obtain rfl : b4 = false := by simpa using hlf
      refine wpOp_at rfl rfl ?_
      simp only [List.getElem_toArray, List.getElem_cons_zero, List.getElem_cons_succ]
      refine op_val (v := (.pointer (some ⟨sb, 2, none⟩))) ?_ (show N15.J wr B sb fb L p n i vs v r a0 _ _ _ from ⟨hB, b0, b1, b2, b3, true, b5, b6, b7, b8, b9, b10, b11, b12, bn, g2, cap2, rfl, N15.p4 .., hinv⟩)
      simp only [execOp, N15.f8, g8]
      go_simp
    · obtain rfl : b5 = false := by simpa using hlf
      refine wpOp_at rfl rfl ?_
      simp only [List.getElem_toArray, List.getElem_cons_zero, List.getElem_cons_succ]
      simp [Region.binds] at haf
      subst haf
      obtain ⟨hF, hT, hN, hO, hG, hq, hq2⟩ := hinv
      have hx : w'.cell? ⟨sb, 2, none⟩ = _ := (World.cell?_of_block (hF.block sb (World.block_lt_of_cell? wr _ hs) (by simpa using ⟨hsf, hsn⟩))).trans hs
      refine op_val (v := (.int .i64 (p : Int))) ?_ (show N15.J wr B sb fb L p n i vs v r a0 _ _ _ from ⟨hB, b0, b1, b2, b3, true, true, b6, b7, b8, b9, b10, b11, b12, bn, g2, cap2, rfl, N15.p5 .., hF, hT, hN, hO, hG, by simpa using hq, hq2⟩)
      simp only [execOp, N15.e4 hs0]
      go_simp
    · obtain rfl : b6 = false := by simpa using hlf
      refine wpOp_at rfl rfl ?_
      simp only [List.getElem_toArray, List.getElem_cons_zero, List.getElem_cons_succ]
      simp [Region.binds] at haf
      obtain ⟨a0, a1⟩ := haf
      subst a0 a1
      refine op_val (v := (.pointer (some ⟨fb, p, none⟩))) ?_ (show N15.J wr B sb fb L p n i vs v r a0 _ _ _ from ⟨hB, b0, b1, b2, true, b4, true, true, b7, b8, b9, b10, b11, b12, bn, g2, cap2, rfl, N15.p6 .., hinv⟩)
      simp only [execOp, N15.e3 hs0, N15.e5 hs0]
      go_simp
    · obtain rfl : b7 = false := by simpa using hlf
      refine wpOp_at rfl rfl ?_
      simp only [List.getElem_toArray, List.getElem_cons_zero, List.getElem_cons_succ]
      simp [Region.binds] at haf
      subst haf
      obtain ⟨hF, hT, hN, hO, hG, hq, hq2⟩ := hinv
      have eA : b10 = false := by
        cases hb : b10 with
        | false => rfl
        | true => have := hq hb; simp at this
      have eS : b12 = false := by
        cases hb : b12 with
        | false => rfl
        | true => have := hq2 hb; rw [eA] at this; cases this
      subst eA eS
      simp only [cond_false] at hT
      have hx : w'.cell? ⟨fb, p, none⟩ = some v := by rw [hT.cell]; simpa using hv
      refine op_val (v := v) ?_ (show N15.J wr B sb fb L p n i vs v r a0 _ _ _ from ⟨hB, b0, b1, b2, b3, b4, b5, true, true, b8, b9, false, b11, false, bn, g2, cap2, rfl, N15.p7 .., hF, hT, hN, hO, hG, (fun h => by cases h), (fun h => by cases h)⟩)
      simp only [execOp, N15.e6 hs0]
      go_simp
    · obtain rfl : b8 = false := by simpa using hlf
      refine wpOp_at rfl rfl ?_
      simp only [List.getElem_toArray, List.getElem_cons_zero, List.getElem_cons_succ]
      refine op_val (v := (.int .i64 (i : Int))) ?_ (show N15.J wr B sb fb L p n i vs v r a0 _ _ _ from ⟨hB, b0, b1, b2, b3, b4, b5, b6, b7, true, b9, b10, b11, b12, bn, g2, cap2, rfl, N15.p8 .., hinv⟩)
      simp only [execOp, N15.f7, g7]
      go_simp
    · obtain rfl : b9 = false := by simpa using hlf
      refine wpOp_at rfl rfl ?_
      simp only [List.getElem_toArray, List.getElem_cons_zero, List.getElem_cons_succ]
      simp [Region.binds] at haf
      subst haf
      obtain ⟨hF, hT, hN, hO, hG, hq, hq2⟩ := hinv
      have eA : b10 = false := by
        cases hb : b10 with
        | false => rfl
        | true => have := hq hb; simp at this
      have eS : b12 = false := by
        cases hb : b12 with
        | false => rfl
        | true => have := hq2 hb; rw [eA] at this; cases this
      subst eA eS
      simp only [cond_false] at hT
      refine op_run (v := .slice (some ⟨w'.heap.size, 0, none⟩) 1 1) (w' := w'.alloc (.cells #[.int .i64 (i : Int)] 3)) ?_ (show N15.J wr B sb fb L p n i vs v r a0 _ _ _ from ⟨hB, b0, b1, b2, b3, b4, b5, b6, b7, true, true, false, b11, false, w'.heap.size, g2, cap2, rfl, N15.p9 .., hF.alloc _, (by simpa using hT.alloc _), fun _ _ => ⟨Blk.new _ _ _, hF.size⟩, fun h => (hO h).alloc _, (fun h => by cases h), (fun h => by cases h), (fun h => by cases h)⟩)
      simp only [execOp, List.map_toArray, List.map_cons, List.map_nil, N15.e8 hs0]
      go_simp
    · obtain rfl : b10 = false := by simpa using hlf
      refine wpOp_at rfl rfl ?_
      simp only [List.getElem_toArray, List.getElem_cons_zero, List.getElem_cons_succ]
      simp [Region.binds] at haf
      obtain ⟨a0, a1⟩ := haf
      subst a0 a1
      obtain ⟨hF, hT, hN, hO, hG, hq, hq2⟩ := hinv
      have eS : b12 = false := by
        cases hb : b12 with
        | false => rfl
        | true => have := hq2 hb; cases this
      subst eS
      simp only [cond_false] at hT
      obtain ⟨hN1, hN2⟩ := hN rfl rfl
      obtain ⟨i0, hi, hz0, hz1, hz2⟩ := info_parts info3
      refine wp_append_lies _ _ _ 29 rfl B 3 i0 _ 1 8 Try.underlying29 hi hz0 hz1 hz2 (by rfl) (by decide) v r.length (r.map (.int .i64)) (by simp only [N15.e7 hs0, N15.e9 hs0]) (hO rfl) ⟨bn, 0, none⟩ 1 1 [.int .i64 (i : Int)] (by simp only [N15.e7 hs0, N15.e9 hs0]) (by rfl) (World.news_of_block hN1) (by simp [Value.oneCell']) (by decide) (by simp only [maxLen]; omega) (by omega) (Nat.le_trans hbase hF.size) w'.heap.size rfl ?_
      intro g cap w1 hown1 hgrow hat hlt
      have f1 : Fr v.ownBlock.toList w' w1 := Fr.of_grown hgrow (fun k hk _ => by simp [hk])
      exact ⟨hB, b0, b1, b2, b3, b4, b5, b6, true, b8, true, true, b11, false, bn, g, cap, rfl, N15.p10 .., hF.trans f1 (fun x hx _ => List.mem_cons_of_mem _ hx), (by simpa using hT.fr f1 (by simpa using hne)), (fun _ h => by cases h), (fun h => by cases h), fun _ => ⟨by simpa using hown1, by
        rcases hat with h | h
        · exact .inl h
        · exact .inr (by rw [h]; exact hF.size)⟩, (fun _ => ⟨rfl, rfl⟩), (fun h => by cases h)⟩
    · obtain rfl : b11 = false := by simpa using hlf
      refine wpOp_at rfl rfl ?_
      simp only [List.getElem_toArray, List.getElem_cons_zero, List.getElem_cons_succ]
      simp [Region.binds] at haf
      obtain ⟨a0, a1, a2, a3, a4, a5, a6, a7, a8, a9, a10, a11, a12⟩ := haf
      subst a0 a1 a3 a5 a6 a7 a8 a9 a10 a11 a12
      refine op_val (v := (.pointer (some ⟨fb, p, none⟩))) ?_ (show N15.J wr B sb fb L p n i vs v r a0 _ _ _ from ⟨hB, true, true, true, true, true, true, true, true, true, true, true, true, b12, bn, g2, cap2, rfl, N15.p11 .., hinv⟩)
      simp only [execOp, N15.e0 hs0, N15.e2 hs0]
      go_simp
    · obtain rfl : b12 = false := by simpa using hlf
      refine wpOp_at rfl rfl ?_
      simp only [List.getElem_toArray, List.getElem_cons_zero, List.getElem_cons_succ]
      simp [Region.binds] at haf
      obtain ⟨a0, a1, a2, a3, a4, a5, a6, a7, a8, a9, a10, a11, a12⟩ := haf
      subst a0 a1 a2 a3 a4 a5 a6 a7 a8 a9 a10 a11
      obtain ⟨hF, hT, hN, hO, hG, hq, hq2⟩ := hinv
      simp only [cond_false] at hT
      have hx : w'.cell? ⟨fb, p, none⟩ = some v := by rw [hT.cell]; simpa using hv
      have hfz := hT.free p
      obtain ⟨hG1, hG2⟩ := hG rfl
      obtain ⟨hq3, hq4⟩ := hq rfl
      skip
      have fs : Fr [fb] w' (w'.setCell ⟨fb, p, none⟩ (.slice (some ⟨g2, 0, none⟩) (r.length + 1) cap2)) := (Fr.refl _ _).setCell (by simp) _
      have hT2 := hT.set p (.slice (some ⟨g2, 0, none⟩) (r.length + 1) cap2)
      have hgf : g2 ≠ fb := by
        rintro rfl
        rcases hG2 with h | h
        · exact hne h
        · have := hb.lt
          omega
      refine op_store (t := 29) (p := .pointer (some ⟨fb, p, none⟩)) (v := (.slice (some ⟨g2, 0, none⟩) (r.length + 1) cap2)) rfl (by simp only [N15.e11 hs0, N15.e10 hs0]) (by simp only [N15.e11 hs0, N15.e10 hs0]) (w' := w'.setCell ⟨fb, p, none⟩ (.slice (some ⟨g2, 0, none⟩) (r.length + 1) cap2)) (by go_simp) (show N15.J wr B sb fb L p n i vs v r a0 _ _ _ from ⟨hB, true, true, true, true, true, true, true, true, true, true, true, true, true, bn, g2, cap2, rfl, rfl, hF.trans fs (fun x hx _ => by simp at hx; simp [hx]), (by simpa using hT2), (fun _ h => by cases h), (fun h => by cases h), fun _ => ⟨own_fr hG1 fs (fun k hk => by simp [Value.ownBlock] at hk; simp [← hk, hgf]), hG2⟩, (fun _ => ⟨rfl, rfl⟩), (fun _ => rfl)⟩)
/-- The frame inside the region: what has come up lies in its slots. -/
def N17.A (wr : World) (B sb fb L p n i : Nat) (vs : List Value) (v : Value) (r : List Int) (bn : Nat) (g2 : Nat) (cap2 : Nat) (b0 b1 b2 b3 b4 b5 b6 b7 b8 b9 b10 b11 b12 b13 b14 b15 b16 b17 : Bool) (a0 : Act) : Act := putIf b0 120 (.pointer (some ⟨L, 0, none⟩)) (putIf b1 121 (.pointer (some ⟨L, 0, none⟩)) (putIf b2 122 (.pointer (some ⟨L, 9, none⟩)) (putIf b3 123 (.slice (some ⟨fb, 0, none⟩) n n) (putIf b4 124 (.pointer (some ⟨sb, 2, none⟩)) (putIf b5 125 (.int .i64 (p : Int)) (putIf b6 126 (.pointer (some ⟨L, 0, none⟩)) (putIf b7 127 (.pointer (some ⟨L, 0, none⟩)) (putIf b8 128 (.pointer (some ⟨L, 9, none⟩)) (putIf b9 129 (.slice (some ⟨fb, 0, none⟩) n n) (putIf b10 130 (.pointer (some ⟨sb, 2, none⟩)) (putIf b11 131 (.int .i64 (p : Int)) (putIf b12 132 (.pointer (some ⟨fb, p, none⟩)) (putIf b13 133 v (putIf b14 134 (.int .i64 (i : Int)) (putIf b15 135 (.slice (some ⟨bn, 0, none⟩) 1 1) (putIf b16 136 (.slice (some ⟨g2, 0, none⟩) (r.length + 1) cap2) (putIf b17 137 (.pointer (some ⟨fb, p, none⟩)) (a0))))))))))))))))))
theorem N17.p0 (wr : World) (B sb fb L p n i : Nat) (vs : List Value) (v : Value) (r : List Int) (bn : Nat) (g2 : Nat) (cap2 : Nat)  (b1 b2 b3 b4 b5 b6 b7 b8 b9 b10 b11 b12 b13 b14 b15 b16 b17 : Bool) (a0 : Act) :
    (N17.A wr B sb fb L p n i vs v r bn g2 cap2 false b1 b2 b3 b4 b5 b6 b7 b8 b9 b10 b11 b12 b13 b14 b15 b16 b17 a0).put (some 120) (.pointer (some ⟨L, 0, none⟩)) = N17.A wr B sb fb L p n i vs v r bn g2 cap2 true b1 b2 b3 b4 b5 b6 b7 b8 b9 b10 b11 b12 b13 b14 b15 b16 b17 a0 := by
  simp only [N17.A, putIf_put, ne_eq, Nat.reduceEqDiff, not_false_eq_true]
  rfl
theorem N17.e0 {wr : World} {B sb fb L p n i : Nat} {vs : List Value} {v : Value} {r : List Int} {bn : Nat} {g2 : Nat} {cap2 : Nat} {b1 b2 b3 b4 b5 b6 b7 b8 b9 b10 b11 b12 b13 b14 b15 b16 b17 : Bool} {a0 : Act} (hs : a0.tmps.size = 185) : (N17.A wr B sb fb L p n i vs v r bn g2 cap2 true b1 b2 b3 b4 b5 b6 b7 b8 b9 b10 b11 b12 b13 b14 b15 b16 b17 a0).eval (.tmp 120) = (.pointer (some ⟨L, 0, none⟩)) := by
  simp [N17.A, eval_putIf, eval_put, size_putIf, hs]
theorem N17.p1 (wr : World) (B sb fb L p n i : Nat) (vs : List Value) (v : Value) (r : List Int) (bn : Nat) (g2 : Nat) (cap2 : Nat)  (b0 b2 b3 b4 b5 b6 b7 b8 b9 b10 b11 b12 b13 b14 b15 b16 b17 : Bool) (a0 : Act) :
    (N17.A wr B sb fb L p n i vs v r bn g2 cap2 b0 false b2 b3 b4 b5 b6 b7 b8 b9 b10 b11 b12 b13 b14 b15 b16 b17 a0).put (some 121) (.pointer (some ⟨L, 0, none⟩)) = N17.A wr B sb fb L p n i vs v r bn g2 cap2 b0 true b2 b3 b4 b5 b6 b7 b8 b9 b10 b11 b12 b13 b14 b15 b16 b17 a0 := by
  simp only [N17.A, putIf_put, ne_eq, Nat.reduceEqDiff, not_false_eq_true]
  rfl
theorem N17.e1 {wr : World} {B sb fb L p n i : Nat} {vs : List Value} {v : Value} {r : List Int} {bn : Nat} {g2 : Nat} {cap2 : Nat} {b0 b2 b3 b4 b5 b6 b7 b8 b9 b10 b11 b12 b13 b14 b15 b16 b17 : Bool} {a0 : Act} (hs : a0.tmps.size = 185) : (N17.A wr B sb fb L p n i vs v r bn g2 cap2 b0 true b2 b3 b4 b5 b6 b7 b8 b9 b10 b11 b12 b13 b14 b15 b16 b17 a0).eval (.tmp 121) = (.pointer (some ⟨L, 0, none⟩)) := by
  simp [N17.A, eval_putIf, eval_put, size_putIf, hs]
theorem N17.p2 (wr : World) (B sb fb L p n i : Nat) (vs : List Value) (v : Value) (r : List Int) (bn : Nat) (g2 : Nat) (cap2 : Nat)  (b0 b1 b3 b4 b5 b6 b7 b8 b9 b10 b11 b12 b13 b14 b15 b16 b17 : Bool) (a0 : Act) :
    (N17.A wr B sb fb L p n i vs v r bn g2 cap2 b0 b1 false b3 b4 b5 b6 b7 b8 b9 b10 b11 b12 b13 b14 b15 b16 b17 a0).put (some 122) (.pointer (some ⟨L, 9, none⟩)) = N17.A wr B sb fb L p n i vs v r bn g2 cap2 b0 b1 true b3 b4 b5 b6 b7 b8 b9 b10 b11 b12 b13 b14 b15 b16 b17 a0 := by
  simp only [N17.A, putIf_put, ne_eq, Nat.reduceEqDiff, not_false_eq_true]
  rfl
theorem N17.e2 {wr : World} {B sb fb L p n i : Nat} {vs : List Value} {v : Value} {r : List Int} {bn : Nat} {g2 : Nat} {cap2 : Nat} {b0 b1 b3 b4 b5 b6 b7 b8 b9 b10 b11 b12 b13 b14 b15 b16 b17 : Bool} {a0 : Act} (hs : a0.tmps.size = 185) : (N17.A wr B sb fb L p n i vs v r bn g2 cap2 b0 b1 true b3 b4 b5 b6 b7 b8 b9 b10 b11 b12 b13 b14 b15 b16 b17 a0).eval (.tmp 122) = (.pointer (some ⟨L, 9, none⟩)) := by
  simp [N17.A, eval_putIf, eval_put, size_putIf, hs]
theorem N17.p3 (wr : World) (B sb fb L p n i : Nat) (vs : List Value) (v : Value) (r : List Int) (bn : Nat) (g2 : Nat) (cap2 : Nat)  (b0 b1 b2 b4 b5 b6 b7 b8 b9 b10 b11 b12 b13 b14 b15 b16 b17 : Bool) (a0 : Act) :
    (N17.A wr B sb fb L p n i vs v r bn g2 cap2 b0 b1 b2 false b4 b5 b6 b7 b8 b9 b10 b11 b12 b13 b14 b15 b16 b17 a0).put (some 123) (.slice (some ⟨fb, 0, none⟩) n n) = N17.A wr B sb fb L p n i vs v r bn g2 cap2 b0 b1 b2 true b4 b5 b6 b7 b8 b9 b10 b11 b12 b13 b14 b15 b16 b17 a0 := by
  simp only [N17.A, putIf_put, ne_eq, Nat.reduceEqDiff, not_false_eq_true]
  rfl
theorem N17.e3 {wr : World} {B sb fb L p n i : Nat} {vs : List Value} {v : Value} {r : List Int} {bn : Nat} {g2 : Nat} {cap2 : Nat} {b0 b1 b2 b4 b5 b6 b7 b8 b9 b10 b11 b12 b13 b14 b15 b16 b17 : Bool} {a0 : Act} (hs : a0.tmps.size = 185) : (N17.A wr B sb fb L p n i vs v r bn g2 cap2 b0 b1 b2 true b4 b5 b6 b7 b8 b9 b10 b11 b12 b13 b14 b15 b16 b17 a0).eval (.tmp 123) = (.slice (some ⟨fb, 0, none⟩) n n) := by
  simp [N17.A, eval_putIf, eval_put, size_putIf, hs]
theorem N17.p4 (wr : World) (B sb fb L p n i : Nat) (vs : List Value) (v : Value) (r : List Int) (bn : Nat) (g2 : Nat) (cap2 : Nat)  (b0 b1 b2 b3 b5 b6 b7 b8 b9 b10 b11 b12 b13 b14 b15 b16 b17 : Bool) (a0 : Act) :
    (N17.A wr B sb fb L p n i vs v r bn g2 cap2 b0 b1 b2 b3 false b5 b6 b7 b8 b9 b10 b11 b12 b13 b14 b15 b16 b17 a0).put (some 124) (.pointer (some ⟨sb, 2, none⟩)) = N17.A wr B sb fb L p n i vs v r bn g2 cap2 b0 b1 b2 b3 true b5 b6 b7 b8 b9 b10 b11 b12 b13 b14 b15 b16 b17 a0 := by
  simp only [N17.A, putIf_put, ne_eq, Nat.reduceEqDiff, not_false_eq_true]
  rfl
theorem N17.e4 {wr : World} {B sb fb L p n i : Nat} {vs : List Value} {v : Value} {r : List Int} {bn : Nat} {g2 : Nat} {cap2 : Nat} {b0 b1 b2 b3 b5 b6 b7 b8 b9 b10 b11 b12 b13 b14 b15 b16 b17 : Bool} {a0 : Act} (hs : a0.tmps.size = 185) : (N17.A wr B sb fb L p n i vs v r bn g2 cap2 b0 b1 b2 b3 true b5 b6 b7 b8 b9 b10 b11 b12 b13 b14 b15 b16 b17 a0).eval (.tmp 124) = (.pointer (some ⟨sb, 2, none⟩)) := by
  simp [N17.A, eval_putIf, eval_put, size_putIf, hs]
theorem N17.p5 (wr : World) (B sb fb L p n i : Nat) (vs : List Value) (v : Value) (r : List Int) (bn : Nat) (g2 : Nat) (cap2 : Nat)  (b0 b1 b2 b3 b4 b6 b7 b8 b9 b10 b11 b12 b13 b14 b15 b16 b17 : Bool) (a0 : Act) :
    (N17.A wr B sb fb L p n i vs v r bn g2 cap2 b0 b1 b2 b3 b4 false b6 b7 b8 b9 b10 b11 b12 b13 b14 b15 b16 b17 a0).put (some 125) (.int .i64 (p : Int)) = N17.A wr B sb fb L p n i vs v r bn g2 cap2 b0 b1 b2 b3 b4 true b6 b7 b8 b9 b10 b11 b12 b13 b14 b15 b16 b17 a0 := by
  simp only [N17.A, putIf_put, ne_eq, Nat.reduceEqDiff, not_false_eq_true]
  rfl
theorem N17.e5 {wr : World} {B sb fb L p n i : Nat} {vs : List Value} {v : Value} {r : List Int} {bn : Nat} {g2 : Nat} {cap2 : Nat} {b0 b1 b2 b3 b4 b6 b7 b8 b9 b10 b11 b12 b13 b14 b15 b16 b17 : Bool} {a0 : Act} (hs : a0.tmps.size = 185) : (N17.A wr B sb fb L p n i vs v r bn g2 cap2 b0 b1 b2 b3 b4 true b6 b7 b8 b9 b10 b11 b12 b13 b14 b15 b16 b17 a0).eval (.tmp 125) = (.int .i64 (p : Int)) := by
  simp [N17.A, eval_putIf, eval_put, size_putIf, hs]
theorem N17.p6 (wr : World) (B sb fb L p n i : Nat) (vs : List Value) (v : Value) (r : List Int) (bn : Nat) (g2 : Nat) (cap2 : Nat)  (b0 b1 b2 b3 b4 b5 b7 b8 b9 b10 b11 b12 b13 b14 b15 b16 b17 : Bool) (a0 : Act) :
    (N17.A wr B sb fb L p n i vs v r bn g2 cap2 b0 b1 b2 b3 b4 b5 false b7 b8 b9 b10 b11 b12 b13 b14 b15 b16 b17 a0).put (some 126) (.pointer (some ⟨L, 0, none⟩)) = N17.A wr B sb fb L p n i vs v r bn g2 cap2 b0 b1 b2 b3 b4 b5 true b7 b8 b9 b10 b11 b12 b13 b14 b15 b16 b17 a0 := by
  simp only [N17.A, putIf_put, ne_eq, Nat.reduceEqDiff, not_false_eq_true]
  rfl
theorem N17.e6 {wr : World} {B sb fb L p n i : Nat} {vs : List Value} {v : Value} {r : List Int} {bn : Nat} {g2 : Nat} {cap2 : Nat} {b0 b1 b2 b3 b4 b5 b7 b8 b9 b10 b11 b12 b13 b14 b15 b16 b17 : Bool} {a0 : Act} (hs : a0.tmps.size = 185) : (N17.A wr B sb fb L p n i vs v r bn g2 cap2 b0 b1 b2 b3 b4 b5 true b7 b8 b9 b10 b11 b12 b13 b14 b15 b16 b17 a0).eval (.tmp 126) = (.pointer (some ⟨L, 0, none⟩)) := by
  simp [N17.A, eval_putIf, eval_put, size_putIf, hs]
theorem N17.p7 (wr : World) (B sb fb L p n i : Nat) (vs : List Value) (v : Value) (r : List Int) (bn : Nat) (g2 : Nat) (cap2 : Nat)  (b0 b1 b2 b3 b4 b5 b6 b8 b9 b10 b11 b12 b13 b14 b15 b16 b17 : Bool) (a0 : Act) :
    (N17.A wr B sb fb L p n i vs v r bn g2 cap2 b0 b1 b2 b3 b4 b5 b6 false b8 b9 b10 b11 b12 b13 b14 b15 b16 b17 a0).put (some 127) (.pointer (some ⟨L, 0, none⟩)) = N17.A wr B sb fb L p n i vs v r bn g2 cap2 b0 b1 b2 b3 b4 b5 b6 true b8 b9 b10 b11 b12 b13 b14 b15 b16 b17 a0 := by
  simp only [N17.A, putIf_put, ne_eq, Nat.reduceEqDiff, not_false_eq_true]
  rfl
theorem N17.e7 {wr : World} {B sb fb L p n i : Nat} {vs : List Value} {v : Value} {r : List Int} {bn : Nat} {g2 : Nat} {cap2 : Nat} {b0 b1 b2 b3 b4 b5 b6 b8 b9 b10 b11 b12 b13 b14 b15 b16 b17 : Bool} {a0 : Act} (hs : a0.tmps.size = 185) : (N17.A wr B sb fb L p n i vs v r bn g2 cap2 b0 b1 b2 b3 b4 b5 b6 true b8 b9 b10 b11 b12 b13 b14 b15 b16 b17 a0).eval (.tmp 127) = (.pointer (some ⟨L, 0, none⟩)) := by
  simp [N17.A, eval_putIf, eval_put, size_putIf, hs]
theorem N17.p8 (wr : World) (B sb fb L p n i : Nat) (vs : List Value) (v : Value) (r : List Int) (bn : Nat) (g2 : Nat) (cap2 : Nat)  (b0 b1 b2 b3 b4 b5 b6 b7 b9 b10 b11 b12 b13 b14 b15 b16 b17 : Bool) (a0 : Act) :
    (N17.A wr B sb fb L p n i vs v r bn g2 cap2 b0 b1 b2 b3 b4 b5 b6 b7 false b9 b10 b11 b12 b13 b14 b15 b16 b17 a0).put (some 128) (.pointer (some ⟨L, 9, none⟩)) = N17.A wr B sb fb L p n i vs v r bn g2 cap2 b0 b1 b2 b3 b4 b5 b6 b7 true b9 b10 b11 b12 b13 b14 b15 b16 b17 a0 := by
  simp only [N17.A, putIf_put, ne_eq, Nat.reduceEqDiff, not_false_eq_true]
  rfl
theorem N17.e8 {wr : World} {B sb fb L p n i : Nat} {vs : List Value} {v : Value} {r : List Int} {bn : Nat} {g2 : Nat} {cap2 : Nat} {b0 b1 b2 b3 b4 b5 b6 b7 b9 b10 b11 b12 b13 b14 b15 b16 b17 : Bool} {a0 : Act} (hs : a0.tmps.size = 185) : (N17.A wr B sb fb L p n i vs v r bn g2 cap2 b0 b1 b2 b3 b4 b5 b6 b7 true b9 b10 b11 b12 b13 b14 b15 b16 b17 a0).eval (.tmp 128) = (.pointer (some ⟨L, 9, none⟩)) := by
  simp [N17.A, eval_putIf, eval_put, size_putIf, hs]
theorem N17.p9 (wr : World) (B sb fb L p n i : Nat) (vs : List Value) (v : Value) (r : List Int) (bn : Nat) (g2 : Nat) (cap2 : Nat)  (b0 b1 b2 b3 b4 b5 b6 b7 b8 b10 b11 b12 b13 b14 b15 b16 b17 : Bool) (a0 : Act) :
    (N17.A wr B sb fb L p n i vs v r bn g2 cap2 b0 b1 b2 b3 b4 b5 b6 b7 b8 false b10 b11 b12 b13 b14 b15 b16 b17 a0).put (some 129) (.slice (some ⟨fb, 0, none⟩) n n) = N17.A wr B sb fb L p n i vs v r bn g2 cap2 b0 b1 b2 b3 b4 b5 b6 b7 b8 true b10 b11 b12 b13 b14 b15 b16 b17 a0 := by
  simp only [N17.A, putIf_put, ne_eq, Nat.reduceEqDiff, not_false_eq_true]
  rfl
theorem N17.e9 {wr : World} {B sb fb L p n i : Nat} {vs : List Value} {v : Value} {r : List Int} {bn : Nat} {g2 : Nat} {cap2 : Nat} {b0 b1 b2 b3 b4 b5 b6 b7 b8 b10 b11 b12 b13 b14 b15 b16 b17 : Bool} {a0 : Act} (hs : a0.tmps.size = 185) : (N17.A wr B sb fb L p n i vs v r bn g2 cap2 b0 b1 b2 b3 b4 b5 b6 b7 b8 true b10 b11 b12 b13 b14 b15 b16 b17 a0).eval (.tmp 129) = (.slice (some ⟨fb, 0, none⟩) n n) := by
  simp [N17.A, eval_putIf, eval_put, size_putIf, hs]
theorem N17.p10 (wr : World) (B sb fb L p n i : Nat) (vs : List Value) (v : Value) (r : List Int) (bn : Nat) (g2 : Nat) (cap2 : Nat)  (b0 b1 b2 b3 b4 b5 b6 b7 b8 b9 b11 b12 b13 b14 b15 b16 b17 : Bool) (a0 : Act) :
    (N17.A wr B sb fb L p n i vs v r bn g2 cap2 b0 b1 b2 b3 b4 b5 b6 b7 b8 b9 false b11 b12 b13 b14 b15 b16 b17 a0).put (some 130) (.pointer (some ⟨sb, 2, none⟩)) = N17.A wr B sb fb L p n i vs v r bn g2 cap2 b0 b1 b2 b3 b4 b5 b6 b7 b8 b9 true b11 b12 b13 b14 b15 b16 b17 a0 := by
  simp only [N17.A, putIf_put, ne_eq, Nat.reduceEqDiff, not_false_eq_true]
  rfl
theorem N17.e10 {wr : World} {B sb fb L p n i : Nat} {vs : List Value} {v : Value} {r : List Int} {bn : Nat} {g2 : Nat} {cap2 : Nat} {b0 b1 b2 b3 b4 b5 b6 b7 b8 b9 b11 b12 b13 b14 b15 b16 b17 : Bool} {a0 : Act} (hs : a0.tmps.size = 185) : (N17.A wr B sb fb L p n i vs v r bn g2 cap2 b0 b1 b2 b3 b4 b5 b6 b7 b8 b9 true b11 b12 b13 b14 b15 b16 b17 a0).eval (.tmp 130) = (.pointer (some ⟨sb, 2, none⟩)) := by
  simp [N17.A, eval_putIf, eval_put, size_putIf, hs]
theorem N17.p11 (wr : World) (B sb fb L p n i : Nat) (vs : List Value) (v : Value) (r : List Int) (bn : Nat) (g2 : Nat) (cap2 : Nat)  (b0 b1 b2 b3 b4 b5 b6 b7 b8 b9 b10 b12 b13 b14 b15 b16 b17 : Bool) (a0 : Act) :
    (N17.A wr B sb fb L p n i vs v r bn g2 cap2 b0 b1 b2 b3 b4 b5 b6 b7 b8 b9 b10 false b12 b13 b14 b15 b16 b17 a0).put (some 131) (.int .i64 (p : Int)) = N17.A wr B sb fb L p n i vs v r bn g2 cap2 b0 b1 b2 b3 b4 b5 b6 b7 b8 b9 b10 true b12 b13 b14 b15 b16 b17 a0 := by
  simp only [N17.A, putIf_put, ne_eq, Nat.reduceEqDiff, not_false_eq_true]
  rfl
theorem N17.e11 {wr : World} {B sb fb L p n i : Nat} {vs : List Value} {v : Value} {r : List Int} {bn : Nat} {g2 : Nat} {cap2 : Nat} {b0 b1 b2 b3 b4 b5 b6 b7 b8 b9 b10 b12 b13 b14 b15 b16 b17 : Bool} {a0 : Act} (hs : a0.tmps.size = 185) : (N17.A wr B sb fb L p n i vs v r bn g2 cap2 b0 b1 b2 b3 b4 b5 b6 b7 b8 b9 b10 true b12 b13 b14 b15 b16 b17 a0).eval (.tmp 131) = (.int .i64 (p : Int)) := by
  simp [N17.A, eval_putIf, eval_put, size_putIf, hs]
theorem N17.p12 (wr : World) (B sb fb L p n i : Nat) (vs : List Value) (v : Value) (r : List Int) (bn : Nat) (g2 : Nat) (cap2 : Nat)  (b0 b1 b2 b3 b4 b5 b6 b7 b8 b9 b10 b11 b13 b14 b15 b16 b17 : Bool) (a0 : Act) :
    (N17.A wr B sb fb L p n i vs v r bn g2 cap2 b0 b1 b2 b3 b4 b5 b6 b7 b8 b9 b10 b11 false b13 b14 b15 b16 b17 a0).put (some 132) (.pointer (some ⟨fb, p, none⟩)) = N17.A wr B sb fb L p n i vs v r bn g2 cap2 b0 b1 b2 b3 b4 b5 b6 b7 b8 b9 b10 b11 true b13 b14 b15 b16 b17 a0 := by
  simp only [N17.A, putIf_put, ne_eq, Nat.reduceEqDiff, not_false_eq_true]
  rfl
theorem N17.e12 {wr : World} {B sb fb L p n i : Nat} {vs : List Value} {v : Value} {r : List Int} {bn : Nat} {g2 : Nat} {cap2 : Nat} {b0 b1 b2 b3 b4 b5 b6 b7 b8 b9 b10 b11 b13 b14 b15 b16 b17 : Bool} {a0 : Act} (hs : a0.tmps.size = 185) : (N17.A wr B sb fb L p n i vs v r bn g2 cap2 b0 b1 b2 b3 b4 b5 b6 b7 b8 b9 b10 b11 true b13 b14 b15 b16 b17 a0).eval (.tmp 132) = (.pointer (some ⟨fb, p, none⟩)) := by
  simp [N17.A, eval_putIf, eval_put, size_putIf, hs]
theorem N17.p13 (wr : World) (B sb fb L p n i : Nat) (vs : List Value) (v : Value) (r : List Int) (bn : Nat) (g2 : Nat) (cap2 : Nat)  (b0 b1 b2 b3 b4 b5 b6 b7 b8 b9 b10 b11 b12 b14 b15 b16 b17 : Bool) (a0 : Act) :
    (N17.A wr B sb fb L p n i vs v r bn g2 cap2 b0 b1 b2 b3 b4 b5 b6 b7 b8 b9 b10 b11 b12 false b14 b15 b16 b17 a0).put (some 133) v = N17.A wr B sb fb L p n i vs v r bn g2 cap2 b0 b1 b2 b3 b4 b5 b6 b7 b8 b9 b10 b11 b12 true b14 b15 b16 b17 a0 := by
  simp only [N17.A, putIf_put, ne_eq, Nat.reduceEqDiff, not_false_eq_true]
  rfl
theorem N17.e13 {wr : World} {B sb fb L p n i : Nat} {vs : List Value} {v : Value} {r : List Int} {bn : Nat} {g2 : Nat} {cap2 : Nat} {b0 b1 b2 b3 b4 b5 b6 b7 b8 b9 b10 b11 b12 b14 b15 b16 b17 : Bool} {a0 : Act} (hs : a0.tmps.size = 185) : (N17.A wr B sb fb L p n i vs v r bn g2 cap2 b0 b1 b2 b3 b4 b5 b6 b7 b8 b9 b10 b11 b12 true b14 b15 b16 b17 a0).eval (.tmp 133) = v := by
  simp [N17.A, eval_putIf, eval_put, size_putIf, hs]
theorem N17.p14 (wr : World) (B sb fb L p n i : Nat) (vs : List Value) (v : Value) (r : List Int) (bn : Nat) (g2 : Nat) (cap2 : Nat)  (b0 b1 b2 b3 b4 b5 b6 b7 b8 b9 b10 b11 b12 b13 b15 b16 b17 : Bool) (a0 : Act) :
    (N17.A wr B sb fb L p n i vs v r bn g2 cap2 b0 b1 b2 b3 b4 b5 b6 b7 b8 b9 b10 b11 b12 b13 false b15 b16 b17 a0).put (some 134) (.int .i64 (i : Int)) = N17.A wr B sb fb L p n i vs v r bn g2 cap2 b0 b1 b2 b3 b4 b5 b6 b7 b8 b9 b10 b11 b12 b13 true b15 b16 b17 a0 := by
  simp only [N17.A, putIf_put, ne_eq, Nat.reduceEqDiff, not_false_eq_true]
  rfl
theorem N17.e14 {wr : World} {B sb fb L p n i : Nat} {vs : List Value} {v : Value} {r : List Int} {bn : Nat} {g2 : Nat} {cap2 : Nat} {b0 b1 b2 b3 b4 b5 b6 b7 b8 b9 b10 b11 b12 b13 b15 b16 b17 : Bool} {a0 : Act} (hs : a0.tmps.size = 185) : (N17.A wr B sb fb L p n i vs v r bn g2 cap2 b0 b1 b2 b3 b4 b5 b6 b7 b8 b9 b10 b11 b12 b13 true b15 b16 b17 a0).eval (.tmp 134) = (.int .i64 (i : Int)) := by
  simp [N17.A, eval_putIf, eval_put, size_putIf, hs]
theorem N17.p15 (wr : World) (B sb fb L p n i : Nat) (vs : List Value) (v : Value) (r : List Int) (bn : Nat) (g2 : Nat) (cap2 : Nat) (bn' : Nat) (b0 b1 b2 b3 b4 b5 b6 b7 b8 b9 b10 b11 b12 b13 b14 b16 b17 : Bool) (a0 : Act) :
    (N17.A wr B sb fb L p n i vs v r bn' g2 cap2 b0 b1 b2 b3 b4 b5 b6 b7 b8 b9 b10 b11 b12 b13 b14 false b16 b17 a0).put (some 135) (.slice (some ⟨bn, 0, none⟩) 1 1) = N17.A wr B sb fb L p n i vs v r bn g2 cap2 b0 b1 b2 b3 b4 b5 b6 b7 b8 b9 b10 b11 b12 b13 b14 true b16 b17 a0 := by
  simp only [N17.A, putIf_put, ne_eq, Nat.reduceEqDiff, not_false_eq_true]
  rfl
theorem N17.e15 {wr : World} {B sb fb L p n i : Nat} {vs : List Value} {v : Value} {r : List Int} {bn : Nat} {g2 : Nat} {cap2 : Nat} {b0 b1 b2 b3 b4 b5 b6 b7 b8 b9 b10 b11 b12 b13 b14 b16 b17 : Bool} {a0 : Act} (hs : a0.tmps.size = 185) : (N17.A wr B sb fb L p n i vs v r bn g2 cap2 b0 b1 b2 b3 b4 b5 b6 b7 b8 b9 b10 b11 b12 b13 b14 true b16 b17 a0).eval (.tmp 135) = (.slice (some ⟨bn, 0, none⟩) 1 1) := by
  simp [N17.A, eval_putIf, eval_put, size_putIf, hs]
theorem N17.p16 (wr : World) (B sb fb L p n i : Nat) (vs : List Value) (v : Value) (r : List Int) (bn : Nat) (g2 : Nat) (cap2 : Nat) (g2' : Nat) (cap2' : Nat) (b0 b1 b2 b3 b4 b5 b6 b7 b8 b9 b10 b11 b12 b13 b14 b15 b17 : Bool) (a0 : Act) :
    (N17.A wr B sb fb L p n i vs v r bn g2' cap2' b0 b1 b2 b3 b4 b5 b6 b7 b8 b9 b10 b11 b12 b13 b14 b15 false b17 a0).put (some 136) (.slice (some ⟨g2, 0, none⟩) (r.length + 1) cap2) = N17.A wr B sb fb L p n i vs v r bn g2 cap2 b0 b1 b2 b3 b4 b5 b6 b7 b8 b9 b10 b11 b12 b13 b14 b15 true b17 a0 := by
  simp only [N17.A, putIf_put, ne_eq, Nat.reduceEqDiff, not_false_eq_true]
  rfl
theorem N17.e16 {wr : World} {B sb fb L p n i : Nat} {vs : List Value} {v : Value} {r : List Int} {bn : Nat} {g2 : Nat} {cap2 : Nat} {b0 b1 b2 b3 b4 b5 b6 b7 b8 b9 b10 b11 b12 b13 b14 b15 b17 : Bool} {a0 : Act} (hs : a0.tmps.size = 185) : (N17.A wr B sb fb L p n i vs v r bn g2 cap2 b0 b1 b2 b3 b4 b5 b6 b7 b8 b9 b10 b11 b12 b13 b14 b15 true b17 a0).eval (.tmp 136) = (.slice (some ⟨g2, 0, none⟩) (r.length + 1) cap2) := by
  simp [N17.A, eval_putIf, eval_put, size_putIf, hs]
theorem N17.p17 (wr : World) (B sb fb L p n i : Nat) (vs : List Value) (v : Value) (r : List Int) (bn : Nat) (g2 : Nat) (cap2 : Nat)  (b0 b1 b2 b3 b4 b5 b6 b7 b8 b9 b10 b11 b12 b13 b14 b15 b16 : Bool) (a0 : Act) :
    (N17.A wr B sb fb L p n i vs v r bn g2 cap2 b0 b1 b2 b3 b4 b5 b6 b7 b8 b9 b10 b11 b12 b13 b14 b15 b16 false a0).put (some 137) (.pointer (some ⟨fb, p, none⟩)) = N17.A wr B sb fb L p n i vs v r bn g2 cap2 b0 b1 b2 b3 b4 b5 b6 b7 b8 b9 b10 b11 b12 b13 b14 b15 b16 true a0 := by
  simp only [N17.A, putIf_put, ne_eq, Nat.reduceEqDiff, not_false_eq_true]
  rfl
theorem N17.e17 {wr : World} {B sb fb L p n i : Nat} {vs : List Value} {v : Value} {r : List Int} {bn : Nat} {g2 : Nat} {cap2 : Nat} {b0 b1 b2 b3 b4 b5 b6 b7 b8 b9 b10 b11 b12 b13 b14 b15 b16 : Bool} {a0 : Act} (hs : a0.tmps.size = 185) : (N17.A wr B sb fb L p n i vs v r bn g2 cap2 b0 b1 b2 b3 b4 b5 b6 b7 b8 b9 b10 b11 b12 b13 b14 b15 b16 true a0).eval (.tmp 137) = (.pointer (some ⟨fb, p, none⟩)) := by
  simp [N17.A, eval_putIf, eval_put, size_putIf, hs]
theorem N17.z (wr : World) (B sb fb L p n i : Nat) (vs : List Value) (v : Value) (r : List Int) (bn : Nat) (g2 : Nat) (cap2 : Nat) (a0 : Act) : a0 = N17.A wr B sb fb L p n i vs v r bn g2 cap2 false false false false false false false false false false false false false false false false false false a0 := rfl
theorem N17.size {wr : World} {B sb fb L p n i : Nat} {vs : List Value} {v : Value} {r : List Int} {bn : Nat} {g2 : Nat} {cap2 : Nat} {b0 b1 b2 b3 b4 b5 b6 b7 b8 b9 b10 b11 b12 b13 b14 b15 b16 b17 : Bool} {a0 : Act} : (N17.A wr B sb fb L p n i vs v r bn g2 cap2 b0 b1 b2 b3 b4 b5 b6 b7 b8 b9 b10 b11 b12 b13 b14 b15 b16 b17 a0).tmps.size = a0.tmps.size := by
  simp [N17.A, size_putIf]
theorem N17.f8 {wr : World} {B sb fb L p n i : Nat} {vs : List Value} {v : Value} {r : List Int} {bn : Nat} {g2 : Nat} {cap2 : Nat} {b0 b1 b2 b3 b4 b5 b6 b7 b8 b9 b10 b11 b12 b13 b14 b15 b16 b17 : Bool} {a0 : Act} : (N17.A wr B sb fb L p n i vs v r bn g2 cap2 b0 b1 b2 b3 b4 b5 b6 b7 b8 b9 b10 b11 b12 b13 b14 b15 b16 b17 a0).eval (.tmp 8) = a0.eval (.tmp 8) := by
  simp [N17.A, eval_putIf]
theorem N17.f7 {wr : World} {B sb fb L p n i : Nat} {vs : List Value} {v : Value} {r : List Int} {bn : Nat} {g2 : Nat} {cap2 : Nat} {b0 b1 b2 b3 b4 b5 b6 b7 b8 b9 b10 b11 b12 b13 b14 b15 b16 b17 : Bool} {a0 : Act} : (N17.A wr B sb fb L p n i vs v r bn g2 cap2 b0 b1 b2 b3 b4 b5 b6 b7 b8 b9 b10 b11 b12 b13 b14 b15 b16 b17 a0).eval (.tmp 7) = a0.eval (.tmp 7) := by
  simp [N17.A, eval_putIf]
theorem N17.f5 {wr : World} {B sb fb L p n i : Nat} {vs : List Value} {v : Value} {r : List Int} {bn : Nat} {g2 : Nat} {cap2 : Nat} {b0 b1 b2 b3 b4 b5 b6 b7 b8 b9 b10 b11 b12 b13 b14 b15 b16 b17 : Bool} {a0 : Act} : (N17.A wr B sb fb L p n i vs v r bn g2 cap2 b0 b1 b2 b3 b4 b5 b6 b7 b8 b9 b10 b11 b12 b13 b14 b15 b16 b17 a0).eval (.tmp 5) = a0.eval (.tmp 5) := by
  simp [N17.A, eval_putIf]
def N17.B (wr : World) (B sb fb L p n i : Nat) (vs : List Value) (v : Value) (r : List Int) (a0 : Act) : Prop := a0.tmps.size = 185 ∧ a0.eval (.tmp 8) = (.pointer (some ⟨sb, 0, none⟩)) ∧ a0.eval (.tmp 7) = (.int .i64 (i : Int)) ∧ a0.eval (.tmp 5) = (.pointer (some ⟨L, 0, none⟩))
def N17.I (wr : World) (B sb fb L p n i : Nat) (vs : List Value) (v : Value) (r : List Int) (bn : Nat) (g2 : Nat) (cap2 : Nat) (b0 b1 b2 b3 b4 b5 b6 b7 b8 b9 b10 b11 b12 b13 b14 b15 b16 b17 b18 : Bool) (w : World) : Prop := Fr (fb :: v.ownBlock.toList) wr w ∧ Blk w fb (bif b18 then (vs.set p (.slice (some ⟨g2, 0, none⟩) (r.length + 1) cap2)).toArray else vs.toArray) 29 ∧ (b15 = true → b16 = false → Blk w bn #[.int .i64 (i : Int)] 3 ∧ wr.heap.size ≤ bn) ∧ (b16 = false → w.ownsRow B 3 1 v r.length (r.map (.int .i64))) ∧ (b16 = true → w.ownsRow B 3 1 (.slice (some ⟨g2, 0, none⟩) (r.length + 1) cap2) (r.length + 1) ((r ++ [(i : Int)]).map (.int .i64)) ∧ (v.ownBlock = some g2 ∨ wr.heap.size ≤ g2)) ∧ (b16 = true → b13 = true ∧ b15 = true) ∧ (b18 = true → b16 = true)
/-- What stays true inside the region, whatever has come up. -/
def N17.J (wr : World) (B sb fb L p n i : Nat) (vs : List Value) (v : Value) (r : List Int) (a0 : Act) (l : Array Bool) (a : Act) (w : World) : Prop :=
  N17.B wr B sb fb L p n i vs v r a0 ∧ ∃ b0 b1 b2 b3 b4 b5 b6 b7 b8 b9 b10 b11 b12 b13 b14 b15 b16 b17 b18 bn g2 cap2, l = #[b0, b1, b2, b3, b4, b5, b6, b7, b8, b9, b10, b11, b12, b13, b14, b15, b16, b17, b18] ∧ a = N17.A wr B sb fb L p n i vs v r bn g2 cap2 b0 b1 b2 b3 b4 b5 b6 b7 b8 b9 b10 b11 b12 b13 b14 b15 b16 b17 a0 ∧ N17.I wr B sb fb L p n i vs v r bn g2 cap2 b0 b1 b2 b3 b4 b5 b6 b7 b8 b9 b10 b11 b12 b13 b14 b15 b16 b17 b18 w
attribute [irreducible] N17.A

set_option maxRecDepth 100000 in
set_option maxHeartbeats 8000000 in
theorem new17 {Q : Exit → Act → World → Prop} {t0 t1 t2 t3 t4 t6 t9 t10 t11 t12 t13 t14 t15 t16 t17 t18 t19 t20 t21 t22 t23 t24 t25 t26 t27 t28 t29 t30 t31 t32 t33 t34 t35 t36 t37 t38 t39 t40 t41 t42 t43 t44 t45 t46 t47 t48 t49 t50 t51 t52 t53 t54 t55 t56 t57 t58 t59 t60 t61 t62 t63 t64 t65 t66 t67 t68 t69 t70 t71 t72 t73 t74 t75 t76 t77 t78 t79 t80 t81 t82 t83 t84 t85 t86 t87 t88 t89 t90 t91 t92 t93 t94 t95 t96 t97 t98 t99 t100 t101 t102 t103 t104 t105 t106 t107 t108 t109 t110 t111 t112 t113 t114 t115 t116 t117 t118 t119 t120 t121 t122 t123 t124 t125 t126 t127 t128 t129 t130 t131 t132 t133 t134 t135 t136 t137 t138 t139 t140 t141 t142 t143 t144 t145 t146 t147 t148 t149 t150 t151 t152 t153 t154 t155 t156 t157 t158 t159 t160 t161 t162 t163 t164 t165 t166 t167 t168 t169 t170 t171 t172 t173 t174 t175 t176 t177 t178 t179 t180 t181 t182 t183 t184 : Value} {wr : World} {B sb fb L p n i : Nat} {vs : List Value} {v : Value} {r : List Int} (hs : wr.cell? ⟨sb, 2, none⟩ = some (.int .i64 (p : Int))) (hp : p < n) (hn : n ≤ 128) (hb : Blk wr fb vs.toArray 29) (hl : vs.length = n) (hv : vs[p]? = some v) (hown : wr.ownsRow B 3 1 v r.length (r.map (.int .i64))) (hr : r.length ≤ 128) (hbase : B ≤ wr.heap.size) (hne : v.ownBlock ≠ some fb) (hsn : v.ownBlock ≠ some sb) (hsf : sb ≠ fb) (hL : wr.cell? ⟨L, 9, none⟩ = some (.slice (some ⟨fb, 0, none⟩) n n)) (hLf : L ≠ fb) (hLn : v.ownBlock ≠ some L)
    (hQ : ∀ (u120 u121 u122 u123 u124 u125 u126 u127 u128 u129 u130 u131 u132 u133 u134 u135 u136 u137 : Value) (wx : World), (∃ g cap, Fr (fb :: v.ownBlock.toList) wr wx ∧ Blk wx fb (vs.set p (.slice (some ⟨g, 0, none⟩) (r.length + 1) cap)).toArray 29 ∧ wx.ownsRow B 3 1 (.slice (some ⟨g, 0, none⟩) (r.length + 1) cap) (r.length + 1) ((r ++ [(i : Int)]).map (.int .i64)) ∧ (v.ownBlock = some g ∨ wr.heap.size ≤ g)) → Q .normal ⟨#[t0, t1, t2, t3, t4, (.pointer (some ⟨L, 0, none⟩)), t6, (.int .i64 (i : Int)), (.pointer (some ⟨sb, 0, none⟩)), t9, t10, t11, t12, t13, t14, t15, t16, t17, t18, t19, t20, t21, t22, t23, t24, t25, t26, t27, t28, t29, t30, t31, t32, t33, t34, t35, t36, t37, t38, t39, t40, t41, t42, t43, t44, t45, t46, t47, t48, t49, t50, t51, t52, t53, t54, t55, t56, t57, t58, t59, t60, t61, t62, t63, t64, t65, t66, t67, t68, t69, t70, t71, t72, t73, t74, t75, t76, t77, t78, t79, t80, t81, t82, t83, t84, t85, t86, t87, t88, t89, t90, t91, t92, t93, t94, t95, t96, t97, t98, t99, t100, t101, t102, t103, t104, t105, t106, t107, t108, t109, t110, t111, t112, t113, t114, t115, t116, t117, t118, t119, u120, u121, u122, u123, u124, u125, u126, u127, u128, u129, u130, u131, u132, u133, u134, u135, u136, u137, t138, t139, t140, t141, t142, t143, t144, t145, t146, t147, t148, t149, t150, t151, t152, t153, t154, t155, t156, t157, t158, t159, t160, t161, t162, t163, t164, t165, t166, t167, t168, t169, t170, t171, t172, t173, t174, t175, t176, t177, t178, t179, t180, t181, t182, t183, t184], []⟩ wx) :
    (regAt Try.f14 17).wp Try.prog Q ⟨#[t0, t1, t2, t3, t4, (.pointer (some ⟨L, 0, none⟩)), t6, (.int .i64 (i : Int)), (.pointer (some ⟨sb, 0, none⟩)), t9, t10, t11, t12, t13, t14, t15, t16, t17, t18, t19, t20, t21, t22, t23, t24, t25, t26, t27, t28, t29, t30, t31, t32, t33, t34, t35, t36, t37, t38, t39, t40, t41, t42, t43, t44, t45, t46, t47, t48, t49, t50, t51, t52, t53, t54, t55, t56, t57, t58, t59, t60, t61, t62, t63, t64, t65, t66, t67, t68, t69, t70, t71, t72, t73, t74, t75, t76, t77, t78, t79, t80, t81, t82, t83, t84, t85, t86, t87, t88, t89, t90, t91, t92, t93, t94, t95, t96, t97, t98, t99, t100, t101, t102, t103, t104, t105, t106, t107, t108, t109, t110, t111, t112, t113, t114, t115, t116, t117, t118, t119, t120, t121, t122, t123, t124, t125, t126, t127, t128, t129, t130, t131, t132, t133, t134, t135, t136, t137, t138, t139, t140, t141, t142, t143, t144, t145, t146, t147, t148, t149, t150, t151, t152, t153, t154, t155, t156, t157, t158, t159, t160, t161, t162, t163, t164, t165, t166, t167, t168, t169, t170, t171, t172, t173, t174, t175, t176, t177, t178, t179, t180, t181, t182, t183, t184], []⟩ wr := by
  have hk0 : (0 : Int) ≤ (p : Int) := by omega
  have hk1 : (p : Int) < (n : Int) := by omega
  have hvl : p < vs.length := by omega
  refine Code.wp_mono (Q := OnlyN (fun a w => Q .normal a w)) onlyN_imp ?_
  conv => arg 2; whnf
  dsimp only
  refine region_inv (by kernel_rfl) (fun a0 l a w => N17.J wr B sb fb L p n i vs v r a0 l a w) ?_ ?_ ?_
  · refine ⟨⟨rfl, rfl, rfl, rfl⟩, false, false, false, false, false, false, false, false, false, false, false, false, false, false, false, false, false, false, false, 0, 0, 0, rfl, N17.z .., (Fr.refl _ _).drew, hb, (fun h => by cases h), fun _ => hown.drew, (fun h => by cases h), (fun h => by cases h), (fun h => by cases h)⟩
  · intro l a' w' hJ hi
    obtain ⟨-, b0, b1, b2, b3, b4, b5, b6, b7, b8, b9, b10, b11, b12, b13, b14, b15, b16, b17, b18, bn, g2, cap2, rfl, rfl, hinv⟩ := hJ
    have t0 : b0 = true := ready_nil hi 0 (by decide) (by simp [Region.binds])
    have t1 : b1 = true := ready_nil hi 1 (by decide) (by simp [Region.binds, t0])
    have t2 : b2 = true := ready_nil hi 2 (by decide) (by simp [Region.binds, t1])
    have t3 : b3 = true := ready_nil hi 3 (by decide) (by simp [Region.binds, t2])
    have t4 : b4 = true := ready_nil hi 4 (by decide) (by simp [Region.binds])
    have t5 : b5 = true := ready_nil hi 5 (by decide) (by simp [Region.binds, t4])
    have t6 : b6 = true := ready_nil hi 6 (by decide) (by simp [Region.binds])
    have t7 : b7 = true := ready_nil hi 7 (by decide) (by simp [Region.binds, t6])
    have t8 : b8 = true := ready_nil hi 8 (by decide) (by simp [Region.binds, t7])
    have t9 : b9 = true := ready_nil hi 9 (by decide) (by simp [Region.binds, t8])
    have t10 : b10 = true := ready_nil hi 10 (by decide) (by simp [Region.binds])
    have t11 : b11 = true := ready_nil hi 11 (by decide) (by simp [Region.binds, t10])
    have t12 : b12 = true := ready_nil hi 12 (by decide) (by simp [Region.binds, t9, t11])
    have t13 : b13 = true := ready_nil hi 13 (by decide) (by simp [Region.binds, t12])
    have t14 : b14 = true := ready_nil hi 14 (by decide) (by simp [Region.binds])
    have t15 : b15 = true := ready_nil hi 15 (by decide) (by simp [Region.binds, t14])
    have t16 : b16 = true := ready_nil hi 16 (by decide) (by simp [Region.binds, t13, t15])
    have t17 : b17 = true := ready_nil hi 17 (by decide) (by simp [Region.binds, t0, t1, t2, t3, t4, t5, t6, t7, t8, t9, t10, t11, t12, t13, t14, t15, t16])
    have t18 : b18 = true := ready_nil hi 18 (by decide) (by simp [Region.binds, t0, t1, t2, t3, t4, t5, t6, t7, t8, t9, t10, t11, t12, t13, t14, t15, t16, t17])
    subst t0 t1 t2 t3 t4 t5 t6 t7 t8 t9 t10 t11 t12 t13 t14 t15 t16 t17 t18
    clear hi
    obtain ⟨hF, hT, hN, hO, hG, hq, hq2⟩ := hinv
    obtain ⟨hG1, hG2⟩ := hG rfl
    simp only [OnlyN, N17.A, putIf_true, Act.put, List.setIfInBounds_toArray, List.set_cons_zero, List.set_cons_succ]
    exact hQ _ _ _ _ _ _ _ _ _ _ _ _ _ _ _ _ _ _ _ ⟨g2, cap2, hF, hT, hG1, hG2⟩
  · intro a0 l a' w' i hJ hi
    obtain ⟨hB, b0, b1, b2, b3, b4, b5, b6, b7, b8, b9, b10, b11, b12, b13, b14, b15, b16, b17, b18, bn, g2, cap2, rfl, rfl, hinv⟩ := hJ
    have hBB := hB
    obtain ⟨hs0, g8, g7, g5⟩ := hBB
    obtain ⟨h10, hlf, haf⟩ := mem_ready hi
    clear hi
    have hc : i = 0 ∨ i = 1 ∨ i = 2 ∨ i = 3 ∨ i = 4 ∨ i = 5 ∨ i = 6 ∨ i = 7 ∨ i = 8 ∨ i = 9 ∨ i = 10 ∨ i = 11 ∨ i = 12 ∨ i = 13 ∨ i = 14 ∨ i = 15 ∨ i = 16 ∨ i = 17 ∨ i = 18 := by
      have : i < 19 := h10
      omega
    clear h10
    rcases hc with rfl | rfl | rfl | rfl | rfl | rfl | rfl | rfl | rfl | rfl | rfl | rfl | rfl | rfl | rfl | rfl | rfl | rfl | rfl
    · obtain rfl : b0 = false := by simpa using hlf
      refine wpOp_at rfl rfl ?_
      simp only [List.getElem_toArray, List.getElem_cons_zero, List.getElem_cons_succ]
      refine op_val (v := (.pointer (some ⟨L, 0, none⟩))) ?_ (show N17.J wr B sb fb L p n i vs v r a0 _ _ _ from ⟨hB, true, b1, b2, b3, b4, b5, b6, b7, b8, b9, b10, b11, b12, b13, b14, b15, b16, b17, b18, bn, g2, cap2, rfl, N17.p0 .., hinv⟩)
      simp only [execOp, N17.f5, g5]
      go_simp
    · obtain rfl : b1 = false := by simpa using hlf
      refine wpOp_at rfl rfl ?_
      simp only [List.getElem_toArray, List.getElem_cons_zero, List.getElem_cons_succ]
      simp [Region.binds] at haf
      subst haf
      refine op_val (v := (.pointer (some ⟨L, 0, none⟩))) ?_ (show N17.J wr B sb fb L p n i vs v r a0 _ _ _ from ⟨hB, true, true, b2, b3, b4, b5, b6, b7, b8, b9, b10, b11, b12, b13, b14, b15, b16, b17, b18, bn, g2, cap2, rfl, N17.p1 .., hinv⟩)
      simp only [execOp, N17.e0 hs0]
      go_simp
    · obtain rfl : b2 = false := by simpa using hlf
      refine wpOp_at rfl rfl ?_
      simp only [List.getElem_toArray, List.getElem_cons_zero, List.getElem_cons_succ]
      simp [Region.binds] at haf
      subst haf
      refine op_val (v := (.pointer (some ⟨L, 9, none⟩))) ?_ (show N17.J wr B sb fb L p n i vs v r a0 _ _ _ from ⟨hB, b0, true, true, b3, b4, b5, b6, b7, b8, b9, b10, b11, b12, b13, b14, b15, b16, b17, b18, bn, g2, cap2, rfl, N17.p2 .., hinv⟩)
      simp only [execOp, N17.e1 hs0]
      go_simp
    · obtain rfl : b3 = false := by simpa using hlf
      refine wpOp_at rfl rfl ?_
      simp only [List.getElem_toArray, List.getElem_cons_zero, List.getElem_cons_succ]
      simp [Region.binds] at haf
      subst haf
      obtain ⟨hF, hT, hN, hO, hG, hq, hq2⟩ := hinv
      have hx : w'.cell? ⟨L, 9, none⟩ = _ := (World.cell?_of_block (hF.block L (World.block_lt_of_cell? wr _ hL) (by simpa using ⟨hLf, hLn⟩))).trans hL
      refine op_val (v := (.slice (some ⟨fb, 0, none⟩) n n)) ?_ (show N17.J wr B sb fb L p n i vs v r a0 _ _ _ from ⟨hB, b0, b1, true, true, b4, b5, b6, b7, b8, b9, b10, b11, b12, b13, b14, b15, b16, b17, b18, bn, g2, cap2, rfl, N17.p3 .., hF, hT, hN, hO, hG, by simpa using hq, hq2⟩)
      simp only [execOp, N17.e2 hs0]
      go_simp
    · obtain rfl : b4 = false := by simpa using hlf
      refine wpOp_at rfl rfl ?_
      simp only [List.getElem_toArray, List.getElem_cons_zero, List.getElem_cons_succ]
      refine op_val (v := (.pointer (some ⟨sb, 2, none⟩))) ?_ (show N17.J wr B sb fb L p n i vs v r a0 _ _ _ from ⟨hB, b0, b1, b2, b3, true, b5, b6, b7, b8, b9, b10, b11, b12, b13, b14, b15, b16, b17, b18, bn, g2, cap2, rfl, N17.p4 .., hinv⟩)
      simp only [execOp, N17.f8, g8]
      go_simp
    · obtain rfl : b5 = false := by simpa using hlf
      refine wpOp_at rfl rfl ?_
      simp only [List.getElem_toArray, List.getElem_cons_zero, List.getElem_cons_succ]
      simp [Region.binds] at haf
      subst haf
      obtain ⟨hF, hT, hN, hO, hG, hq, hq2⟩ := hinv
      have hx : w'.cell? ⟨sb, 2, none⟩ = _ := (World.cell?_of_block (hF.block sb (World.block_lt_of_cell? wr _ hs) (by simpa using ⟨hsf, hsn⟩))).trans hs
      refine op_val (v := (.int .i64 (p : Int))) ?_ (show N17.J wr B sb fb L p n i vs v r a0 _ _ _ from ⟨hB, b0, b1, b2, b3, true, true, b6, b7, b8, b9, b10, b11, b12, b13, b14, b15, b16, b17, b18, bn, g2, cap2, rfl, N17.p5 .., hF, hT, hN, hO, hG, by simpa using hq, hq2⟩)
      simp only [execOp, N17.e4 hs0]
      go_simp
    · obtain rfl : b6 = false := by simpa using hlf
      refine wpOp_at rfl rfl ?_
      simp only [List.getElem_toArray, List.getElem_cons_zero, List.getElem_cons_succ]
      refine op_val (v := (.pointer (some ⟨L, 0, none⟩))) ?_ (show N17.J wr B sb fb L p n i vs v r a0 _ _ _ from ⟨hB, b0, b1, b2, b3, b4, b5, true, b7, b8, b9, b10, b11, b12, b13, b14, b15, b16, b17, b18, bn, g2, cap2, rfl, N17.p6 .., hinv⟩)
      simp only [execOp, N17.f5, g5]
      go_simp
    · obtain rfl : b7 = false := by simpa using hlf
      refine wpOp_at rfl rfl ?_
      simp only [List.getElem_toArray, List.getElem_cons_zero, List.getElem_cons_succ]
      simp [Region.binds] at haf
      subst haf
      refine op_val (v := (.pointer (some ⟨L, 0, none⟩))) ?_ (show N17.J wr B sb fb L p n i vs v r a0 _ _ _ from ⟨hB, b0, b1, b2, b3, b4, b5, true, true, b8, b9, b10, b11, b12, b13, b14, b15, b16, b17, b18, bn, g2, cap2, rfl, N17.p7 .., hinv⟩)
      simp only [execOp, N17.e6 hs0]
      go_simp
    · obtain rfl : b8 = false := by simpa using hlf
      refine wpOp_at rfl rfl ?_
      simp only [List.getElem_toArray, List.getElem_cons_zero, List.getElem_cons_succ]
      simp [Region.binds] at haf
      subst haf
      refine op_val (v := (.pointer (some ⟨L, 9, none⟩))) ?_ (show N17.J wr B sb fb L p n i vs v r a0 _ _ _ from ⟨hB, b0, b1, b2, b3, b4, b5, b6, true, true, b9, b10, b11, b12, b13, b14, b15, b16, b17, b18, bn, g2, cap2, rfl, N17.p8 .., hinv⟩)
      simp only [execOp, N17.e7 hs0]
      go_simp
    · obtain rfl : b9 = false := by simpa using hlf
      refine wpOp_at rfl rfl ?_
      simp only [List.getElem_toArray, List.getElem_cons_zero, List.getElem_cons_succ]
      simp [Region.binds] at haf
      subst haf
      obtain ⟨hF, hT, hN, hO, hG, hq, hq2⟩ := hinv
      have hx : w'.cell? ⟨L, 9, none⟩ = _ := (World.cell?_of_block (hF.block L (World.block_lt_of_cell? wr _ hL) (by simpa using ⟨hLf, hLn⟩))).trans hL
      refine op_val (v := (.slice (some ⟨fb, 0, none⟩) n n)) ?_ (show N17.J wr B sb fb L p n i vs v r a0 _ _ _ from ⟨hB, b0, b1, b2, b3, b4, b5, b6, b7, true, true, b10, b11, b12, b13, b14, b15, b16, b17, b18, bn, g2, cap2, rfl, N17.p9 .., hF, hT, hN, hO, hG, by simpa using hq, hq2⟩)
      simp only [execOp, N17.e8 hs0]
      go_simp
    · obtain rfl : b10 = false := by simpa using hlf
      refine wpOp_at rfl rfl ?_
      simp only [List.getElem_toArray, List.getElem_cons_zero, List.getElem_cons_succ]
      refine op_val (v := (.pointer (some ⟨sb, 2, none⟩))) ?_ (show N17.J wr B sb fb L p n i vs v r a0 _ _ _ from ⟨hB, b0, b1, b2, b3, b4, b5, b6, b7, b8, b9, true, b11, b12, b13, b14, b15, b16, b17, b18, bn, g2, cap2, rfl, N17.p10 .., hinv⟩)
      simp only [execOp, N17.f8, g8]
      go_simp
    · obtain rfl : b11 = false := by simpa using hlf
      refine wpOp_at rfl rfl ?_
      simp only [List.getElem_toArray, List.getElem_cons_zero, List.getElem_cons_succ]
      simp [Region.binds] at haf
      subst haf
      obtain ⟨hF, hT, hN, hO, hG, hq, hq2⟩ := hinv
      have hx : w'.cell? ⟨sb, 2, none⟩ = _ := (World.cell?_of_block (hF.block sb (World.block_lt_of_cell? wr _ hs) (by simpa using ⟨hsf, hsn⟩))).trans hs
      refine op_val (v := (.int .i64 (p : Int))) ?_ (show N17.J wr B sb fb L p n i vs v r a0 _ _ _ from ⟨hB, b0, b1, b2, b3, b4, b5, b6, b7, b8, b9, true, true, b12, b13, b14, b15, b16, b17, b18, bn, g2, cap2, rfl, N17.p11 .., hF, hT, hN, hO, hG, by simpa using hq, hq2⟩)
      simp only [execOp, N17.e10 hs0]
      go_simp
    · obtain rfl : b12 = false := by simpa using hlf
      refine wpOp_at rfl rfl ?_
      simp only [List.getElem_toArray, List.getElem_cons_zero, List.getElem_cons_succ]
      simp [Region.binds] at haf
      obtain ⟨a0, a1⟩ := haf
      subst a0 a1
      refine op_val (v := (.pointer (some ⟨fb, p, none⟩))) ?_ (show N17.J wr B sb fb L p n i vs v r a0 _ _ _ from ⟨hB, b0, b1, b2, b3, b4, b5, b6, b7, b8, true, b10, true, true, b13, b14, b15, b16, b17, b18, bn, g2, cap2, rfl, N17.p12 .., hinv⟩)
      simp only [execOp, N17.e9 hs0, N17.e11 hs0]
      go_simp
    · obtain rfl : b13 = false := by simpa using hlf
      refine wpOp_at rfl rfl ?_
      simp only [List.getElem_toArray, List.getElem_cons_zero, List.getElem_cons_succ]
      simp [Region.binds] at haf
      subst haf
      obtain ⟨hF, hT, hN, hO, hG, hq, hq2⟩ := hinv
      have eA : b16 = false := by
        cases hb : b16 with
        | false => rfl
        | true => have := hq hb; simp at this
      have eS : b18 = false := by
        cases hb : b18 with
        | false => rfl
        | true => have := hq2 hb; rw [eA] at this; cases this
      subst eA eS
      simp only [cond_false] at hT
      have hx : w'.cell? ⟨fb, p, none⟩ = some v := by rw [hT.cell]; simpa using hv
      refine op_val (v := v) ?_ (show N17.J wr B sb fb L p n i vs v r a0 _ _ _ from ⟨hB, b0, b1, b2, b3, b4, b5, b6, b7, b8, b9, b10, b11, true, true, b14, b15, false, b17, false, bn, g2, cap2, rfl, N17.p13 .., hF, hT, hN, hO, hG, (fun h => by cases h), (fun h => by cases h)⟩)
      simp only [execOp, N17.e12 hs0]
      go_simp
    · obtain rfl : b14 = false := by simpa using hlf
      refine wpOp_at rfl rfl ?_
      simp only [List.getElem_toArray, List.getElem_cons_zero, List.getElem_cons_succ]
      refine op_val (v := (.int .i64 (i : Int))) ?_ (show N17.J wr B sb fb L p n i vs v r a0 _ _ _ from ⟨hB, b0, b1, b2, b3, b4, b5, b6, b7, b8, b9, b10, b11, b12, b13, true, b15, b16, b17, b18, bn, g2, cap2, rfl, N17.p14 .., hinv⟩)
      simp only [execOp, N17.f7, g7]
      go_simp
    · obtain rfl : b15 = false := by simpa using hlf
      refine wpOp_at rfl rfl ?_
      simp only [List.getElem_toArray, List.getElem_cons_zero, List.getElem_cons_succ]
      simp [Region.binds] at haf
      subst haf
      obtain ⟨hF, hT, hN, hO, hG, hq, hq2⟩ := hinv
      have eA : b16 = false := by
        cases hb : b16 with
        | false => rfl
        | true => have := hq hb; simp at this
      have eS : b18 = false := by
        cases hb : b18 with
        | false => rfl
        | true => have := hq2 hb; rw [eA] at this; cases this
      subst eA eS
      simp only [cond_false] at hT
      refine op_run (v := .slice (some ⟨w'.heap.size, 0, none⟩) 1 1) (w' := w'.alloc (.cells #[.int .i64 (i : Int)] 3)) ?_ (show N17.J wr B sb fb L p n i vs v r a0 _ _ _ from ⟨hB, b0, b1, b2, b3, b4, b5, b6, b7, b8, b9, b10, b11, b12, b13, true, true, false, b17, false, w'.heap.size, g2, cap2, rfl, N17.p15 .., hF.alloc _, (by simpa using hT.alloc _), fun _ _ => ⟨Blk.new _ _ _, hF.size⟩, fun h => (hO h).alloc _, (fun h => by cases h), (fun h => by cases h), (fun h => by cases h)⟩)
      simp only [execOp, List.map_toArray, List.map_cons, List.map_nil, N17.e14 hs0]
      go_simp
    · obtain rfl : b16 = false := by simpa using hlf
      refine wpOp_at rfl rfl ?_
      simp only [List.getElem_toArray, List.getElem_cons_zero, List.getElem_cons_succ]
      simp [Region.binds] at haf
      obtain ⟨a0, a1⟩ := haf
      subst a0 a1
      obtain ⟨hF, hT, hN, hO, hG, hq, hq2⟩ := hinv
      have eS : b18 = false := by
        cases hb : b18 with
        | false => rfl
        | true => have := hq2 hb; cases this
      subst eS
      simp only [cond_false] at hT
      obtain ⟨hN1, hN2⟩ := hN rfl rfl
      obtain ⟨i0, hi, hz0, hz1, hz2⟩ := info_parts info3
      refine wp_append_lies _ _ _ 29 rfl B 3 i0 _ 1 8 Try.underlying29 hi hz0 hz1 hz2 (by rfl) (by decide) v r.length (r.map (.int .i64)) (by simp only [N17.e13 hs0, N17.e15 hs0]) (hO rfl) ⟨bn, 0, none⟩ 1 1 [.int .i64 (i : Int)] (by simp only [N17.e13 hs0, N17.e15 hs0]) (by rfl) (World.news_of_block hN1) (by simp [Value.oneCell']) (by decide) (by simp only [maxLen]; omega) (by omega) (Nat.le_trans hbase hF.size) w'.heap.size rfl ?_
      intro g cap w1 hown1 hgrow hat hlt
      have f1 : Fr v.ownBlock.toList w' w1 := Fr.of_grown hgrow (fun k hk _ => by simp [hk])
      exact ⟨hB, b0, b1, b2, b3, b4, b5, b6, b7, b8, b9, b10, b11, b12, true, b14, true, true, b17, false, bn, g, cap, rfl, N17.p16 .., hF.trans f1 (fun x hx _ => List.mem_cons_of_mem _ hx), (by simpa using hT.fr f1 (by simpa using hne)), (fun _ h => by cases h), (fun h => by cases h), fun _ => ⟨by simpa using hown1, by
        rcases hat with h | h
        · exact .inl h
        · exact .inr (by rw [h]; exact hF.size)⟩, (fun _ => ⟨rfl, rfl⟩), (fun h => by cases h)⟩
    · obtain rfl : b17 = false := by simpa using hlf
      refine wpOp_at rfl rfl ?_
      simp only [List.getElem_toArray, List.getElem_cons_zero, List.getElem_cons_succ]
      simp [Region.binds] at haf
      obtain ⟨a0, a1, a2, a3, a4, a5, a6, a7, a8, a9, a10, a11, a12, a13, a14, a15, a16, a17, a18⟩ := haf
      subst a0 a1 a2 a3 a4 a6 a8 a9 a10 a11 a12 a13 a14 a15 a16 a17 a18
      refine op_val (v := (.pointer (some ⟨fb, p, none⟩))) ?_ (show N17.J wr B sb fb L p n i vs v r a0 _ _ _ from ⟨hB, true, true, true, true, true, true, true, true, true, true, true, true, true, true, true, true, true, true, b18, bn, g2, cap2, rfl, N17.p17 .., hinv⟩)
      simp only [execOp, N17.e3 hs0, N17.e5 hs0]
      go_simp
    · obtain rfl : b18 = false := by simpa using hlf
      refine wpOp_at rfl rfl ?_
      simp only [List.getElem_toArray, List.getElem_cons_zero, List.getElem_cons_succ]
      simp [Region.binds] at haf
      obtain ⟨a0, a1, a2, a3, a4, a5, a6, a7, a8, a9, a10, a11, a12, a13, a14, a15, a16, a17, a18⟩ := haf
      subst a0 a1 a2 a3 a4 a5 a6 a7 a8 a9 a10 a11 a12 a13 a14 a15 a16 a17
      obtain ⟨hF, hT, hN, hO, hG, hq, hq2⟩ := hinv
      simp only [cond_false] at hT
      have hx : w'.cell? ⟨fb, p, none⟩ = some v := by rw [hT.cell]; simpa using hv
      have hfz := hT.free p
      obtain ⟨hG1, hG2⟩ := hG rfl
      obtain ⟨hq3, hq4⟩ := hq rfl
      skip
      have fs : Fr [fb] w' (w'.setCell ⟨fb, p, none⟩ (.slice (some ⟨g2, 0, none⟩) (r.length + 1) cap2)) := (Fr.refl _ _).setCell (by simp) _
      have hT2 := hT.set p (.slice (some ⟨g2, 0, none⟩) (r.length + 1) cap2)
      have hgf : g2 ≠ fb := by
        rintro rfl
        rcases hG2 with h | h
        · exact hne h
        · have := hb.lt
          omega
      refine op_store (t := 29) (p := .pointer (some ⟨fb, p, none⟩)) (v := (.slice (some ⟨g2, 0, none⟩) (r.length + 1) cap2)) rfl (by simp only [N17.e17 hs0, N17.e16 hs0]) (by simp only [N17.e17 hs0, N17.e16 hs0]) (w' := w'.setCell ⟨fb, p, none⟩ (.slice (some ⟨g2, 0, none⟩) (r.length + 1) cap2)) (by go_simp) (show N17.J wr B sb fb L p n i vs v r a0 _ _ _ from ⟨hB, true, true, true, true, true, true, true, true, true, true, true, true, true, true, true, true, true, true, true, bn, g2, cap2, rfl, rfl, hF.trans fs (fun x hx _ => by simp at hx; simp [hx]), (by simpa using hT2), (fun _ h => by cases h), (fun h => by cases h), fun _ => ⟨own_fr hG1 fs (fun k hk => by simp [Value.ownBlock] at hk; simp [← hk, hgf]), hG2⟩, (fun _ => ⟨rfl, rfl⟩), (fun _ => rfl)⟩)
end Go.Proofs.Ytekfbafljilchaa
