/- lattice.Common: region 6 at a state of another kind (printed by com6.py). -/
import Derived.Test.YtekfbafljilchaaA4
import Derived.Test.YtekfbafljilchaaO0
import Derived.Shelf.Abstract
set_option linter.unusedVariables false
set_option linter.unusedSimpArgs false
namespace Go.Proofs.Ytekfbafljilchaa
open Go.RowKit Go.Lib

theorem wpOp_skip {P : Program} {ops : Array Oper} {Q : Exit → Act → World → Prop} {i : Nat} {K : Act → World → Prop} {a : Act} {w : World} {o : Oper} {j : Nat} {b b' : Bool} (ho : ops[i]? = some o) (hg : o.guard = some (j, b)) (hy : yielded ops a.tmps j = some b') (hne : b' ≠ b) (h : K (a.put o.dst undef) w) : wpOp P ops Q i K a w := by
  have hw : Region.wanted o (yielded ops a.tmps) = false := by simp [Region.wanted, hg, hy, hne]
  unfold wpOp
  simp only [ho, hw]
  exact h
/-- The frame inside the region: what has come up lies in its slots. -/
def C6.A (wr : World) (bl bp g gs os p n cs : Nat) (kd : Int)  (b0 b1 b2 b3 b4 b5 b6 b7 b8 b9 b10 b11 b12 b13 b14 b15 : Bool) (a0 : Act) : Act := putIf b0 25 (.pointer (some ⟨g, 0, none⟩)) (putIf b1 26 (.pointer (some ⟨g, 0, none⟩)) (putIf b2 27 (.pointer (some ⟨g, 0, none⟩)) (putIf b3 28 (.pointer (some ⟨g, 3, none⟩)) (putIf b4 29 (.slice (some ⟨gs, os, none⟩) n cs) (putIf b5 30 (.int .i64 (p : Int)) (putIf b6 31 (.pointer (some ⟨gs, os + p * 13, none⟩)) (putIf b7 32 (.pointer (some ⟨gs, os + p * 13 + 1, none⟩)) (putIf b8 33 (.int .i64 kd) (putIf b9 34 (.bool false) (putIf b10 35 (.bool false) (putIf b11 36 undef (putIf b12 37 undef (putIf b13 38 undef (putIf b14 39 undef (putIf b15 40 (.bool false) (a0))))))))))))))))
theorem C6.p0 (wr : World) (bl bp g gs os p n cs : Nat) (kd : Int)   (b1 b2 b3 b4 b5 b6 b7 b8 b9 b10 b11 b12 b13 b14 b15 : Bool) (a0 : Act) :
    (C6.A wr bl bp g gs os p n cs kd  false b1 b2 b3 b4 b5 b6 b7 b8 b9 b10 b11 b12 b13 b14 b15 a0).put (some 25) (.pointer (some ⟨g, 0, none⟩)) = C6.A wr bl bp g gs os p n cs kd  true b1 b2 b3 b4 b5 b6 b7 b8 b9 b10 b11 b12 b13 b14 b15 a0 := by
  simp only [C6.A, putIf_put, ne_eq, Nat.reduceEqDiff, not_false_eq_true]
  rfl
theorem C6.e0 {wr : World} {bl bp g gs os p n cs : Nat} {kd : Int}  {b1 b2 b3 b4 b5 b6 b7 b8 b9 b10 b11 b12 b13 b14 b15 : Bool} {a0 : Act} (hs : a0.tmps.size = 43) : (C6.A wr bl bp g gs os p n cs kd  true b1 b2 b3 b4 b5 b6 b7 b8 b9 b10 b11 b12 b13 b14 b15 a0).eval (.tmp 25) = (.pointer (some ⟨g, 0, none⟩)) := by
  simp [C6.A, eval_putIf, eval_put, size_putIf, hs]
theorem C6.p1 (wr : World) (bl bp g gs os p n cs : Nat) (kd : Int)   (b0 b2 b3 b4 b5 b6 b7 b8 b9 b10 b11 b12 b13 b14 b15 : Bool) (a0 : Act) :
    (C6.A wr bl bp g gs os p n cs kd  b0 false b2 b3 b4 b5 b6 b7 b8 b9 b10 b11 b12 b13 b14 b15 a0).put (some 26) (.pointer (some ⟨g, 0, none⟩)) = C6.A wr bl bp g gs os p n cs kd  b0 true b2 b3 b4 b5 b6 b7 b8 b9 b10 b11 b12 b13 b14 b15 a0 := by
  simp only [C6.A, putIf_put, ne_eq, Nat.reduceEqDiff, not_false_eq_true]
  rfl
theorem C6.e1 {wr : World} {bl bp g gs os p n cs : Nat} {kd : Int}  {b0 b2 b3 b4 b5 b6 b7 b8 b9 b10 b11 b12 b13 b14 b15 : Bool} {a0 : Act} (hs : a0.tmps.size = 43) : (C6.A wr bl bp g gs os p n cs kd  b0 true b2 b3 b4 b5 b6 b7 b8 b9 b10 b11 b12 b13 b14 b15 a0).eval (.tmp 26) = (.pointer (some ⟨g, 0, none⟩)) := by
  simp [C6.A, eval_putIf, eval_put, size_putIf, hs]
theorem C6.p2 (wr : World) (bl bp g gs os p n cs : Nat) (kd : Int)   (b0 b1 b3 b4 b5 b6 b7 b8 b9 b10 b11 b12 b13 b14 b15 : Bool) (a0 : Act) :
    (C6.A wr bl bp g gs os p n cs kd  b0 b1 false b3 b4 b5 b6 b7 b8 b9 b10 b11 b12 b13 b14 b15 a0).put (some 27) (.pointer (some ⟨g, 0, none⟩)) = C6.A wr bl bp g gs os p n cs kd  b0 b1 true b3 b4 b5 b6 b7 b8 b9 b10 b11 b12 b13 b14 b15 a0 := by
  simp only [C6.A, putIf_put, ne_eq, Nat.reduceEqDiff, not_false_eq_true]
  rfl
theorem C6.e2 {wr : World} {bl bp g gs os p n cs : Nat} {kd : Int}  {b0 b1 b3 b4 b5 b6 b7 b8 b9 b10 b11 b12 b13 b14 b15 : Bool} {a0 : Act} (hs : a0.tmps.size = 43) : (C6.A wr bl bp g gs os p n cs kd  b0 b1 true b3 b4 b5 b6 b7 b8 b9 b10 b11 b12 b13 b14 b15 a0).eval (.tmp 27) = (.pointer (some ⟨g, 0, none⟩)) := by
  simp [C6.A, eval_putIf, eval_put, size_putIf, hs]
theorem C6.p3 (wr : World) (bl bp g gs os p n cs : Nat) (kd : Int)   (b0 b1 b2 b4 b5 b6 b7 b8 b9 b10 b11 b12 b13 b14 b15 : Bool) (a0 : Act) :
    (C6.A wr bl bp g gs os p n cs kd  b0 b1 b2 false b4 b5 b6 b7 b8 b9 b10 b11 b12 b13 b14 b15 a0).put (some 28) (.pointer (some ⟨g, 3, none⟩)) = C6.A wr bl bp g gs os p n cs kd  b0 b1 b2 true b4 b5 b6 b7 b8 b9 b10 b11 b12 b13 b14 b15 a0 := by
  simp only [C6.A, putIf_put, ne_eq, Nat.reduceEqDiff, not_false_eq_true]
  rfl
theorem C6.e3 {wr : World} {bl bp g gs os p n cs : Nat} {kd : Int}  {b0 b1 b2 b4 b5 b6 b7 b8 b9 b10 b11 b12 b13 b14 b15 : Bool} {a0 : Act} (hs : a0.tmps.size = 43) : (C6.A wr bl bp g gs os p n cs kd  b0 b1 b2 true b4 b5 b6 b7 b8 b9 b10 b11 b12 b13 b14 b15 a0).eval (.tmp 28) = (.pointer (some ⟨g, 3, none⟩)) := by
  simp [C6.A, eval_putIf, eval_put, size_putIf, hs]
theorem C6.p4 (wr : World) (bl bp g gs os p n cs : Nat) (kd : Int)   (b0 b1 b2 b3 b5 b6 b7 b8 b9 b10 b11 b12 b13 b14 b15 : Bool) (a0 : Act) :
    (C6.A wr bl bp g gs os p n cs kd  b0 b1 b2 b3 false b5 b6 b7 b8 b9 b10 b11 b12 b13 b14 b15 a0).put (some 29) (.slice (some ⟨gs, os, none⟩) n cs) = C6.A wr bl bp g gs os p n cs kd  b0 b1 b2 b3 true b5 b6 b7 b8 b9 b10 b11 b12 b13 b14 b15 a0 := by
  simp only [C6.A, putIf_put, ne_eq, Nat.reduceEqDiff, not_false_eq_true]
  rfl
theorem C6.e4 {wr : World} {bl bp g gs os p n cs : Nat} {kd : Int}  {b0 b1 b2 b3 b5 b6 b7 b8 b9 b10 b11 b12 b13 b14 b15 : Bool} {a0 : Act} (hs : a0.tmps.size = 43) : (C6.A wr bl bp g gs os p n cs kd  b0 b1 b2 b3 true b5 b6 b7 b8 b9 b10 b11 b12 b13 b14 b15 a0).eval (.tmp 29) = (.slice (some ⟨gs, os, none⟩) n cs) := by
  simp [C6.A, eval_putIf, eval_put, size_putIf, hs]
theorem C6.p5 (wr : World) (bl bp g gs os p n cs : Nat) (kd : Int)   (b0 b1 b2 b3 b4 b6 b7 b8 b9 b10 b11 b12 b13 b14 b15 : Bool) (a0 : Act) :
    (C6.A wr bl bp g gs os p n cs kd  b0 b1 b2 b3 b4 false b6 b7 b8 b9 b10 b11 b12 b13 b14 b15 a0).put (some 30) (.int .i64 (p : Int)) = C6.A wr bl bp g gs os p n cs kd  b0 b1 b2 b3 b4 true b6 b7 b8 b9 b10 b11 b12 b13 b14 b15 a0 := by
  simp only [C6.A, putIf_put, ne_eq, Nat.reduceEqDiff, not_false_eq_true]
  rfl
theorem C6.e5 {wr : World} {bl bp g gs os p n cs : Nat} {kd : Int}  {b0 b1 b2 b3 b4 b6 b7 b8 b9 b10 b11 b12 b13 b14 b15 : Bool} {a0 : Act} (hs : a0.tmps.size = 43) : (C6.A wr bl bp g gs os p n cs kd  b0 b1 b2 b3 b4 true b6 b7 b8 b9 b10 b11 b12 b13 b14 b15 a0).eval (.tmp 30) = (.int .i64 (p : Int)) := by
  simp [C6.A, eval_putIf, eval_put, size_putIf, hs]
theorem C6.p6 (wr : World) (bl bp g gs os p n cs : Nat) (kd : Int)   (b0 b1 b2 b3 b4 b5 b7 b8 b9 b10 b11 b12 b13 b14 b15 : Bool) (a0 : Act) :
    (C6.A wr bl bp g gs os p n cs kd  b0 b1 b2 b3 b4 b5 false b7 b8 b9 b10 b11 b12 b13 b14 b15 a0).put (some 31) (.pointer (some ⟨gs, os + p * 13, none⟩)) = C6.A wr bl bp g gs os p n cs kd  b0 b1 b2 b3 b4 b5 true b7 b8 b9 b10 b11 b12 b13 b14 b15 a0 := by
  simp only [C6.A, putIf_put, ne_eq, Nat.reduceEqDiff, not_false_eq_true]
  rfl
theorem C6.e6 {wr : World} {bl bp g gs os p n cs : Nat} {kd : Int}  {b0 b1 b2 b3 b4 b5 b7 b8 b9 b10 b11 b12 b13 b14 b15 : Bool} {a0 : Act} (hs : a0.tmps.size = 43) : (C6.A wr bl bp g gs os p n cs kd  b0 b1 b2 b3 b4 b5 true b7 b8 b9 b10 b11 b12 b13 b14 b15 a0).eval (.tmp 31) = (.pointer (some ⟨gs, os + p * 13, none⟩)) := by
  simp [C6.A, eval_putIf, eval_put, size_putIf, hs]
theorem C6.p7 (wr : World) (bl bp g gs os p n cs : Nat) (kd : Int)   (b0 b1 b2 b3 b4 b5 b6 b8 b9 b10 b11 b12 b13 b14 b15 : Bool) (a0 : Act) :
    (C6.A wr bl bp g gs os p n cs kd  b0 b1 b2 b3 b4 b5 b6 false b8 b9 b10 b11 b12 b13 b14 b15 a0).put (some 32) (.pointer (some ⟨gs, os + p * 13 + 1, none⟩)) = C6.A wr bl bp g gs os p n cs kd  b0 b1 b2 b3 b4 b5 b6 true b8 b9 b10 b11 b12 b13 b14 b15 a0 := by
  simp only [C6.A, putIf_put, ne_eq, Nat.reduceEqDiff, not_false_eq_true]
  rfl
theorem C6.e7 {wr : World} {bl bp g gs os p n cs : Nat} {kd : Int}  {b0 b1 b2 b3 b4 b5 b6 b8 b9 b10 b11 b12 b13 b14 b15 : Bool} {a0 : Act} (hs : a0.tmps.size = 43) : (C6.A wr bl bp g gs os p n cs kd  b0 b1 b2 b3 b4 b5 b6 true b8 b9 b10 b11 b12 b13 b14 b15 a0).eval (.tmp 32) = (.pointer (some ⟨gs, os + p * 13 + 1, none⟩)) := by
  simp [C6.A, eval_putIf, eval_put, size_putIf, hs]
theorem C6.p8 (wr : World) (bl bp g gs os p n cs : Nat) (kd : Int)   (b0 b1 b2 b3 b4 b5 b6 b7 b9 b10 b11 b12 b13 b14 b15 : Bool) (a0 : Act) :
    (C6.A wr bl bp g gs os p n cs kd  b0 b1 b2 b3 b4 b5 b6 b7 false b9 b10 b11 b12 b13 b14 b15 a0).put (some 33) (.int .i64 kd) = C6.A wr bl bp g gs os p n cs kd  b0 b1 b2 b3 b4 b5 b6 b7 true b9 b10 b11 b12 b13 b14 b15 a0 := by
  simp only [C6.A, putIf_put, ne_eq, Nat.reduceEqDiff, not_false_eq_true]
  rfl
theorem C6.e8 {wr : World} {bl bp g gs os p n cs : Nat} {kd : Int}  {b0 b1 b2 b3 b4 b5 b6 b7 b9 b10 b11 b12 b13 b14 b15 : Bool} {a0 : Act} (hs : a0.tmps.size = 43) : (C6.A wr bl bp g gs os p n cs kd  b0 b1 b2 b3 b4 b5 b6 b7 true b9 b10 b11 b12 b13 b14 b15 a0).eval (.tmp 33) = (.int .i64 kd) := by
  simp [C6.A, eval_putIf, eval_put, size_putIf, hs]
theorem C6.p9 (wr : World) (bl bp g gs os p n cs : Nat) (kd : Int)   (b0 b1 b2 b3 b4 b5 b6 b7 b8 b10 b11 b12 b13 b14 b15 : Bool) (a0 : Act) :
    (C6.A wr bl bp g gs os p n cs kd  b0 b1 b2 b3 b4 b5 b6 b7 b8 false b10 b11 b12 b13 b14 b15 a0).put (some 34) (.bool false) = C6.A wr bl bp g gs os p n cs kd  b0 b1 b2 b3 b4 b5 b6 b7 b8 true b10 b11 b12 b13 b14 b15 a0 := by
  simp only [C6.A, putIf_put, ne_eq, Nat.reduceEqDiff, not_false_eq_true]
  rfl
theorem C6.e9 {wr : World} {bl bp g gs os p n cs : Nat} {kd : Int}  {b0 b1 b2 b3 b4 b5 b6 b7 b8 b10 b11 b12 b13 b14 b15 : Bool} {a0 : Act} (hs : a0.tmps.size = 43) : (C6.A wr bl bp g gs os p n cs kd  b0 b1 b2 b3 b4 b5 b6 b7 b8 true b10 b11 b12 b13 b14 b15 a0).eval (.tmp 34) = (.bool false) := by
  simp [C6.A, eval_putIf, eval_put, size_putIf, hs]
theorem C6.p10 (wr : World) (bl bp g gs os p n cs : Nat) (kd : Int)   (b0 b1 b2 b3 b4 b5 b6 b7 b8 b9 b11 b12 b13 b14 b15 : Bool) (a0 : Act) :
    (C6.A wr bl bp g gs os p n cs kd  b0 b1 b2 b3 b4 b5 b6 b7 b8 b9 false b11 b12 b13 b14 b15 a0).put (some 35) (.bool false) = C6.A wr bl bp g gs os p n cs kd  b0 b1 b2 b3 b4 b5 b6 b7 b8 b9 true b11 b12 b13 b14 b15 a0 := by
  simp only [C6.A, putIf_put, ne_eq, Nat.reduceEqDiff, not_false_eq_true]
  rfl
theorem C6.e10 {wr : World} {bl bp g gs os p n cs : Nat} {kd : Int}  {b0 b1 b2 b3 b4 b5 b6 b7 b8 b9 b11 b12 b13 b14 b15 : Bool} {a0 : Act} (hs : a0.tmps.size = 43) : (C6.A wr bl bp g gs os p n cs kd  b0 b1 b2 b3 b4 b5 b6 b7 b8 b9 true b11 b12 b13 b14 b15 a0).eval (.tmp 35) = (.bool false) := by
  simp [C6.A, eval_putIf, eval_put, size_putIf, hs]
theorem C6.p11 (wr : World) (bl bp g gs os p n cs : Nat) (kd : Int)   (b0 b1 b2 b3 b4 b5 b6 b7 b8 b9 b10 b12 b13 b14 b15 : Bool) (a0 : Act) :
    (C6.A wr bl bp g gs os p n cs kd  b0 b1 b2 b3 b4 b5 b6 b7 b8 b9 b10 false b12 b13 b14 b15 a0).put (some 36) undef = C6.A wr bl bp g gs os p n cs kd  b0 b1 b2 b3 b4 b5 b6 b7 b8 b9 b10 true b12 b13 b14 b15 a0 := by
  simp only [C6.A, putIf_put, ne_eq, Nat.reduceEqDiff, not_false_eq_true]
  rfl
theorem C6.e11 {wr : World} {bl bp g gs os p n cs : Nat} {kd : Int}  {b0 b1 b2 b3 b4 b5 b6 b7 b8 b9 b10 b12 b13 b14 b15 : Bool} {a0 : Act} (hs : a0.tmps.size = 43) : (C6.A wr bl bp g gs os p n cs kd  b0 b1 b2 b3 b4 b5 b6 b7 b8 b9 b10 true b12 b13 b14 b15 a0).eval (.tmp 36) = undef := by
  simp [C6.A, eval_putIf, eval_put, size_putIf, hs]
theorem C6.p12 (wr : World) (bl bp g gs os p n cs : Nat) (kd : Int)   (b0 b1 b2 b3 b4 b5 b6 b7 b8 b9 b10 b11 b13 b14 b15 : Bool) (a0 : Act) :
    (C6.A wr bl bp g gs os p n cs kd  b0 b1 b2 b3 b4 b5 b6 b7 b8 b9 b10 b11 false b13 b14 b15 a0).put (some 37) undef = C6.A wr bl bp g gs os p n cs kd  b0 b1 b2 b3 b4 b5 b6 b7 b8 b9 b10 b11 true b13 b14 b15 a0 := by
  simp only [C6.A, putIf_put, ne_eq, Nat.reduceEqDiff, not_false_eq_true]
  rfl
theorem C6.e12 {wr : World} {bl bp g gs os p n cs : Nat} {kd : Int}  {b0 b1 b2 b3 b4 b5 b6 b7 b8 b9 b10 b11 b13 b14 b15 : Bool} {a0 : Act} (hs : a0.tmps.size = 43) : (C6.A wr bl bp g gs os p n cs kd  b0 b1 b2 b3 b4 b5 b6 b7 b8 b9 b10 b11 true b13 b14 b15 a0).eval (.tmp 37) = undef := by
  simp [C6.A, eval_putIf, eval_put, size_putIf, hs]
theorem C6.p13 (wr : World) (bl bp g gs os p n cs : Nat) (kd : Int)   (b0 b1 b2 b3 b4 b5 b6 b7 b8 b9 b10 b11 b12 b14 b15 : Bool) (a0 : Act) :
    (C6.A wr bl bp g gs os p n cs kd  b0 b1 b2 b3 b4 b5 b6 b7 b8 b9 b10 b11 b12 false b14 b15 a0).put (some 38) undef = C6.A wr bl bp g gs os p n cs kd  b0 b1 b2 b3 b4 b5 b6 b7 b8 b9 b10 b11 b12 true b14 b15 a0 := by
  simp only [C6.A, putIf_put, ne_eq, Nat.reduceEqDiff, not_false_eq_true]
  rfl
theorem C6.e13 {wr : World} {bl bp g gs os p n cs : Nat} {kd : Int}  {b0 b1 b2 b3 b4 b5 b6 b7 b8 b9 b10 b11 b12 b14 b15 : Bool} {a0 : Act} (hs : a0.tmps.size = 43) : (C6.A wr bl bp g gs os p n cs kd  b0 b1 b2 b3 b4 b5 b6 b7 b8 b9 b10 b11 b12 true b14 b15 a0).eval (.tmp 38) = undef := by
  simp [C6.A, eval_putIf, eval_put, size_putIf, hs]
theorem C6.p14 (wr : World) (bl bp g gs os p n cs : Nat) (kd : Int)   (b0 b1 b2 b3 b4 b5 b6 b7 b8 b9 b10 b11 b12 b13 b15 : Bool) (a0 : Act) :
    (C6.A wr bl bp g gs os p n cs kd  b0 b1 b2 b3 b4 b5 b6 b7 b8 b9 b10 b11 b12 b13 false b15 a0).put (some 39) undef = C6.A wr bl bp g gs os p n cs kd  b0 b1 b2 b3 b4 b5 b6 b7 b8 b9 b10 b11 b12 b13 true b15 a0 := by
  simp only [C6.A, putIf_put, ne_eq, Nat.reduceEqDiff, not_false_eq_true]
  rfl
theorem C6.e14 {wr : World} {bl bp g gs os p n cs : Nat} {kd : Int}  {b0 b1 b2 b3 b4 b5 b6 b7 b8 b9 b10 b11 b12 b13 b15 : Bool} {a0 : Act} (hs : a0.tmps.size = 43) : (C6.A wr bl bp g gs os p n cs kd  b0 b1 b2 b3 b4 b5 b6 b7 b8 b9 b10 b11 b12 b13 true b15 a0).eval (.tmp 39) = undef := by
  simp [C6.A, eval_putIf, eval_put, size_putIf, hs]
theorem C6.p15 (wr : World) (bl bp g gs os p n cs : Nat) (kd : Int)   (b0 b1 b2 b3 b4 b5 b6 b7 b8 b9 b10 b11 b12 b13 b14 : Bool) (a0 : Act) :
    (C6.A wr bl bp g gs os p n cs kd  b0 b1 b2 b3 b4 b5 b6 b7 b8 b9 b10 b11 b12 b13 b14 false a0).put (some 40) (.bool false) = C6.A wr bl bp g gs os p n cs kd  b0 b1 b2 b3 b4 b5 b6 b7 b8 b9 b10 b11 b12 b13 b14 true a0 := by
  simp only [C6.A, putIf_put, ne_eq, Nat.reduceEqDiff, not_false_eq_true]
  rfl
theorem C6.e15 {wr : World} {bl bp g gs os p n cs : Nat} {kd : Int}  {b0 b1 b2 b3 b4 b5 b6 b7 b8 b9 b10 b11 b12 b13 b14 : Bool} {a0 : Act} (hs : a0.tmps.size = 43) : (C6.A wr bl bp g gs os p n cs kd  b0 b1 b2 b3 b4 b5 b6 b7 b8 b9 b10 b11 b12 b13 b14 true a0).eval (.tmp 40) = (.bool false) := by
  simp [C6.A, eval_putIf, eval_put, size_putIf, hs]
theorem C6.z (wr : World) (bl bp g gs os p n cs : Nat) (kd : Int)  (a0 : Act) : a0 = C6.A wr bl bp g gs os p n cs kd  false false false false false false false false false false false false false false false false a0 := rfl
theorem C6.size {wr : World} {bl bp g gs os p n cs : Nat} {kd : Int}  {b0 b1 b2 b3 b4 b5 b6 b7 b8 b9 b10 b11 b12 b13 b14 b15 : Bool} {a0 : Act} : (C6.A wr bl bp g gs os p n cs kd  b0 b1 b2 b3 b4 b5 b6 b7 b8 b9 b10 b11 b12 b13 b14 b15 a0).tmps.size = a0.tmps.size := by
  simp [C6.A, size_putIf]
theorem C6.f2 {wr : World} {bl bp g gs os p n cs : Nat} {kd : Int}  {b0 b1 b2 b3 b4 b5 b6 b7 b8 b9 b10 b11 b12 b13 b14 b15 : Bool} {a0 : Act} : (C6.A wr bl bp g gs os p n cs kd  b0 b1 b2 b3 b4 b5 b6 b7 b8 b9 b10 b11 b12 b13 b14 b15 a0).eval (.tmp 2) = a0.eval (.tmp 2) := by
  simp [C6.A, eval_putIf]
theorem C6.f6 {wr : World} {bl bp g gs os p n cs : Nat} {kd : Int}  {b0 b1 b2 b3 b4 b5 b6 b7 b8 b9 b10 b11 b12 b13 b14 b15 : Bool} {a0 : Act} : (C6.A wr bl bp g gs os p n cs kd  b0 b1 b2 b3 b4 b5 b6 b7 b8 b9 b10 b11 b12 b13 b14 b15 a0).eval (.tmp 6) = a0.eval (.tmp 6) := by
  simp [C6.A, eval_putIf]
def C6.B (wr : World) (bl bp g gs os p n cs : Nat) (kd : Int) (a0 : Act) : Prop := a0.tmps.size = 43 ∧ a0.eval (.tmp 2) = (.pointer (some ⟨bl, 0, none⟩)) ∧ a0.eval (.tmp 6) = (.pointer (some ⟨bp, 0, none⟩))
def C6.I (wr : World) (bl bp g gs os p n cs : Nat) (kd : Int)  (b0 b1 b2 b3 b4 b5 b6 b7 b8 b9 b10 b11 b12 b13 b14 b15 : Bool) (w : World) : Prop := w = wr.drew
/-- What stays true inside the region, whatever has come up. -/
def C6.J (wr : World) (bl bp g gs os p n cs : Nat) (kd : Int) (a0 : Act) (l : Array Bool) (a : Act) (w : World) : Prop :=
  C6.B wr bl bp g gs os p n cs kd a0 ∧ ∃ b0 b1 b2 b3 b4 b5 b6 b7 b8 b9 b10 b11 b12 b13 b14 b15, l = #[b0, b1, b2, b3, b4, b5, b6, b7, b8, b9, b10, b11, b12, b13, b14, b15] ∧ a = C6.A wr bl bp g gs os p n cs kd  b0 b1 b2 b3 b4 b5 b6 b7 b8 b9 b10 b11 b12 b13 b14 b15 a0 ∧ C6.I wr bl bp g gs os p n cs kd  b0 b1 b2 b3 b4 b5 b6 b7 b8 b9 b10 b11 b12 b13 b14 b15 w
attribute [irreducible] C6.A

set_option maxRecDepth 100000 in
set_option maxHeartbeats 8000000 in
theorem com6 {Q : Exit → Act → World → Prop} {t0 t1 t3 t4 t5 t7 t8 t9 t10 t11 t12 t13 t14 t15 t16 t17 t18 t19 t20 t21 t22 t23 t24 t25 t26 t27 t28 t29 t30 t31 t32 t33 t34 t35 t36 t37 t38 t39 t40 t41 t42 : Value} {wr : World} {bl bp g gs os p n cs : Nat} {kd : Int} (hb : wr.cell? ⟨bl, 0, none⟩ = some (.pointer (some ⟨g, 0, none⟩))) (hp : wr.cell? ⟨bp, 0, none⟩ = some (.int .i64 (p : Int))) (hg : wr.cell? ⟨g, 3, none⟩ = some (.slice (some ⟨gs, os, none⟩) n cs)) (hk : wr.cell? ⟨gs, os + p * 13 + 1, none⟩ = some (.int .i64 kd)) (hpn : p < n) (hk1 : ¬ kd ≤ 1)
    (hQ : ∀ (u25 u26 u27 u28 u29 u30 u31 u32 u33 u34 u35 u36 u37 u38 u39 u40 : Value) (wx : World), wx = wr.drew ∧ u40 = .bool false → Q .normal ⟨#[t0, t1, (.pointer (some ⟨bl, 0, none⟩)), t3, t4, t5, (.pointer (some ⟨bp, 0, none⟩)), t7, t8, t9, t10, t11, t12, t13, t14, t15, t16, t17, t18, t19, t20, t21, t22, t23, t24, u25, u26, u27, u28, u29, u30, u31, u32, u33, u34, u35, u36, u37, u38, u39, u40, t41, t42], []⟩ wx) :
    (regAt Try.f35 6).wp Try.prog Q ⟨#[t0, t1, (.pointer (some ⟨bl, 0, none⟩)), t3, t4, t5, (.pointer (some ⟨bp, 0, none⟩)), t7, t8, t9, t10, t11, t12, t13, t14, t15, t16, t17, t18, t19, t20, t21, t22, t23, t24, t25, t26, t27, t28, t29, t30, t31, t32, t33, t34, t35, t36, t37, t38, t39, t40, t41, t42], []⟩ wr := by
  have hk0 : (0 : Int) ≤ (p : Int) := by omega
  have hkn : (p : Int) < (n : Int) := by omega
  refine Code.wp_mono (Q := OnlyN (fun a w => Q .normal a w)) onlyN_imp ?_
  conv => arg 2; whnf
  dsimp only
  refine region_inv (by kernel_rfl) (fun a0 l a w => C6.J wr bl bp g gs os p n cs kd a0 l a w) ?_ ?_ ?_
  · exact ⟨⟨rfl, rfl, rfl⟩, false, false, false, false, false, false, false, false, false, false, false, false, false, false, false, false, rfl, C6.z .., rfl⟩
  · intro l a' w' hJ hi
    obtain ⟨-, b0, b1, b2, b3, b4, b5, b6, b7, b8, b9, b10, b11, b12, b13, b14, b15, rfl, rfl, hinv⟩ := hJ
    have t0 : b0 = true := ready_nil hi 0 (by decide) (by simp [Region.binds])
    have t1 : b1 = true := ready_nil hi 1 (by decide) (by simp [Region.binds, t0])
    have t2 : b2 = true := ready_nil hi 2 (by decide) (by simp [Region.binds, t1])
    have t3 : b3 = true := ready_nil hi 3 (by decide) (by simp [Region.binds, t2])
    have t4 : b4 = true := ready_nil hi 4 (by decide) (by simp [Region.binds, t3])
    have t5 : b5 = true := ready_nil hi 5 (by decide) (by simp [Region.binds])
    have t6 : b6 = true := ready_nil hi 6 (by decide) (by simp [Region.binds, t4, t5])
    have t7 : b7 = true := ready_nil hi 7 (by decide) (by simp [Region.binds, t6])
    have t8 : b8 = true := ready_nil hi 8 (by decide) (by simp [Region.binds, t7])
    have t9 : b9 = true := ready_nil hi 9 (by decide) (by simp [Region.binds, t8])
    have t10 : b10 = true := ready_nil hi 10 (by decide) (by simp [Region.binds, t9])
    have t11 : b11 = true := ready_nil hi 11 (by decide) (by simp [Region.binds, t10])
    have t12 : b12 = true := ready_nil hi 12 (by decide) (by simp [Region.binds, t10])
    have t13 : b13 = true := ready_nil hi 13 (by decide) (by simp [Region.binds, t10, t11, t12])
    have t14 : b14 = true := ready_nil hi 14 (by decide) (by simp [Region.binds, t10, t13])
    have t15 : b15 = true := ready_nil hi 15 (by decide) (by simp [Region.binds, t10, t14])
    subst t0 t1 t2 t3 t4 t5 t6 t7 t8 t9 t10 t11 t12 t13 t14 t15
    clear hi
    simp only [OnlyN, C6.A, putIf_true, Act.put, List.setIfInBounds_toArray, List.set_cons_zero, List.set_cons_succ]
    exact hQ _ _ _ _ _ _ _ _ _ _ _ _ _ _ _ _ _ ⟨hinv, rfl⟩
  · intro a0 l a' w' i hJ hi
    obtain ⟨hB, b0, b1, b2, b3, b4, b5, b6, b7, b8, b9, b10, b11, b12, b13, b14, b15, rfl, rfl, hinv⟩ := hJ
    have hBB := hB
    obtain ⟨hs0, g2, g6⟩ := hBB
    obtain ⟨h10, hlf, haf⟩ := mem_ready hi
    clear hi
    have hc : i = 0 ∨ i = 1 ∨ i = 2 ∨ i = 3 ∨ i = 4 ∨ i = 5 ∨ i = 6 ∨ i = 7 ∨ i = 8 ∨ i = 9 ∨ i = 10 ∨ i = 11 ∨ i = 12 ∨ i = 13 ∨ i = 14 ∨ i = 15 := by
      have : i < 16 := h10
      omega
    clear h10
    rcases hc with rfl | rfl | rfl | rfl | rfl | rfl | rfl | rfl | rfl | rfl | rfl | rfl | rfl | rfl | rfl | rfl
    · obtain rfl : b0 = false := by simpa using hlf
      refine wpOp_at rfl rfl ?_
      simp only [List.getElem_toArray, List.getElem_cons_zero, List.getElem_cons_succ]
      refine op_val (v := (.pointer (some ⟨g, 0, none⟩))) ?_ (show C6.J wr bl bp g gs os p n cs kd a0 _ _ _ from ⟨hB, true, b1, b2, b3, b4, b5, b6, b7, b8, b9, b10, b11, b12, b13, b14, b15, rfl, C6.p0 .., hinv⟩)
      simp only [execOp, C6.f2, g2]
      have hw : _ = wr.drew := hinv
      subst hw
      go_simp
    · obtain rfl : b1 = false := by simpa using hlf
      refine wpOp_at rfl rfl ?_
      simp only [List.getElem_toArray, List.getElem_cons_zero, List.getElem_cons_succ]
      simp [Region.binds] at haf
      subst haf
      refine op_val (v := (.pointer (some ⟨g, 0, none⟩))) ?_ (show C6.J wr bl bp g gs os p n cs kd a0 _ _ _ from ⟨hB, true, true, b2, b3, b4, b5, b6, b7, b8, b9, b10, b11, b12, b13, b14, b15, rfl, C6.p1 .., hinv⟩)
      simp only [execOp, C6.e0 hs0]
      have hw : _ = wr.drew := hinv
      subst hw
      go_simp
    · obtain rfl : b2 = false := by simpa using hlf
      refine wpOp_at rfl rfl ?_
      simp only [List.getElem_toArray, List.getElem_cons_zero, List.getElem_cons_succ]
      simp [Region.binds] at haf
      subst haf
      refine op_val (v := (.pointer (some ⟨g, 0, none⟩))) ?_ (show C6.J wr bl bp g gs os p n cs kd a0 _ _ _ from ⟨hB, b0, true, true, b3, b4, b5, b6, b7, b8, b9, b10, b11, b12, b13, b14, b15, rfl, C6.p2 .., hinv⟩)
      simp only [execOp, C6.e1 hs0]
      have hw : _ = wr.drew := hinv
      subst hw
      go_simp
    · obtain rfl : b3 = false := by simpa using hlf
      refine wpOp_at rfl rfl ?_
      simp only [List.getElem_toArray, List.getElem_cons_zero, List.getElem_cons_succ]
      simp [Region.binds] at haf
      subst haf
      refine op_val (v := (.pointer (some ⟨g, 3, none⟩))) ?_ (show C6.J wr bl bp g gs os p n cs kd a0 _ _ _ from ⟨hB, b0, b1, true, true, b4, b5, b6, b7, b8, b9, b10, b11, b12, b13, b14, b15, rfl, C6.p3 .., hinv⟩)
      simp only [execOp, C6.e2 hs0]
      have hw : _ = wr.drew := hinv
      subst hw
      go_simp
    · obtain rfl : b4 = false := by simpa using hlf
      refine wpOp_at rfl rfl ?_
      simp only [List.getElem_toArray, List.getElem_cons_zero, List.getElem_cons_succ]
      simp [Region.binds] at haf
      subst haf
      refine op_val (v := (.slice (some ⟨gs, os, none⟩) n cs)) ?_ (show C6.J wr bl bp g gs os p n cs kd a0 _ _ _ from ⟨hB, b0, b1, b2, true, true, b5, b6, b7, b8, b9, b10, b11, b12, b13, b14, b15, rfl, C6.p4 .., hinv⟩)
      simp only [execOp, C6.e3 hs0]
      have hw : _ = wr.drew := hinv
      subst hw
      go_simp
    · obtain rfl : b5 = false := by simpa using hlf
      refine wpOp_at rfl rfl ?_
      simp only [List.getElem_toArray, List.getElem_cons_zero, List.getElem_cons_succ]
      refine op_val (v := (.int .i64 (p : Int))) ?_ (show C6.J wr bl bp g gs os p n cs kd a0 _ _ _ from ⟨hB, b0, b1, b2, b3, b4, true, b6, b7, b8, b9, b10, b11, b12, b13, b14, b15, rfl, C6.p5 .., hinv⟩)
      simp only [execOp, C6.f6, g6]
      have hw : _ = wr.drew := hinv
      subst hw
      go_simp
    · obtain rfl : b6 = false := by simpa using hlf
      refine wpOp_at rfl rfl ?_
      simp only [List.getElem_toArray, List.getElem_cons_zero, List.getElem_cons_succ]
      simp [Region.binds] at haf
      obtain ⟨a0, a1⟩ := haf
      subst a0 a1
      refine op_val (v := (.pointer (some ⟨gs, os + p * 13, none⟩))) ?_ (show C6.J wr bl bp g gs os p n cs kd a0 _ _ _ from ⟨hB, b0, b1, b2, b3, true, true, true, b7, b8, b9, b10, b11, b12, b13, b14, b15, rfl, C6.p6 .., hinv⟩)
      simp only [execOp, C6.e4 hs0, C6.e5 hs0]
      have hw : _ = wr.drew := hinv
      subst hw
      go_simp
    · obtain rfl : b7 = false := by simpa using hlf
      refine wpOp_at rfl rfl ?_
      simp only [List.getElem_toArray, List.getElem_cons_zero, List.getElem_cons_succ]
      simp [Region.binds] at haf
      subst haf
      refine op_val (v := (.pointer (some ⟨gs, os + p * 13 + 1, none⟩))) ?_ (show C6.J wr bl bp g gs os p n cs kd a0 _ _ _ from ⟨hB, b0, b1, b2, b3, b4, b5, true, true, b8, b9, b10, b11, b12, b13, b14, b15, rfl, C6.p7 .., hinv⟩)
      simp only [execOp, C6.e6 hs0]
      have hw : _ = wr.drew := hinv
      subst hw
      go_simp
    · obtain rfl : b8 = false := by simpa using hlf
      refine wpOp_at rfl rfl ?_
      simp only [List.getElem_toArray, List.getElem_cons_zero, List.getElem_cons_succ]
      simp [Region.binds] at haf
      subst haf
      refine op_val (v := (.int .i64 kd)) ?_ (show C6.J wr bl bp g gs os p n cs kd a0 _ _ _ from ⟨hB, b0, b1, b2, b3, b4, b5, b6, true, true, b9, b10, b11, b12, b13, b14, b15, rfl, C6.p8 .., hinv⟩)
      simp only [execOp, C6.e7 hs0]
      have hw : _ = wr.drew := hinv
      subst hw
      go_simp
    · obtain rfl : b9 = false := by simpa using hlf
      refine wpOp_at rfl rfl ?_
      simp only [List.getElem_toArray, List.getElem_cons_zero, List.getElem_cons_succ]
      simp [Region.binds] at haf
      subst haf
      refine op_val (v := .bool false) ?_ (show C6.J wr bl bp g gs os p n cs kd a0 _ _ _ from ⟨hB, b0, b1, b2, b3, b4, b5, b6, b7, true, true, b10, b11, b12, b13, b14, b15, rfl, C6.p9 .., hinv⟩)
      simp only [execOp, C6.e8 hs0]
      go_simp
      
    · obtain rfl : b10 = false := by simpa using hlf
      refine wpOp_at rfl rfl ?_
      simp only [List.getElem_toArray, List.getElem_cons_zero, List.getElem_cons_succ]
      simp [Region.binds] at haf
      subst haf
      refine op_val (v := (.bool false)) ?_ (show C6.J wr bl bp g gs os p n cs kd a0 _ _ _ from ⟨hB, b0, b1, b2, b3, b4, b5, b6, b7, b8, true, true, b11, b12, b13, b14, b15, rfl, C6.p10 .., hinv⟩)
      simp only [execOp, C6.e9 hs0]
      have hw : _ = wr.drew := hinv
      subst hw
      go_simp
    · obtain rfl : b11 = false := by simpa using hlf
      simp [Region.binds] at haf
      subst haf
      refine wpOp_skip rfl rfl (yielded_of rfl rfl (by rw [C6.size, hs0]; decide) (C6.e10 hs0)) (by decide) ?_
      exact (show C6.J wr bl bp g gs os p n cs kd a0 _ _ _ from ⟨hB, b0, b1, b2, b3, b4, b5, b6, b7, b8, b9, true, true, b12, b13, b14, b15, rfl, C6.p11 .., hinv⟩)
    · obtain rfl : b12 = false := by simpa using hlf
      simp [Region.binds] at haf
      subst haf
      refine wpOp_skip rfl rfl (yielded_of rfl rfl (by rw [C6.size, hs0]; decide) (C6.e10 hs0)) (by decide) ?_
      exact (show C6.J wr bl bp g gs os p n cs kd a0 _ _ _ from ⟨hB, b0, b1, b2, b3, b4, b5, b6, b7, b8, b9, true, b11, true, b13, b14, b15, rfl, C6.p12 .., hinv⟩)
    · obtain rfl : b13 = false := by simpa using hlf
      simp [Region.binds] at haf
      obtain ⟨a0, a1, a2⟩ := haf
      subst a0 a1 a2
      refine wpOp_skip rfl rfl (yielded_of rfl rfl (by rw [C6.size, hs0]; decide) (C6.e10 hs0)) (by decide) ?_
      exact (show C6.J wr bl bp g gs os p n cs kd a0 _ _ _ from ⟨hB, b0, b1, b2, b3, b4, b5, b6, b7, b8, b9, true, true, true, true, b14, b15, rfl, C6.p13 .., hinv⟩)
    · obtain rfl : b14 = false := by simpa using hlf
      simp [Region.binds] at haf
      obtain ⟨a0, a1⟩ := haf
      subst a0 a1
      refine wpOp_skip rfl rfl (yielded_of rfl rfl (by rw [C6.size, hs0]; decide) (C6.e10 hs0)) (by decide) ?_
      exact (show C6.J wr bl bp g gs os p n cs kd a0 _ _ _ from ⟨hB, b0, b1, b2, b3, b4, b5, b6, b7, b8, b9, true, b11, b12, true, true, b15, rfl, C6.p14 .., hinv⟩)
    · obtain rfl : b15 = false := by simpa using hlf
      refine wpOp_at rfl rfl ?_
      simp only [List.getElem_toArray, List.getElem_cons_zero, List.getElem_cons_succ]
      simp [Region.binds] at haf
      obtain ⟨a0, a1⟩ := haf
      subst a0 a1
      refine op_val (v := (.bool false)) ?_ (show C6.J wr bl bp g gs os p n cs kd a0 _ _ _ from ⟨hB, b0, b1, b2, b3, b4, b5, b6, b7, b8, b9, true, b11, b12, b13, true, true, rfl, C6.p15 .., hinv⟩)
      simp only [execOp, C6.e10 hs0, C6.e14 hs0]
      have hw : _ = wr.drew := hinv
      subst hw
      go_simp
end Go.Proofs.Ytekfbafljilchaa
