/- ClockPlays: the words of its second region that draws its order (printed by region.py). -/
import Derived.Test.YtifjablnplpfnaaG5
set_option linter.unusedVariables false
set_option linter.unusedSimpArgs false
namespace Go.Proofs.Ytifjablnplpfnaa
open Go.RowKit Go.Lib

/-- The frame inside the region: what has come up lies in its slots. -/
def R15.A (W w8 : World) (gc gr : Nat) (s : St) (A8 : Option Addr) (c8 : Nat) (B9 : Option Addr) (c9 : Nat) (b0 b1 b2 b3 b4 b5 b6 b7 b8 b9 b10 b11 b12 b13 b14 b15 b16 b17 b18 b19 b20 b21 b22 b23 b24 b25 : Bool) (a0 : Act) : Act := putIf b0 56 (.pointer (some ⟨gc, 0, none⟩)) (putIf b1 57 (.int .i64 s.now) (putIf b2 58 (.pointer (some ⟨gr, 0, none⟩)) (putIf b3 59 (.pointer (some ⟨gr, 0, none⟩)) (putIf b4 60 (.pointer (some ⟨gr, 0, none⟩)) (putIf b5 61 (.int .i64 s.now) (putIf b6 62 (.bool false) (putIf b7 63 (.bool false) (putIf b8 64 (.slice A8 s.ts.length c8) (putIf b9 65 (.pointer (some ⟨gr, 0, none⟩)) (putIf b10 66 (.slice B9 s.ts.length c9) (putIf b11 67 (.bool true) (putIf b12 68 (.bool false) (putIf b13 69 (.bool false) (putIf b14 70 (.bool false) (putIf b15 71 (.bool (decide (0 ≤ rnext s.now s.ts))) (putIf b16 72 (.int .i64 (rnext s.now s.ts)) (putIf b17 73 (.bool (decide (0 ≤ rnext s.now s.ts))) (putIf b18 74 (.bool false) (putIf b19 75 (.bool false) (putIf b20 76 (.bool false) (putIf b21 77 (.int .i64 (max (rnext s.now s.ts) 0)) (putIf b22 78 (.int .i64 (rnext s.now s.ts)) (putIf b23 79 (.int .i64 (max (rnext s.now s.ts) 0)) (putIf b24 80 (.bool false) (putIf b25 81 (.bool false) (a0))))))))))))))))))))))))))
theorem R15.p0 (W w8 : World) (gc gr : Nat) (s : St) (A8 : Option Addr) (c8 : Nat) (B9 : Option Addr) (c9 : Nat)  (b1 b2 b3 b4 b5 b6 b7 b8 b9 b10 b11 b12 b13 b14 b15 b16 b17 b18 b19 b20 b21 b22 b23 b24 b25 : Bool) (a0 : Act) :
    (R15.A W w8 gc gr s A8 c8 B9 c9 false b1 b2 b3 b4 b5 b6 b7 b8 b9 b10 b11 b12 b13 b14 b15 b16 b17 b18 b19 b20 b21 b22 b23 b24 b25 a0).put (some 56) (.pointer (some ⟨gc, 0, none⟩)) = R15.A W w8 gc gr s A8 c8 B9 c9 true b1 b2 b3 b4 b5 b6 b7 b8 b9 b10 b11 b12 b13 b14 b15 b16 b17 b18 b19 b20 b21 b22 b23 b24 b25 a0 := by
  simp only [R15.A, putIf_put, ne_eq, Nat.reduceEqDiff, not_false_eq_true]
  rfl
theorem R15.e0 {W w8 : World} {gc gr : Nat} {s : St} {A8 : Option Addr} {c8 : Nat} {B9 : Option Addr} {c9 : Nat} {b1 b2 b3 b4 b5 b6 b7 b8 b9 b10 b11 b12 b13 b14 b15 b16 b17 b18 b19 b20 b21 b22 b23 b24 b25 : Bool} {a0 : Act} (hs : a0.tmps.size = 93) : (R15.A W w8 gc gr s A8 c8 B9 c9 true b1 b2 b3 b4 b5 b6 b7 b8 b9 b10 b11 b12 b13 b14 b15 b16 b17 b18 b19 b20 b21 b22 b23 b24 b25 a0).eval (.tmp 56) = (.pointer (some ⟨gc, 0, none⟩)) := by
  simp [R15.A, eval_putIf, eval_put, size_putIf, hs]
theorem R15.p1 (W w8 : World) (gc gr : Nat) (s : St) (A8 : Option Addr) (c8 : Nat) (B9 : Option Addr) (c9 : Nat)  (b0 b2 b3 b4 b5 b6 b7 b8 b9 b10 b11 b12 b13 b14 b15 b16 b17 b18 b19 b20 b21 b22 b23 b24 b25 : Bool) (a0 : Act) :
    (R15.A W w8 gc gr s A8 c8 B9 c9 b0 false b2 b3 b4 b5 b6 b7 b8 b9 b10 b11 b12 b13 b14 b15 b16 b17 b18 b19 b20 b21 b22 b23 b24 b25 a0).put (some 57) (.int .i64 s.now) = R15.A W w8 gc gr s A8 c8 B9 c9 b0 true b2 b3 b4 b5 b6 b7 b8 b9 b10 b11 b12 b13 b14 b15 b16 b17 b18 b19 b20 b21 b22 b23 b24 b25 a0 := by
  simp only [R15.A, putIf_put, ne_eq, Nat.reduceEqDiff, not_false_eq_true]
  rfl
theorem R15.e1 {W w8 : World} {gc gr : Nat} {s : St} {A8 : Option Addr} {c8 : Nat} {B9 : Option Addr} {c9 : Nat} {b0 b2 b3 b4 b5 b6 b7 b8 b9 b10 b11 b12 b13 b14 b15 b16 b17 b18 b19 b20 b21 b22 b23 b24 b25 : Bool} {a0 : Act} (hs : a0.tmps.size = 93) : (R15.A W w8 gc gr s A8 c8 B9 c9 b0 true b2 b3 b4 b5 b6 b7 b8 b9 b10 b11 b12 b13 b14 b15 b16 b17 b18 b19 b20 b21 b22 b23 b24 b25 a0).eval (.tmp 57) = (.int .i64 s.now) := by
  simp [R15.A, eval_putIf, eval_put, size_putIf, hs]
theorem R15.p2 (W w8 : World) (gc gr : Nat) (s : St) (A8 : Option Addr) (c8 : Nat) (B9 : Option Addr) (c9 : Nat)  (b0 b1 b3 b4 b5 b6 b7 b8 b9 b10 b11 b12 b13 b14 b15 b16 b17 b18 b19 b20 b21 b22 b23 b24 b25 : Bool) (a0 : Act) :
    (R15.A W w8 gc gr s A8 c8 B9 c9 b0 b1 false b3 b4 b5 b6 b7 b8 b9 b10 b11 b12 b13 b14 b15 b16 b17 b18 b19 b20 b21 b22 b23 b24 b25 a0).put (some 58) (.pointer (some ⟨gr, 0, none⟩)) = R15.A W w8 gc gr s A8 c8 B9 c9 b0 b1 true b3 b4 b5 b6 b7 b8 b9 b10 b11 b12 b13 b14 b15 b16 b17 b18 b19 b20 b21 b22 b23 b24 b25 a0 := by
  simp only [R15.A, putIf_put, ne_eq, Nat.reduceEqDiff, not_false_eq_true]
  rfl
theorem R15.e2 {W w8 : World} {gc gr : Nat} {s : St} {A8 : Option Addr} {c8 : Nat} {B9 : Option Addr} {c9 : Nat} {b0 b1 b3 b4 b5 b6 b7 b8 b9 b10 b11 b12 b13 b14 b15 b16 b17 b18 b19 b20 b21 b22 b23 b24 b25 : Bool} {a0 : Act} (hs : a0.tmps.size = 93) : (R15.A W w8 gc gr s A8 c8 B9 c9 b0 b1 true b3 b4 b5 b6 b7 b8 b9 b10 b11 b12 b13 b14 b15 b16 b17 b18 b19 b20 b21 b22 b23 b24 b25 a0).eval (.tmp 58) = (.pointer (some ⟨gr, 0, none⟩)) := by
  simp [R15.A, eval_putIf, eval_put, size_putIf, hs]
theorem R15.p3 (W w8 : World) (gc gr : Nat) (s : St) (A8 : Option Addr) (c8 : Nat) (B9 : Option Addr) (c9 : Nat)  (b0 b1 b2 b4 b5 b6 b7 b8 b9 b10 b11 b12 b13 b14 b15 b16 b17 b18 b19 b20 b21 b22 b23 b24 b25 : Bool) (a0 : Act) :
    (R15.A W w8 gc gr s A8 c8 B9 c9 b0 b1 b2 false b4 b5 b6 b7 b8 b9 b10 b11 b12 b13 b14 b15 b16 b17 b18 b19 b20 b21 b22 b23 b24 b25 a0).put (some 59) (.pointer (some ⟨gr, 0, none⟩)) = R15.A W w8 gc gr s A8 c8 B9 c9 b0 b1 b2 true b4 b5 b6 b7 b8 b9 b10 b11 b12 b13 b14 b15 b16 b17 b18 b19 b20 b21 b22 b23 b24 b25 a0 := by
  simp only [R15.A, putIf_put, ne_eq, Nat.reduceEqDiff, not_false_eq_true]
  rfl
theorem R15.e3 {W w8 : World} {gc gr : Nat} {s : St} {A8 : Option Addr} {c8 : Nat} {B9 : Option Addr} {c9 : Nat} {b0 b1 b2 b4 b5 b6 b7 b8 b9 b10 b11 b12 b13 b14 b15 b16 b17 b18 b19 b20 b21 b22 b23 b24 b25 : Bool} {a0 : Act} (hs : a0.tmps.size = 93) : (R15.A W w8 gc gr s A8 c8 B9 c9 b0 b1 b2 true b4 b5 b6 b7 b8 b9 b10 b11 b12 b13 b14 b15 b16 b17 b18 b19 b20 b21 b22 b23 b24 b25 a0).eval (.tmp 59) = (.pointer (some ⟨gr, 0, none⟩)) := by
  simp [R15.A, eval_putIf, eval_put, size_putIf, hs]
theorem R15.p4 (W w8 : World) (gc gr : Nat) (s : St) (A8 : Option Addr) (c8 : Nat) (B9 : Option Addr) (c9 : Nat)  (b0 b1 b2 b3 b5 b6 b7 b8 b9 b10 b11 b12 b13 b14 b15 b16 b17 b18 b19 b20 b21 b22 b23 b24 b25 : Bool) (a0 : Act) :
    (R15.A W w8 gc gr s A8 c8 B9 c9 b0 b1 b2 b3 false b5 b6 b7 b8 b9 b10 b11 b12 b13 b14 b15 b16 b17 b18 b19 b20 b21 b22 b23 b24 b25 a0).put (some 60) (.pointer (some ⟨gr, 0, none⟩)) = R15.A W w8 gc gr s A8 c8 B9 c9 b0 b1 b2 b3 true b5 b6 b7 b8 b9 b10 b11 b12 b13 b14 b15 b16 b17 b18 b19 b20 b21 b22 b23 b24 b25 a0 := by
  simp only [R15.A, putIf_put, ne_eq, Nat.reduceEqDiff, not_false_eq_true]
  rfl
theorem R15.e4 {W w8 : World} {gc gr : Nat} {s : St} {A8 : Option Addr} {c8 : Nat} {B9 : Option Addr} {c9 : Nat} {b0 b1 b2 b3 b5 b6 b7 b8 b9 b10 b11 b12 b13 b14 b15 b16 b17 b18 b19 b20 b21 b22 b23 b24 b25 : Bool} {a0 : Act} (hs : a0.tmps.size = 93) : (R15.A W w8 gc gr s A8 c8 B9 c9 b0 b1 b2 b3 true b5 b6 b7 b8 b9 b10 b11 b12 b13 b14 b15 b16 b17 b18 b19 b20 b21 b22 b23 b24 b25 a0).eval (.tmp 60) = (.pointer (some ⟨gr, 0, none⟩)) := by
  simp [R15.A, eval_putIf, eval_put, size_putIf, hs]
theorem R15.p5 (W w8 : World) (gc gr : Nat) (s : St) (A8 : Option Addr) (c8 : Nat) (B9 : Option Addr) (c9 : Nat)  (b0 b1 b2 b3 b4 b6 b7 b8 b9 b10 b11 b12 b13 b14 b15 b16 b17 b18 b19 b20 b21 b22 b23 b24 b25 : Bool) (a0 : Act) :
    (R15.A W w8 gc gr s A8 c8 B9 c9 b0 b1 b2 b3 b4 false b6 b7 b8 b9 b10 b11 b12 b13 b14 b15 b16 b17 b18 b19 b20 b21 b22 b23 b24 b25 a0).put (some 61) (.int .i64 s.now) = R15.A W w8 gc gr s A8 c8 B9 c9 b0 b1 b2 b3 b4 true b6 b7 b8 b9 b10 b11 b12 b13 b14 b15 b16 b17 b18 b19 b20 b21 b22 b23 b24 b25 a0 := by
  simp only [R15.A, putIf_put, ne_eq, Nat.reduceEqDiff, not_false_eq_true]
  rfl
theorem R15.e5 {W w8 : World} {gc gr : Nat} {s : St} {A8 : Option Addr} {c8 : Nat} {B9 : Option Addr} {c9 : Nat} {b0 b1 b2 b3 b4 b6 b7 b8 b9 b10 b11 b12 b13 b14 b15 b16 b17 b18 b19 b20 b21 b22 b23 b24 b25 : Bool} {a0 : Act} (hs : a0.tmps.size = 93) : (R15.A W w8 gc gr s A8 c8 B9 c9 b0 b1 b2 b3 b4 true b6 b7 b8 b9 b10 b11 b12 b13 b14 b15 b16 b17 b18 b19 b20 b21 b22 b23 b24 b25 a0).eval (.tmp 61) = (.int .i64 s.now) := by
  simp [R15.A, eval_putIf, eval_put, size_putIf, hs]
theorem R15.p6 (W w8 : World) (gc gr : Nat) (s : St) (A8 : Option Addr) (c8 : Nat) (B9 : Option Addr) (c9 : Nat)  (b0 b1 b2 b3 b4 b5 b7 b8 b9 b10 b11 b12 b13 b14 b15 b16 b17 b18 b19 b20 b21 b22 b23 b24 b25 : Bool) (a0 : Act) :
    (R15.A W w8 gc gr s A8 c8 B9 c9 b0 b1 b2 b3 b4 b5 false b7 b8 b9 b10 b11 b12 b13 b14 b15 b16 b17 b18 b19 b20 b21 b22 b23 b24 b25 a0).put (some 62) (.bool false) = R15.A W w8 gc gr s A8 c8 B9 c9 b0 b1 b2 b3 b4 b5 true b7 b8 b9 b10 b11 b12 b13 b14 b15 b16 b17 b18 b19 b20 b21 b22 b23 b24 b25 a0 := by
  simp only [R15.A, putIf_put, ne_eq, Nat.reduceEqDiff, not_false_eq_true]
  rfl
theorem R15.e6 {W w8 : World} {gc gr : Nat} {s : St} {A8 : Option Addr} {c8 : Nat} {B9 : Option Addr} {c9 : Nat} {b0 b1 b2 b3 b4 b5 b7 b8 b9 b10 b11 b12 b13 b14 b15 b16 b17 b18 b19 b20 b21 b22 b23 b24 b25 : Bool} {a0 : Act} (hs : a0.tmps.size = 93) : (R15.A W w8 gc gr s A8 c8 B9 c9 b0 b1 b2 b3 b4 b5 true b7 b8 b9 b10 b11 b12 b13 b14 b15 b16 b17 b18 b19 b20 b21 b22 b23 b24 b25 a0).eval (.tmp 62) = (.bool false) := by
  simp [R15.A, eval_putIf, eval_put, size_putIf, hs]
theorem R15.p7 (W w8 : World) (gc gr : Nat) (s : St) (A8 : Option Addr) (c8 : Nat) (B9 : Option Addr) (c9 : Nat)  (b0 b1 b2 b3 b4 b5 b6 b8 b9 b10 b11 b12 b13 b14 b15 b16 b17 b18 b19 b20 b21 b22 b23 b24 b25 : Bool) (a0 : Act) :
    (R15.A W w8 gc gr s A8 c8 B9 c9 b0 b1 b2 b3 b4 b5 b6 false b8 b9 b10 b11 b12 b13 b14 b15 b16 b17 b18 b19 b20 b21 b22 b23 b24 b25 a0).put (some 63) (.bool false) = R15.A W w8 gc gr s A8 c8 B9 c9 b0 b1 b2 b3 b4 b5 b6 true b8 b9 b10 b11 b12 b13 b14 b15 b16 b17 b18 b19 b20 b21 b22 b23 b24 b25 a0 := by
  simp only [R15.A, putIf_put, ne_eq, Nat.reduceEqDiff, not_false_eq_true]
  rfl
theorem R15.e7 {W w8 : World} {gc gr : Nat} {s : St} {A8 : Option Addr} {c8 : Nat} {B9 : Option Addr} {c9 : Nat} {b0 b1 b2 b3 b4 b5 b6 b8 b9 b10 b11 b12 b13 b14 b15 b16 b17 b18 b19 b20 b21 b22 b23 b24 b25 : Bool} {a0 : Act} (hs : a0.tmps.size = 93) : (R15.A W w8 gc gr s A8 c8 B9 c9 b0 b1 b2 b3 b4 b5 b6 true b8 b9 b10 b11 b12 b13 b14 b15 b16 b17 b18 b19 b20 b21 b22 b23 b24 b25 a0).eval (.tmp 63) = (.bool false) := by
  simp [R15.A, eval_putIf, eval_put, size_putIf, hs]
theorem R15.p8 (W w8 : World) (gc gr : Nat) (s : St) (A8 : Option Addr) (c8 : Nat) (B9 : Option Addr) (c9 : Nat)  (b0 b1 b2 b3 b4 b5 b6 b7 b9 b10 b11 b12 b13 b14 b15 b16 b17 b18 b19 b20 b21 b22 b23 b24 b25 : Bool) (a0 : Act) :
    (R15.A W w8 gc gr s A8 c8 B9 c9 b0 b1 b2 b3 b4 b5 b6 b7 false b9 b10 b11 b12 b13 b14 b15 b16 b17 b18 b19 b20 b21 b22 b23 b24 b25 a0).put (some 64) (.slice A8 s.ts.length c8) = R15.A W w8 gc gr s A8 c8 B9 c9 b0 b1 b2 b3 b4 b5 b6 b7 true b9 b10 b11 b12 b13 b14 b15 b16 b17 b18 b19 b20 b21 b22 b23 b24 b25 a0 := by
  simp only [R15.A, putIf_put, ne_eq, Nat.reduceEqDiff, not_false_eq_true]
  rfl
theorem R15.e8 {W w8 : World} {gc gr : Nat} {s : St} {A8 : Option Addr} {c8 : Nat} {B9 : Option Addr} {c9 : Nat} {b0 b1 b2 b3 b4 b5 b6 b7 b9 b10 b11 b12 b13 b14 b15 b16 b17 b18 b19 b20 b21 b22 b23 b24 b25 : Bool} {a0 : Act} (hs : a0.tmps.size = 93) : (R15.A W w8 gc gr s A8 c8 B9 c9 b0 b1 b2 b3 b4 b5 b6 b7 true b9 b10 b11 b12 b13 b14 b15 b16 b17 b18 b19 b20 b21 b22 b23 b24 b25 a0).eval (.tmp 64) = (.slice A8 s.ts.length c8) := by
  simp [R15.A, eval_putIf, eval_put, size_putIf, hs]
theorem R15.p9 (W w8 : World) (gc gr : Nat) (s : St) (A8 : Option Addr) (c8 : Nat) (B9 : Option Addr) (c9 : Nat)  (b0 b1 b2 b3 b4 b5 b6 b7 b8 b10 b11 b12 b13 b14 b15 b16 b17 b18 b19 b20 b21 b22 b23 b24 b25 : Bool) (a0 : Act) :
    (R15.A W w8 gc gr s A8 c8 B9 c9 b0 b1 b2 b3 b4 b5 b6 b7 b8 false b10 b11 b12 b13 b14 b15 b16 b17 b18 b19 b20 b21 b22 b23 b24 b25 a0).put (some 65) (.pointer (some ⟨gr, 0, none⟩)) = R15.A W w8 gc gr s A8 c8 B9 c9 b0 b1 b2 b3 b4 b5 b6 b7 b8 true b10 b11 b12 b13 b14 b15 b16 b17 b18 b19 b20 b21 b22 b23 b24 b25 a0 := by
  simp only [R15.A, putIf_put, ne_eq, Nat.reduceEqDiff, not_false_eq_true]
  rfl
theorem R15.e9 {W w8 : World} {gc gr : Nat} {s : St} {A8 : Option Addr} {c8 : Nat} {B9 : Option Addr} {c9 : Nat} {b0 b1 b2 b3 b4 b5 b6 b7 b8 b10 b11 b12 b13 b14 b15 b16 b17 b18 b19 b20 b21 b22 b23 b24 b25 : Bool} {a0 : Act} (hs : a0.tmps.size = 93) : (R15.A W w8 gc gr s A8 c8 B9 c9 b0 b1 b2 b3 b4 b5 b6 b7 b8 true b10 b11 b12 b13 b14 b15 b16 b17 b18 b19 b20 b21 b22 b23 b24 b25 a0).eval (.tmp 65) = (.pointer (some ⟨gr, 0, none⟩)) := by
  simp [R15.A, eval_putIf, eval_put, size_putIf, hs]
theorem R15.p10 (W w8 : World) (gc gr : Nat) (s : St) (A8 : Option Addr) (c8 : Nat) (B9 : Option Addr) (c9 : Nat) (B9' : Option Addr) (c9' : Nat) (b0 b1 b2 b3 b4 b5 b6 b7 b8 b9 b11 b12 b13 b14 b15 b16 b17 b18 b19 b20 b21 b22 b23 b24 b25 : Bool) (a0 : Act) :
    (R15.A W w8 gc gr s A8 c8 B9' c9' b0 b1 b2 b3 b4 b5 b6 b7 b8 b9 false b11 b12 b13 b14 b15 b16 b17 b18 b19 b20 b21 b22 b23 b24 b25 a0).put (some 66) (.slice B9 s.ts.length c9) = R15.A W w8 gc gr s A8 c8 B9 c9 b0 b1 b2 b3 b4 b5 b6 b7 b8 b9 true b11 b12 b13 b14 b15 b16 b17 b18 b19 b20 b21 b22 b23 b24 b25 a0 := by
  simp only [R15.A, putIf_put, ne_eq, Nat.reduceEqDiff, not_false_eq_true]
  rfl
theorem R15.e10 {W w8 : World} {gc gr : Nat} {s : St} {A8 : Option Addr} {c8 : Nat} {B9 : Option Addr} {c9 : Nat} {b0 b1 b2 b3 b4 b5 b6 b7 b8 b9 b11 b12 b13 b14 b15 b16 b17 b18 b19 b20 b21 b22 b23 b24 b25 : Bool} {a0 : Act} (hs : a0.tmps.size = 93) : (R15.A W w8 gc gr s A8 c8 B9 c9 b0 b1 b2 b3 b4 b5 b6 b7 b8 b9 true b11 b12 b13 b14 b15 b16 b17 b18 b19 b20 b21 b22 b23 b24 b25 a0).eval (.tmp 66) = (.slice B9 s.ts.length c9) := by
  simp [R15.A, eval_putIf, eval_put, size_putIf, hs]
theorem R15.p11 (W w8 : World) (gc gr : Nat) (s : St) (A8 : Option Addr) (c8 : Nat) (B9 : Option Addr) (c9 : Nat)  (b0 b1 b2 b3 b4 b5 b6 b7 b8 b9 b10 b12 b13 b14 b15 b16 b17 b18 b19 b20 b21 b22 b23 b24 b25 : Bool) (a0 : Act) :
    (R15.A W w8 gc gr s A8 c8 B9 c9 b0 b1 b2 b3 b4 b5 b6 b7 b8 b9 b10 false b12 b13 b14 b15 b16 b17 b18 b19 b20 b21 b22 b23 b24 b25 a0).put (some 67) (.bool true) = R15.A W w8 gc gr s A8 c8 B9 c9 b0 b1 b2 b3 b4 b5 b6 b7 b8 b9 b10 true b12 b13 b14 b15 b16 b17 b18 b19 b20 b21 b22 b23 b24 b25 a0 := by
  simp only [R15.A, putIf_put, ne_eq, Nat.reduceEqDiff, not_false_eq_true]
  rfl
theorem R15.e11 {W w8 : World} {gc gr : Nat} {s : St} {A8 : Option Addr} {c8 : Nat} {B9 : Option Addr} {c9 : Nat} {b0 b1 b2 b3 b4 b5 b6 b7 b8 b9 b10 b12 b13 b14 b15 b16 b17 b18 b19 b20 b21 b22 b23 b24 b25 : Bool} {a0 : Act} (hs : a0.tmps.size = 93) : (R15.A W w8 gc gr s A8 c8 B9 c9 b0 b1 b2 b3 b4 b5 b6 b7 b8 b9 b10 true b12 b13 b14 b15 b16 b17 b18 b19 b20 b21 b22 b23 b24 b25 a0).eval (.tmp 67) = (.bool true) := by
  simp [R15.A, eval_putIf, eval_put, size_putIf, hs]
theorem R15.p12 (W w8 : World) (gc gr : Nat) (s : St) (A8 : Option Addr) (c8 : Nat) (B9 : Option Addr) (c9 : Nat)  (b0 b1 b2 b3 b4 b5 b6 b7 b8 b9 b10 b11 b13 b14 b15 b16 b17 b18 b19 b20 b21 b22 b23 b24 b25 : Bool) (a0 : Act) :
    (R15.A W w8 gc gr s A8 c8 B9 c9 b0 b1 b2 b3 b4 b5 b6 b7 b8 b9 b10 b11 false b13 b14 b15 b16 b17 b18 b19 b20 b21 b22 b23 b24 b25 a0).put (some 68) (.bool false) = R15.A W w8 gc gr s A8 c8 B9 c9 b0 b1 b2 b3 b4 b5 b6 b7 b8 b9 b10 b11 true b13 b14 b15 b16 b17 b18 b19 b20 b21 b22 b23 b24 b25 a0 := by
  simp only [R15.A, putIf_put, ne_eq, Nat.reduceEqDiff, not_false_eq_true]
  rfl
theorem R15.e12 {W w8 : World} {gc gr : Nat} {s : St} {A8 : Option Addr} {c8 : Nat} {B9 : Option Addr} {c9 : Nat} {b0 b1 b2 b3 b4 b5 b6 b7 b8 b9 b10 b11 b13 b14 b15 b16 b17 b18 b19 b20 b21 b22 b23 b24 b25 : Bool} {a0 : Act} (hs : a0.tmps.size = 93) : (R15.A W w8 gc gr s A8 c8 B9 c9 b0 b1 b2 b3 b4 b5 b6 b7 b8 b9 b10 b11 true b13 b14 b15 b16 b17 b18 b19 b20 b21 b22 b23 b24 b25 a0).eval (.tmp 68) = (.bool false) := by
  simp [R15.A, eval_putIf, eval_put, size_putIf, hs]
theorem R15.p13 (W w8 : World) (gc gr : Nat) (s : St) (A8 : Option Addr) (c8 : Nat) (B9 : Option Addr) (c9 : Nat)  (b0 b1 b2 b3 b4 b5 b6 b7 b8 b9 b10 b11 b12 b14 b15 b16 b17 b18 b19 b20 b21 b22 b23 b24 b25 : Bool) (a0 : Act) :
    (R15.A W w8 gc gr s A8 c8 B9 c9 b0 b1 b2 b3 b4 b5 b6 b7 b8 b9 b10 b11 b12 false b14 b15 b16 b17 b18 b19 b20 b21 b22 b23 b24 b25 a0).put (some 69) (.bool false) = R15.A W w8 gc gr s A8 c8 B9 c9 b0 b1 b2 b3 b4 b5 b6 b7 b8 b9 b10 b11 b12 true b14 b15 b16 b17 b18 b19 b20 b21 b22 b23 b24 b25 a0 := by
  simp only [R15.A, putIf_put, ne_eq, Nat.reduceEqDiff, not_false_eq_true]
  rfl
theorem R15.e13 {W w8 : World} {gc gr : Nat} {s : St} {A8 : Option Addr} {c8 : Nat} {B9 : Option Addr} {c9 : Nat} {b0 b1 b2 b3 b4 b5 b6 b7 b8 b9 b10 b11 b12 b14 b15 b16 b17 b18 b19 b20 b21 b22 b23 b24 b25 : Bool} {a0 : Act} (hs : a0.tmps.size = 93) : (R15.A W w8 gc gr s A8 c8 B9 c9 b0 b1 b2 b3 b4 b5 b6 b7 b8 b9 b10 b11 b12 true b14 b15 b16 b17 b18 b19 b20 b21 b22 b23 b24 b25 a0).eval (.tmp 69) = (.bool false) := by
  simp [R15.A, eval_putIf, eval_put, size_putIf, hs]
theorem R15.p14 (W w8 : World) (gc gr : Nat) (s : St) (A8 : Option Addr) (c8 : Nat) (B9 : Option Addr) (c9 : Nat)  (b0 b1 b2 b3 b4 b5 b6 b7 b8 b9 b10 b11 b12 b13 b15 b16 b17 b18 b19 b20 b21 b22 b23 b24 b25 : Bool) (a0 : Act) :
    (R15.A W w8 gc gr s A8 c8 B9 c9 b0 b1 b2 b3 b4 b5 b6 b7 b8 b9 b10 b11 b12 b13 false b15 b16 b17 b18 b19 b20 b21 b22 b23 b24 b25 a0).put (some 70) (.bool false) = R15.A W w8 gc gr s A8 c8 B9 c9 b0 b1 b2 b3 b4 b5 b6 b7 b8 b9 b10 b11 b12 b13 true b15 b16 b17 b18 b19 b20 b21 b22 b23 b24 b25 a0 := by
  simp only [R15.A, putIf_put, ne_eq, Nat.reduceEqDiff, not_false_eq_true]
  rfl
theorem R15.e14 {W w8 : World} {gc gr : Nat} {s : St} {A8 : Option Addr} {c8 : Nat} {B9 : Option Addr} {c9 : Nat} {b0 b1 b2 b3 b4 b5 b6 b7 b8 b9 b10 b11 b12 b13 b15 b16 b17 b18 b19 b20 b21 b22 b23 b24 b25 : Bool} {a0 : Act} (hs : a0.tmps.size = 93) : (R15.A W w8 gc gr s A8 c8 B9 c9 b0 b1 b2 b3 b4 b5 b6 b7 b8 b9 b10 b11 b12 b13 true b15 b16 b17 b18 b19 b20 b21 b22 b23 b24 b25 a0).eval (.tmp 70) = (.bool false) := by
  simp [R15.A, eval_putIf, eval_put, size_putIf, hs]
theorem R15.p15 (W w8 : World) (gc gr : Nat) (s : St) (A8 : Option Addr) (c8 : Nat) (B9 : Option Addr) (c9 : Nat)  (b0 b1 b2 b3 b4 b5 b6 b7 b8 b9 b10 b11 b12 b13 b14 b16 b17 b18 b19 b20 b21 b22 b23 b24 b25 : Bool) (a0 : Act) :
    (R15.A W w8 gc gr s A8 c8 B9 c9 b0 b1 b2 b3 b4 b5 b6 b7 b8 b9 b10 b11 b12 b13 b14 false b16 b17 b18 b19 b20 b21 b22 b23 b24 b25 a0).put (some 71) (.bool (decide (0 ≤ rnext s.now s.ts))) = R15.A W w8 gc gr s A8 c8 B9 c9 b0 b1 b2 b3 b4 b5 b6 b7 b8 b9 b10 b11 b12 b13 b14 true b16 b17 b18 b19 b20 b21 b22 b23 b24 b25 a0 := by
  simp only [R15.A, putIf_put, ne_eq, Nat.reduceEqDiff, not_false_eq_true]
  rfl
theorem R15.e15 {W w8 : World} {gc gr : Nat} {s : St} {A8 : Option Addr} {c8 : Nat} {B9 : Option Addr} {c9 : Nat} {b0 b1 b2 b3 b4 b5 b6 b7 b8 b9 b10 b11 b12 b13 b14 b16 b17 b18 b19 b20 b21 b22 b23 b24 b25 : Bool} {a0 : Act} (hs : a0.tmps.size = 93) : (R15.A W w8 gc gr s A8 c8 B9 c9 b0 b1 b2 b3 b4 b5 b6 b7 b8 b9 b10 b11 b12 b13 b14 true b16 b17 b18 b19 b20 b21 b22 b23 b24 b25 a0).eval (.tmp 71) = (.bool (decide (0 ≤ rnext s.now s.ts))) := by
  simp [R15.A, eval_putIf, eval_put, size_putIf, hs]
theorem R15.p16 (W w8 : World) (gc gr : Nat) (s : St) (A8 : Option Addr) (c8 : Nat) (B9 : Option Addr) (c9 : Nat)  (b0 b1 b2 b3 b4 b5 b6 b7 b8 b9 b10 b11 b12 b13 b14 b15 b17 b18 b19 b20 b21 b22 b23 b24 b25 : Bool) (a0 : Act) :
    (R15.A W w8 gc gr s A8 c8 B9 c9 b0 b1 b2 b3 b4 b5 b6 b7 b8 b9 b10 b11 b12 b13 b14 b15 false b17 b18 b19 b20 b21 b22 b23 b24 b25 a0).put (some 72) (.int .i64 (rnext s.now s.ts)) = R15.A W w8 gc gr s A8 c8 B9 c9 b0 b1 b2 b3 b4 b5 b6 b7 b8 b9 b10 b11 b12 b13 b14 b15 true b17 b18 b19 b20 b21 b22 b23 b24 b25 a0 := by
  simp only [R15.A, putIf_put, ne_eq, Nat.reduceEqDiff, not_false_eq_true]
  rfl
theorem R15.e16 {W w8 : World} {gc gr : Nat} {s : St} {A8 : Option Addr} {c8 : Nat} {B9 : Option Addr} {c9 : Nat} {b0 b1 b2 b3 b4 b5 b6 b7 b8 b9 b10 b11 b12 b13 b14 b15 b17 b18 b19 b20 b21 b22 b23 b24 b25 : Bool} {a0 : Act} (hs : a0.tmps.size = 93) : (R15.A W w8 gc gr s A8 c8 B9 c9 b0 b1 b2 b3 b4 b5 b6 b7 b8 b9 b10 b11 b12 b13 b14 b15 true b17 b18 b19 b20 b21 b22 b23 b24 b25 a0).eval (.tmp 72) = (.int .i64 (rnext s.now s.ts)) := by
  simp [R15.A, eval_putIf, eval_put, size_putIf, hs]
theorem R15.p17 (W w8 : World) (gc gr : Nat) (s : St) (A8 : Option Addr) (c8 : Nat) (B9 : Option Addr) (c9 : Nat)  (b0 b1 b2 b3 b4 b5 b6 b7 b8 b9 b10 b11 b12 b13 b14 b15 b16 b18 b19 b20 b21 b22 b23 b24 b25 : Bool) (a0 : Act) :
    (R15.A W w8 gc gr s A8 c8 B9 c9 b0 b1 b2 b3 b4 b5 b6 b7 b8 b9 b10 b11 b12 b13 b14 b15 b16 false b18 b19 b20 b21 b22 b23 b24 b25 a0).put (some 73) (.bool (decide (0 ≤ rnext s.now s.ts))) = R15.A W w8 gc gr s A8 c8 B9 c9 b0 b1 b2 b3 b4 b5 b6 b7 b8 b9 b10 b11 b12 b13 b14 b15 b16 true b18 b19 b20 b21 b22 b23 b24 b25 a0 := by
  simp only [R15.A, putIf_put, ne_eq, Nat.reduceEqDiff, not_false_eq_true]
  rfl
theorem R15.e17 {W w8 : World} {gc gr : Nat} {s : St} {A8 : Option Addr} {c8 : Nat} {B9 : Option Addr} {c9 : Nat} {b0 b1 b2 b3 b4 b5 b6 b7 b8 b9 b10 b11 b12 b13 b14 b15 b16 b18 b19 b20 b21 b22 b23 b24 b25 : Bool} {a0 : Act} (hs : a0.tmps.size = 93) : (R15.A W w8 gc gr s A8 c8 B9 c9 b0 b1 b2 b3 b4 b5 b6 b7 b8 b9 b10 b11 b12 b13 b14 b15 b16 true b18 b19 b20 b21 b22 b23 b24 b25 a0).eval (.tmp 73) = (.bool (decide (0 ≤ rnext s.now s.ts))) := by
  simp [R15.A, eval_putIf, eval_put, size_putIf, hs]
theorem R15.p18 (W w8 : World) (gc gr : Nat) (s : St) (A8 : Option Addr) (c8 : Nat) (B9 : Option Addr) (c9 : Nat)  (b0 b1 b2 b3 b4 b5 b6 b7 b8 b9 b10 b11 b12 b13 b14 b15 b16 b17 b19 b20 b21 b22 b23 b24 b25 : Bool) (a0 : Act) :
    (R15.A W w8 gc gr s A8 c8 B9 c9 b0 b1 b2 b3 b4 b5 b6 b7 b8 b9 b10 b11 b12 b13 b14 b15 b16 b17 false b19 b20 b21 b22 b23 b24 b25 a0).put (some 74) (.bool false) = R15.A W w8 gc gr s A8 c8 B9 c9 b0 b1 b2 b3 b4 b5 b6 b7 b8 b9 b10 b11 b12 b13 b14 b15 b16 b17 true b19 b20 b21 b22 b23 b24 b25 a0 := by
  simp only [R15.A, putIf_put, ne_eq, Nat.reduceEqDiff, not_false_eq_true]
  rfl
theorem R15.e18 {W w8 : World} {gc gr : Nat} {s : St} {A8 : Option Addr} {c8 : Nat} {B9 : Option Addr} {c9 : Nat} {b0 b1 b2 b3 b4 b5 b6 b7 b8 b9 b10 b11 b12 b13 b14 b15 b16 b17 b19 b20 b21 b22 b23 b24 b25 : Bool} {a0 : Act} (hs : a0.tmps.size = 93) : (R15.A W w8 gc gr s A8 c8 B9 c9 b0 b1 b2 b3 b4 b5 b6 b7 b8 b9 b10 b11 b12 b13 b14 b15 b16 b17 true b19 b20 b21 b22 b23 b24 b25 a0).eval (.tmp 74) = (.bool false) := by
  simp [R15.A, eval_putIf, eval_put, size_putIf, hs]
theorem R15.p19 (W w8 : World) (gc gr : Nat) (s : St) (A8 : Option Addr) (c8 : Nat) (B9 : Option Addr) (c9 : Nat)  (b0 b1 b2 b3 b4 b5 b6 b7 b8 b9 b10 b11 b12 b13 b14 b15 b16 b17 b18 b20 b21 b22 b23 b24 b25 : Bool) (a0 : Act) :
    (R15.A W w8 gc gr s A8 c8 B9 c9 b0 b1 b2 b3 b4 b5 b6 b7 b8 b9 b10 b11 b12 b13 b14 b15 b16 b17 b18 false b20 b21 b22 b23 b24 b25 a0).put (some 75) (.bool false) = R15.A W w8 gc gr s A8 c8 B9 c9 b0 b1 b2 b3 b4 b5 b6 b7 b8 b9 b10 b11 b12 b13 b14 b15 b16 b17 b18 true b20 b21 b22 b23 b24 b25 a0 := by
  simp only [R15.A, putIf_put, ne_eq, Nat.reduceEqDiff, not_false_eq_true]
  rfl
theorem R15.e19 {W w8 : World} {gc gr : Nat} {s : St} {A8 : Option Addr} {c8 : Nat} {B9 : Option Addr} {c9 : Nat} {b0 b1 b2 b3 b4 b5 b6 b7 b8 b9 b10 b11 b12 b13 b14 b15 b16 b17 b18 b20 b21 b22 b23 b24 b25 : Bool} {a0 : Act} (hs : a0.tmps.size = 93) : (R15.A W w8 gc gr s A8 c8 B9 c9 b0 b1 b2 b3 b4 b5 b6 b7 b8 b9 b10 b11 b12 b13 b14 b15 b16 b17 b18 true b20 b21 b22 b23 b24 b25 a0).eval (.tmp 75) = (.bool false) := by
  simp [R15.A, eval_putIf, eval_put, size_putIf, hs]
theorem R15.p20 (W w8 : World) (gc gr : Nat) (s : St) (A8 : Option Addr) (c8 : Nat) (B9 : Option Addr) (c9 : Nat)  (b0 b1 b2 b3 b4 b5 b6 b7 b8 b9 b10 b11 b12 b13 b14 b15 b16 b17 b18 b19 b21 b22 b23 b24 b25 : Bool) (a0 : Act) :
    (R15.A W w8 gc gr s A8 c8 B9 c9 b0 b1 b2 b3 b4 b5 b6 b7 b8 b9 b10 b11 b12 b13 b14 b15 b16 b17 b18 b19 false b21 b22 b23 b24 b25 a0).put (some 76) (.bool false) = R15.A W w8 gc gr s A8 c8 B9 c9 b0 b1 b2 b3 b4 b5 b6 b7 b8 b9 b10 b11 b12 b13 b14 b15 b16 b17 b18 b19 true b21 b22 b23 b24 b25 a0 := by
  simp only [R15.A, putIf_put, ne_eq, Nat.reduceEqDiff, not_false_eq_true]
  rfl
theorem R15.e20 {W w8 : World} {gc gr : Nat} {s : St} {A8 : Option Addr} {c8 : Nat} {B9 : Option Addr} {c9 : Nat} {b0 b1 b2 b3 b4 b5 b6 b7 b8 b9 b10 b11 b12 b13 b14 b15 b16 b17 b18 b19 b21 b22 b23 b24 b25 : Bool} {a0 : Act} (hs : a0.tmps.size = 93) : (R15.A W w8 gc gr s A8 c8 B9 c9 b0 b1 b2 b3 b4 b5 b6 b7 b8 b9 b10 b11 b12 b13 b14 b15 b16 b17 b18 b19 true b21 b22 b23 b24 b25 a0).eval (.tmp 76) = (.bool false) := by
  simp [R15.A, eval_putIf, eval_put, size_putIf, hs]
theorem R15.p21 (W w8 : World) (gc gr : Nat) (s : St) (A8 : Option Addr) (c8 : Nat) (B9 : Option Addr) (c9 : Nat)  (b0 b1 b2 b3 b4 b5 b6 b7 b8 b9 b10 b11 b12 b13 b14 b15 b16 b17 b18 b19 b20 b22 b23 b24 b25 : Bool) (a0 : Act) :
    (R15.A W w8 gc gr s A8 c8 B9 c9 b0 b1 b2 b3 b4 b5 b6 b7 b8 b9 b10 b11 b12 b13 b14 b15 b16 b17 b18 b19 b20 false b22 b23 b24 b25 a0).put (some 77) (.int .i64 (max (rnext s.now s.ts) 0)) = R15.A W w8 gc gr s A8 c8 B9 c9 b0 b1 b2 b3 b4 b5 b6 b7 b8 b9 b10 b11 b12 b13 b14 b15 b16 b17 b18 b19 b20 true b22 b23 b24 b25 a0 := by
  simp only [R15.A, putIf_put, ne_eq, Nat.reduceEqDiff, not_false_eq_true]
  rfl
theorem R15.e21 {W w8 : World} {gc gr : Nat} {s : St} {A8 : Option Addr} {c8 : Nat} {B9 : Option Addr} {c9 : Nat} {b0 b1 b2 b3 b4 b5 b6 b7 b8 b9 b10 b11 b12 b13 b14 b15 b16 b17 b18 b19 b20 b22 b23 b24 b25 : Bool} {a0 : Act} (hs : a0.tmps.size = 93) : (R15.A W w8 gc gr s A8 c8 B9 c9 b0 b1 b2 b3 b4 b5 b6 b7 b8 b9 b10 b11 b12 b13 b14 b15 b16 b17 b18 b19 b20 true b22 b23 b24 b25 a0).eval (.tmp 77) = (.int .i64 (max (rnext s.now s.ts) 0)) := by
  simp [R15.A, eval_putIf, eval_put, size_putIf, hs]
theorem R15.p22 (W w8 : World) (gc gr : Nat) (s : St) (A8 : Option Addr) (c8 : Nat) (B9 : Option Addr) (c9 : Nat)  (b0 b1 b2 b3 b4 b5 b6 b7 b8 b9 b10 b11 b12 b13 b14 b15 b16 b17 b18 b19 b20 b21 b23 b24 b25 : Bool) (a0 : Act) :
    (R15.A W w8 gc gr s A8 c8 B9 c9 b0 b1 b2 b3 b4 b5 b6 b7 b8 b9 b10 b11 b12 b13 b14 b15 b16 b17 b18 b19 b20 b21 false b23 b24 b25 a0).put (some 78) (.int .i64 (rnext s.now s.ts)) = R15.A W w8 gc gr s A8 c8 B9 c9 b0 b1 b2 b3 b4 b5 b6 b7 b8 b9 b10 b11 b12 b13 b14 b15 b16 b17 b18 b19 b20 b21 true b23 b24 b25 a0 := by
  simp only [R15.A, putIf_put, ne_eq, Nat.reduceEqDiff, not_false_eq_true]
  rfl
theorem R15.e22 {W w8 : World} {gc gr : Nat} {s : St} {A8 : Option Addr} {c8 : Nat} {B9 : Option Addr} {c9 : Nat} {b0 b1 b2 b3 b4 b5 b6 b7 b8 b9 b10 b11 b12 b13 b14 b15 b16 b17 b18 b19 b20 b21 b23 b24 b25 : Bool} {a0 : Act} (hs : a0.tmps.size = 93) : (R15.A W w8 gc gr s A8 c8 B9 c9 b0 b1 b2 b3 b4 b5 b6 b7 b8 b9 b10 b11 b12 b13 b14 b15 b16 b17 b18 b19 b20 b21 true b23 b24 b25 a0).eval (.tmp 78) = (.int .i64 (rnext s.now s.ts)) := by
  simp [R15.A, eval_putIf, eval_put, size_putIf, hs]
theorem R15.p23 (W w8 : World) (gc gr : Nat) (s : St) (A8 : Option Addr) (c8 : Nat) (B9 : Option Addr) (c9 : Nat)  (b0 b1 b2 b3 b4 b5 b6 b7 b8 b9 b10 b11 b12 b13 b14 b15 b16 b17 b18 b19 b20 b21 b22 b24 b25 : Bool) (a0 : Act) :
    (R15.A W w8 gc gr s A8 c8 B9 c9 b0 b1 b2 b3 b4 b5 b6 b7 b8 b9 b10 b11 b12 b13 b14 b15 b16 b17 b18 b19 b20 b21 b22 false b24 b25 a0).put (some 79) (.int .i64 (max (rnext s.now s.ts) 0)) = R15.A W w8 gc gr s A8 c8 B9 c9 b0 b1 b2 b3 b4 b5 b6 b7 b8 b9 b10 b11 b12 b13 b14 b15 b16 b17 b18 b19 b20 b21 b22 true b24 b25 a0 := by
  simp only [R15.A, putIf_put, ne_eq, Nat.reduceEqDiff, not_false_eq_true]
  rfl
theorem R15.e23 {W w8 : World} {gc gr : Nat} {s : St} {A8 : Option Addr} {c8 : Nat} {B9 : Option Addr} {c9 : Nat} {b0 b1 b2 b3 b4 b5 b6 b7 b8 b9 b10 b11 b12 b13 b14 b15 b16 b17 b18 b19 b20 b21 b22 b24 b25 : Bool} {a0 : Act} (hs : a0.tmps.size = 93) : (R15.A W w8 gc gr s A8 c8 B9 c9 b0 b1 b2 b3 b4 b5 b6 b7 b8 b9 b10 b11 b12 b13 b14 b15 b16 b17 b18 b19 b20 b21 b22 true b24 b25 a0).eval (.tmp 79) = (.int .i64 (max (rnext s.now s.ts) 0)) := by
  simp [R15.A, eval_putIf, eval_put, size_putIf, hs]
theorem R15.p24 (W w8 : World) (gc gr : Nat) (s : St) (A8 : Option Addr) (c8 : Nat) (B9 : Option Addr) (c9 : Nat)  (b0 b1 b2 b3 b4 b5 b6 b7 b8 b9 b10 b11 b12 b13 b14 b15 b16 b17 b18 b19 b20 b21 b22 b23 b25 : Bool) (a0 : Act) :
    (R15.A W w8 gc gr s A8 c8 B9 c9 b0 b1 b2 b3 b4 b5 b6 b7 b8 b9 b10 b11 b12 b13 b14 b15 b16 b17 b18 b19 b20 b21 b22 b23 false b25 a0).put (some 80) (.bool false) = R15.A W w8 gc gr s A8 c8 B9 c9 b0 b1 b2 b3 b4 b5 b6 b7 b8 b9 b10 b11 b12 b13 b14 b15 b16 b17 b18 b19 b20 b21 b22 b23 true b25 a0 := by
  simp only [R15.A, putIf_put, ne_eq, Nat.reduceEqDiff, not_false_eq_true]
  rfl
theorem R15.e24 {W w8 : World} {gc gr : Nat} {s : St} {A8 : Option Addr} {c8 : Nat} {B9 : Option Addr} {c9 : Nat} {b0 b1 b2 b3 b4 b5 b6 b7 b8 b9 b10 b11 b12 b13 b14 b15 b16 b17 b18 b19 b20 b21 b22 b23 b25 : Bool} {a0 : Act} (hs : a0.tmps.size = 93) : (R15.A W w8 gc gr s A8 c8 B9 c9 b0 b1 b2 b3 b4 b5 b6 b7 b8 b9 b10 b11 b12 b13 b14 b15 b16 b17 b18 b19 b20 b21 b22 b23 true b25 a0).eval (.tmp 80) = (.bool false) := by
  simp [R15.A, eval_putIf, eval_put, size_putIf, hs]
theorem R15.p25 (W w8 : World) (gc gr : Nat) (s : St) (A8 : Option Addr) (c8 : Nat) (B9 : Option Addr) (c9 : Nat)  (b0 b1 b2 b3 b4 b5 b6 b7 b8 b9 b10 b11 b12 b13 b14 b15 b16 b17 b18 b19 b20 b21 b22 b23 b24 : Bool) (a0 : Act) :
    (R15.A W w8 gc gr s A8 c8 B9 c9 b0 b1 b2 b3 b4 b5 b6 b7 b8 b9 b10 b11 b12 b13 b14 b15 b16 b17 b18 b19 b20 b21 b22 b23 b24 false a0).put (some 81) (.bool false) = R15.A W w8 gc gr s A8 c8 B9 c9 b0 b1 b2 b3 b4 b5 b6 b7 b8 b9 b10 b11 b12 b13 b14 b15 b16 b17 b18 b19 b20 b21 b22 b23 b24 true a0 := by
  simp only [R15.A, putIf_put, ne_eq, Nat.reduceEqDiff, not_false_eq_true]
  rfl
theorem R15.e25 {W w8 : World} {gc gr : Nat} {s : St} {A8 : Option Addr} {c8 : Nat} {B9 : Option Addr} {c9 : Nat} {b0 b1 b2 b3 b4 b5 b6 b7 b8 b9 b10 b11 b12 b13 b14 b15 b16 b17 b18 b19 b20 b21 b22 b23 b24 : Bool} {a0 : Act} (hs : a0.tmps.size = 93) : (R15.A W w8 gc gr s A8 c8 B9 c9 b0 b1 b2 b3 b4 b5 b6 b7 b8 b9 b10 b11 b12 b13 b14 b15 b16 b17 b18 b19 b20 b21 b22 b23 b24 true a0).eval (.tmp 81) = (.bool false) := by
  simp [R15.A, eval_putIf, eval_put, size_putIf, hs]
theorem R15.size {W w8 : World} {gc gr : Nat} {s : St} {A8 : Option Addr} {c8 : Nat} {B9 : Option Addr} {c9 : Nat} {b0 b1 b2 b3 b4 b5 b6 b7 b8 b9 b10 b11 b12 b13 b14 b15 b16 b17 b18 b19 b20 b21 b22 b23 b24 b25 : Bool} {a0 : Act} : (R15.A W w8 gc gr s A8 c8 B9 c9 b0 b1 b2 b3 b4 b5 b6 b7 b8 b9 b10 b11 b12 b13 b14 b15 b16 b17 b18 b19 b20 b21 b22 b23 b24 b25 a0).tmps.size = a0.tmps.size := by
  simp [R15.A, size_putIf]
theorem R15.f3 {W w8 : World} {gc gr : Nat} {s : St} {A8 : Option Addr} {c8 : Nat} {B9 : Option Addr} {c9 : Nat} {b0 b1 b2 b3 b4 b5 b6 b7 b8 b9 b10 b11 b12 b13 b14 b15 b16 b17 b18 b19 b20 b21 b22 b23 b24 b25 : Bool} {a0 : Act} : (R15.A W w8 gc gr s A8 c8 B9 c9 b0 b1 b2 b3 b4 b5 b6 b7 b8 b9 b10 b11 b12 b13 b14 b15 b16 b17 b18 b19 b20 b21 b22 b23 b24 b25 a0).eval (.tmp 3) = a0.eval (.tmp 3) := by
  simp [R15.A, eval_putIf]
theorem R15.f4 {W w8 : World} {gc gr : Nat} {s : St} {A8 : Option Addr} {c8 : Nat} {B9 : Option Addr} {c9 : Nat} {b0 b1 b2 b3 b4 b5 b6 b7 b8 b9 b10 b11 b12 b13 b14 b15 b16 b17 b18 b19 b20 b21 b22 b23 b24 b25 : Bool} {a0 : Act} : (R15.A W w8 gc gr s A8 c8 B9 c9 b0 b1 b2 b3 b4 b5 b6 b7 b8 b9 b10 b11 b12 b13 b14 b15 b16 b17 b18 b19 b20 b21 b22 b23 b24 b25 a0).eval (.tmp 4) = a0.eval (.tmp 4) := by
  simp [R15.A, eval_putIf]
theorem R15.f9 {W w8 : World} {gc gr : Nat} {s : St} {A8 : Option Addr} {c8 : Nat} {B9 : Option Addr} {c9 : Nat} {b0 b1 b2 b3 b4 b5 b6 b7 b8 b9 b10 b11 b12 b13 b14 b15 b16 b17 b18 b19 b20 b21 b22 b23 b24 b25 : Bool} {a0 : Act} : (R15.A W w8 gc gr s A8 c8 B9 c9 b0 b1 b2 b3 b4 b5 b6 b7 b8 b9 b10 b11 b12 b13 b14 b15 b16 b17 b18 b19 b20 b21 b22 b23 b24 b25 a0).eval (.tmp 9) = a0.eval (.tmp 9) := by
  simp [R15.A, eval_putIf]
theorem R15.f10 {W w8 : World} {gc gr : Nat} {s : St} {A8 : Option Addr} {c8 : Nat} {B9 : Option Addr} {c9 : Nat} {b0 b1 b2 b3 b4 b5 b6 b7 b8 b9 b10 b11 b12 b13 b14 b15 b16 b17 b18 b19 b20 b21 b22 b23 b24 b25 : Bool} {a0 : Act} : (R15.A W w8 gc gr s A8 c8 B9 c9 b0 b1 b2 b3 b4 b5 b6 b7 b8 b9 b10 b11 b12 b13 b14 b15 b16 b17 b18 b19 b20 b21 b22 b23 b24 b25 a0).eval (.tmp 10) = a0.eval (.tmp 10) := by
  simp [R15.A, eval_putIf]
theorem R15.f11 {W w8 : World} {gc gr : Nat} {s : St} {A8 : Option Addr} {c8 : Nat} {B9 : Option Addr} {c9 : Nat} {b0 b1 b2 b3 b4 b5 b6 b7 b8 b9 b10 b11 b12 b13 b14 b15 b16 b17 b18 b19 b20 b21 b22 b23 b24 b25 : Bool} {a0 : Act} : (R15.A W w8 gc gr s A8 c8 B9 c9 b0 b1 b2 b3 b4 b5 b6 b7 b8 b9 b10 b11 b12 b13 b14 b15 b16 b17 b18 b19 b20 b21 b22 b23 b24 b25 a0).eval (.tmp 11) = a0.eval (.tmp 11) := by
  simp [R15.A, eval_putIf]
theorem R15.f12 {W w8 : World} {gc gr : Nat} {s : St} {A8 : Option Addr} {c8 : Nat} {B9 : Option Addr} {c9 : Nat} {b0 b1 b2 b3 b4 b5 b6 b7 b8 b9 b10 b11 b12 b13 b14 b15 b16 b17 b18 b19 b20 b21 b22 b23 b24 b25 : Bool} {a0 : Act} : (R15.A W w8 gc gr s A8 c8 B9 c9 b0 b1 b2 b3 b4 b5 b6 b7 b8 b9 b10 b11 b12 b13 b14 b15 b16 b17 b18 b19 b20 b21 b22 b23 b24 b25 a0).eval (.tmp 12) = a0.eval (.tmp 12) := by
  simp [R15.A, eval_putIf]
def R15.B (W w8 : World) (gc gr : Nat) (s : St) (A8 : Option Addr) (c8 : Nat) (a0 : Act) : Prop := a0.tmps.size = 93 ∧ a0.eval (.tmp 3) = (.pointer (some ⟨gc, 0, none⟩)) ∧ a0.eval (.tmp 4) = (.pointer (some ⟨gr, 0, none⟩)) ∧ a0.eval (.tmp 9) = (.int .i64 (max (rnext s.now s.ts) 0)) ∧ a0.eval (.tmp 10) = (.bool (decide (0 ≤ rnext s.now s.ts))) ∧ a0.eval (.tmp 11) = (.int .i64 (rnext s.now s.ts)) ∧ a0.eval (.tmp 12) = (.slice A8 s.ts.length c8)
def R15.I (W w8 : World) (gc gr : Nat) (s : St) (A8 : Option Addr) (c8 : Nat) (B9 : Option Addr) (c9 : Nat) (b0 b1 b2 b3 b4 b5 b6 b7 b8 b9 b10 b11 b12 b13 b14 b15 b16 b17 b18 b19 b20 b21 b22 b23 b24 b25 : Bool) (w : World) : Prop := Two W w8 gc gr s s ∧ RT w8 (.slice A8 s.ts.length c8) s.ts ∧ Fr [] w8 w ∧ (b10 = true → RT w (.slice B9 s.ts.length c9) s.ts)
/-- What stays true inside the region, whatever has come up. -/
def R15.J (W w8 : World) (gc gr : Nat) (s : St) (A8 : Option Addr) (c8 : Nat) (a0 : Act) (l : Array Bool) (a : Act) (w : World) : Prop :=
  R15.B W w8 gc gr s A8 c8 a0 ∧ ∃ b0 b1 b2 b3 b4 b5 b6 b7 b8 b9 b10 b11 b12 b13 b14 b15 b16 b17 b18 b19 b20 b21 b22 b23 b24 b25 B9 c9, l = #[b0, b1, b2, b3, b4, b5, b6, b7, b8, b9, b10, b11, b12, b13, b14, b15, b16, b17, b18, b19, b20, b21, b22, b23, b24, b25] ∧ a = R15.A W w8 gc gr s A8 c8 B9 c9 b0 b1 b2 b3 b4 b5 b6 b7 b8 b9 b10 b11 b12 b13 b14 b15 b16 b17 b18 b19 b20 b21 b22 b23 b24 b25 a0 ∧ R15.I W w8 gc gr s A8 c8 B9 c9 b0 b1 b2 b3 b4 b5 b6 b7 b8 b9 b10 b11 b12 b13 b14 b15 b16 b17 b18 b19 b20 b21 b22 b23 b24 b25 w
end Go.Proofs.Ytifjablnplpfnaa
