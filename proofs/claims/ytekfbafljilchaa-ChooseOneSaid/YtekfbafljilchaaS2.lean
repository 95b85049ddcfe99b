/- sets.remembered's closure: its drawn region, where the number is no state, is a history, or neither (printed by rem.py). -/
import Derived.Test.YtekfbafljilchaaS1
import Derived.Test.YtekfbafljilchaaG1
set_option linter.unusedVariables false
set_option linter.unusedSimpArgs false
namespace Go.Proofs.Ytekfbafljilchaa
open Go.RowKit Go.Lib

/-- The frame inside the region: what has come up lies in its slots. -/
def RemC.A (wr : World) (bl bh g h gs os n cs s : Nat) (nm : ByteArray) (lt : Bool) (sc kd pr : Int) (z : Bool) (vT vB vD vI : Value)  (b0 b1 b2 b3 b4 b5 b6 b7 b8 b9 b10 b11 b12 b13 b14 b15 b16 b17 b18 b19 b20 b21 b22 b23 b24 b25 b26 b27 b28 b29 b30 b31 b32 b33 : Bool) (a0 : Act) : Act := putIf b0 5 (.int .i64 s) (putIf b1 6 (.bool false) (putIf b2 7 (.bool false) (putIf b3 8 (.int .i64 s) (putIf b4 9 (.pointer (some ⟨g, 0, none⟩)) (putIf b5 10 (.agg #[.string nm, .bool lt, .int .i64 sc, .slice (some ⟨gs, os, none⟩) n cs, vT, vB, vD, vI]) (putIf b6 11 (.slice (some ⟨gs, os, none⟩) n cs) (putIf b7 12 (.int .i64 n) (putIf b8 13 (.bool false) (putIf b9 14 (.bool false) (putIf b10 15 (.bool false) (putIf b11 16 (.pointer (some ⟨g, 0, none⟩)) (putIf b12 17 (.agg #[.string nm, .bool lt, .int .i64 sc, .slice (some ⟨gs, os, none⟩) n cs, vT, vB, vD, vI]) (putIf b13 18 (.slice (some ⟨gs, os, none⟩) n cs) (putIf b14 19 (.int .i64 s) (putIf b15 20 (.pointer (some ⟨gs, os + s * 13, none⟩)) (putIf b16 21 (.pointer (some ⟨gs, os + s * 13 + 1, none⟩)) (putIf b17 22 (.int .i64 kd) (putIf b18 23 (.bool true) (putIf b19 24 (.bool true) (putIf b20 25 (.bool true) (putIf b21 26 undef (putIf b22 27 undef (putIf b23 28 undef (putIf b24 29 undef (putIf b25 30 undef (putIf b26 31 undef (putIf b27 32 undef (putIf b28 33 undef (putIf b29 34 undef (putIf b30 35 undef (putIf b31 36 undef (putIf b32 37 (.bool true) (putIf b33 4 (.bool true) (a0))))))))))))))))))))))))))))))))))
theorem RemC.p0 (wr : World) (bl bh g h gs os n cs s : Nat) (nm : ByteArray) (lt : Bool) (sc kd pr : Int) (z : Bool) (vT vB vD vI : Value)   (b1 b2 b3 b4 b5 b6 b7 b8 b9 b10 b11 b12 b13 b14 b15 b16 b17 b18 b19 b20 b21 b22 b23 b24 b25 b26 b27 b28 b29 b30 b31 b32 b33 : Bool) (a0 : Act) :
    (RemC.A wr bl bh g h gs os n cs s nm lt sc kd pr z vT vB vD vI  false b1 b2 b3 b4 b5 b6 b7 b8 b9 b10 b11 b12 b13 b14 b15 b16 b17 b18 b19 b20 b21 b22 b23 b24 b25 b26 b27 b28 b29 b30 b31 b32 b33 a0).put (some 5) (.int .i64 s) = RemC.A wr bl bh g h gs os n cs s nm lt sc kd pr z vT vB vD vI  true b1 b2 b3 b4 b5 b6 b7 b8 b9 b10 b11 b12 b13 b14 b15 b16 b17 b18 b19 b20 b21 b22 b23 b24 b25 b26 b27 b28 b29 b30 b31 b32 b33 a0 := by
  simp only [RemC.A, putIf_put, ne_eq, Nat.reduceEqDiff, not_false_eq_true]
  rfl
theorem RemC.e0 {wr : World} {bl bh g h gs os n cs s : Nat} {nm : ByteArray} {lt : Bool} {sc kd pr : Int} {z : Bool} {vT vB vD vI : Value}  {b1 b2 b3 b4 b5 b6 b7 b8 b9 b10 b11 b12 b13 b14 b15 b16 b17 b18 b19 b20 b21 b22 b23 b24 b25 b26 b27 b28 b29 b30 b31 b32 b33 : Bool} {a0 : Act} (hs : a0.tmps.size = 38) : (RemC.A wr bl bh g h gs os n cs s nm lt sc kd pr z vT vB vD vI  true b1 b2 b3 b4 b5 b6 b7 b8 b9 b10 b11 b12 b13 b14 b15 b16 b17 b18 b19 b20 b21 b22 b23 b24 b25 b26 b27 b28 b29 b30 b31 b32 b33 a0).eval (.tmp 5) = (.int .i64 s) := by
  simp [RemC.A, eval_putIf, eval_put, size_putIf, hs]
theorem RemC.p1 (wr : World) (bl bh g h gs os n cs s : Nat) (nm : ByteArray) (lt : Bool) (sc kd pr : Int) (z : Bool) (vT vB vD vI : Value)   (b0 b2 b3 b4 b5 b6 b7 b8 b9 b10 b11 b12 b13 b14 b15 b16 b17 b18 b19 b20 b21 b22 b23 b24 b25 b26 b27 b28 b29 b30 b31 b32 b33 : Bool) (a0 : Act) :
    (RemC.A wr bl bh g h gs os n cs s nm lt sc kd pr z vT vB vD vI  b0 false b2 b3 b4 b5 b6 b7 b8 b9 b10 b11 b12 b13 b14 b15 b16 b17 b18 b19 b20 b21 b22 b23 b24 b25 b26 b27 b28 b29 b30 b31 b32 b33 a0).put (some 6) (.bool false) = RemC.A wr bl bh g h gs os n cs s nm lt sc kd pr z vT vB vD vI  b0 true b2 b3 b4 b5 b6 b7 b8 b9 b10 b11 b12 b13 b14 b15 b16 b17 b18 b19 b20 b21 b22 b23 b24 b25 b26 b27 b28 b29 b30 b31 b32 b33 a0 := by
  simp only [RemC.A, putIf_put, ne_eq, Nat.reduceEqDiff, not_false_eq_true]
  rfl
theorem RemC.e1 {wr : World} {bl bh g h gs os n cs s : Nat} {nm : ByteArray} {lt : Bool} {sc kd pr : Int} {z : Bool} {vT vB vD vI : Value}  {b0 b2 b3 b4 b5 b6 b7 b8 b9 b10 b11 b12 b13 b14 b15 b16 b17 b18 b19 b20 b21 b22 b23 b24 b25 b26 b27 b28 b29 b30 b31 b32 b33 : Bool} {a0 : Act} (hs : a0.tmps.size = 38) : (RemC.A wr bl bh g h gs os n cs s nm lt sc kd pr z vT vB vD vI  b0 true b2 b3 b4 b5 b6 b7 b8 b9 b10 b11 b12 b13 b14 b15 b16 b17 b18 b19 b20 b21 b22 b23 b24 b25 b26 b27 b28 b29 b30 b31 b32 b33 a0).eval (.tmp 6) = (.bool false) := by
  simp [RemC.A, eval_putIf, eval_put, size_putIf, hs]
theorem RemC.p2 (wr : World) (bl bh g h gs os n cs s : Nat) (nm : ByteArray) (lt : Bool) (sc kd pr : Int) (z : Bool) (vT vB vD vI : Value)   (b0 b1 b3 b4 b5 b6 b7 b8 b9 b10 b11 b12 b13 b14 b15 b16 b17 b18 b19 b20 b21 b22 b23 b24 b25 b26 b27 b28 b29 b30 b31 b32 b33 : Bool) (a0 : Act) :
    (RemC.A wr bl bh g h gs os n cs s nm lt sc kd pr z vT vB vD vI  b0 b1 false b3 b4 b5 b6 b7 b8 b9 b10 b11 b12 b13 b14 b15 b16 b17 b18 b19 b20 b21 b22 b23 b24 b25 b26 b27 b28 b29 b30 b31 b32 b33 a0).put (some 7) (.bool false) = RemC.A wr bl bh g h gs os n cs s nm lt sc kd pr z vT vB vD vI  b0 b1 true b3 b4 b5 b6 b7 b8 b9 b10 b11 b12 b13 b14 b15 b16 b17 b18 b19 b20 b21 b22 b23 b24 b25 b26 b27 b28 b29 b30 b31 b32 b33 a0 := by
  simp only [RemC.A, putIf_put, ne_eq, Nat.reduceEqDiff, not_false_eq_true]
  rfl
theorem RemC.e2 {wr : World} {bl bh g h gs os n cs s : Nat} {nm : ByteArray} {lt : Bool} {sc kd pr : Int} {z : Bool} {vT vB vD vI : Value}  {b0 b1 b3 b4 b5 b6 b7 b8 b9 b10 b11 b12 b13 b14 b15 b16 b17 b18 b19 b20 b21 b22 b23 b24 b25 b26 b27 b28 b29 b30 b31 b32 b33 : Bool} {a0 : Act} (hs : a0.tmps.size = 38) : (RemC.A wr bl bh g h gs os n cs s nm lt sc kd pr z vT vB vD vI  b0 b1 true b3 b4 b5 b6 b7 b8 b9 b10 b11 b12 b13 b14 b15 b16 b17 b18 b19 b20 b21 b22 b23 b24 b25 b26 b27 b28 b29 b30 b31 b32 b33 a0).eval (.tmp 7) = (.bool false) := by
  simp [RemC.A, eval_putIf, eval_put, size_putIf, hs]
theorem RemC.p3 (wr : World) (bl bh g h gs os n cs s : Nat) (nm : ByteArray) (lt : Bool) (sc kd pr : Int) (z : Bool) (vT vB vD vI : Value)   (b0 b1 b2 b4 b5 b6 b7 b8 b9 b10 b11 b12 b13 b14 b15 b16 b17 b18 b19 b20 b21 b22 b23 b24 b25 b26 b27 b28 b29 b30 b31 b32 b33 : Bool) (a0 : Act) :
    (RemC.A wr bl bh g h gs os n cs s nm lt sc kd pr z vT vB vD vI  b0 b1 b2 false b4 b5 b6 b7 b8 b9 b10 b11 b12 b13 b14 b15 b16 b17 b18 b19 b20 b21 b22 b23 b24 b25 b26 b27 b28 b29 b30 b31 b32 b33 a0).put (some 8) (.int .i64 s) = RemC.A wr bl bh g h gs os n cs s nm lt sc kd pr z vT vB vD vI  b0 b1 b2 true b4 b5 b6 b7 b8 b9 b10 b11 b12 b13 b14 b15 b16 b17 b18 b19 b20 b21 b22 b23 b24 b25 b26 b27 b28 b29 b30 b31 b32 b33 a0 := by
  simp only [RemC.A, putIf_put, ne_eq, Nat.reduceEqDiff, not_false_eq_true]
  rfl
theorem RemC.e3 {wr : World} {bl bh g h gs os n cs s : Nat} {nm : ByteArray} {lt : Bool} {sc kd pr : Int} {z : Bool} {vT vB vD vI : Value}  {b0 b1 b2 b4 b5 b6 b7 b8 b9 b10 b11 b12 b13 b14 b15 b16 b17 b18 b19 b20 b21 b22 b23 b24 b25 b26 b27 b28 b29 b30 b31 b32 b33 : Bool} {a0 : Act} (hs : a0.tmps.size = 38) : (RemC.A wr bl bh g h gs os n cs s nm lt sc kd pr z vT vB vD vI  b0 b1 b2 true b4 b5 b6 b7 b8 b9 b10 b11 b12 b13 b14 b15 b16 b17 b18 b19 b20 b21 b22 b23 b24 b25 b26 b27 b28 b29 b30 b31 b32 b33 a0).eval (.tmp 8) = (.int .i64 s) := by
  simp [RemC.A, eval_putIf, eval_put, size_putIf, hs]
theorem RemC.p4 (wr : World) (bl bh g h gs os n cs s : Nat) (nm : ByteArray) (lt : Bool) (sc kd pr : Int) (z : Bool) (vT vB vD vI : Value)   (b0 b1 b2 b3 b5 b6 b7 b8 b9 b10 b11 b12 b13 b14 b15 b16 b17 b18 b19 b20 b21 b22 b23 b24 b25 b26 b27 b28 b29 b30 b31 b32 b33 : Bool) (a0 : Act) :
    (RemC.A wr bl bh g h gs os n cs s nm lt sc kd pr z vT vB vD vI  b0 b1 b2 b3 false b5 b6 b7 b8 b9 b10 b11 b12 b13 b14 b15 b16 b17 b18 b19 b20 b21 b22 b23 b24 b25 b26 b27 b28 b29 b30 b31 b32 b33 a0).put (some 9) (.pointer (some ⟨g, 0, none⟩)) = RemC.A wr bl bh g h gs os n cs s nm lt sc kd pr z vT vB vD vI  b0 b1 b2 b3 true b5 b6 b7 b8 b9 b10 b11 b12 b13 b14 b15 b16 b17 b18 b19 b20 b21 b22 b23 b24 b25 b26 b27 b28 b29 b30 b31 b32 b33 a0 := by
  simp only [RemC.A, putIf_put, ne_eq, Nat.reduceEqDiff, not_false_eq_true]
  rfl
theorem RemC.e4 {wr : World} {bl bh g h gs os n cs s : Nat} {nm : ByteArray} {lt : Bool} {sc kd pr : Int} {z : Bool} {vT vB vD vI : Value}  {b0 b1 b2 b3 b5 b6 b7 b8 b9 b10 b11 b12 b13 b14 b15 b16 b17 b18 b19 b20 b21 b22 b23 b24 b25 b26 b27 b28 b29 b30 b31 b32 b33 : Bool} {a0 : Act} (hs : a0.tmps.size = 38) : (RemC.A wr bl bh g h gs os n cs s nm lt sc kd pr z vT vB vD vI  b0 b1 b2 b3 true b5 b6 b7 b8 b9 b10 b11 b12 b13 b14 b15 b16 b17 b18 b19 b20 b21 b22 b23 b24 b25 b26 b27 b28 b29 b30 b31 b32 b33 a0).eval (.tmp 9) = (.pointer (some ⟨g, 0, none⟩)) := by
  simp [RemC.A, eval_putIf, eval_put, size_putIf, hs]
theorem RemC.p5 (wr : World) (bl bh g h gs os n cs s : Nat) (nm : ByteArray) (lt : Bool) (sc kd pr : Int) (z : Bool) (vT vB vD vI : Value)   (b0 b1 b2 b3 b4 b6 b7 b8 b9 b10 b11 b12 b13 b14 b15 b16 b17 b18 b19 b20 b21 b22 b23 b24 b25 b26 b27 b28 b29 b30 b31 b32 b33 : Bool) (a0 : Act) :
    (RemC.A wr bl bh g h gs os n cs s nm lt sc kd pr z vT vB vD vI  b0 b1 b2 b3 b4 false b6 b7 b8 b9 b10 b11 b12 b13 b14 b15 b16 b17 b18 b19 b20 b21 b22 b23 b24 b25 b26 b27 b28 b29 b30 b31 b32 b33 a0).put (some 10) (.agg #[.string nm, .bool lt, .int .i64 sc, .slice (some ⟨gs, os, none⟩) n cs, vT, vB, vD, vI]) = RemC.A wr bl bh g h gs os n cs s nm lt sc kd pr z vT vB vD vI  b0 b1 b2 b3 b4 true b6 b7 b8 b9 b10 b11 b12 b13 b14 b15 b16 b17 b18 b19 b20 b21 b22 b23 b24 b25 b26 b27 b28 b29 b30 b31 b32 b33 a0 := by
  simp only [RemC.A, putIf_put, ne_eq, Nat.reduceEqDiff, not_false_eq_true]
  rfl
theorem RemC.e5 {wr : World} {bl bh g h gs os n cs s : Nat} {nm : ByteArray} {lt : Bool} {sc kd pr : Int} {z : Bool} {vT vB vD vI : Value}  {b0 b1 b2 b3 b4 b6 b7 b8 b9 b10 b11 b12 b13 b14 b15 b16 b17 b18 b19 b20 b21 b22 b23 b24 b25 b26 b27 b28 b29 b30 b31 b32 b33 : Bool} {a0 : Act} (hs : a0.tmps.size = 38) : (RemC.A wr bl bh g h gs os n cs s nm lt sc kd pr z vT vB vD vI  b0 b1 b2 b3 b4 true b6 b7 b8 b9 b10 b11 b12 b13 b14 b15 b16 b17 b18 b19 b20 b21 b22 b23 b24 b25 b26 b27 b28 b29 b30 b31 b32 b33 a0).eval (.tmp 10) = (.agg #[.string nm, .bool lt, .int .i64 sc, .slice (some ⟨gs, os, none⟩) n cs, vT, vB, vD, vI]) := by
  simp [RemC.A, eval_putIf, eval_put, size_putIf, hs]
theorem RemC.p6 (wr : World) (bl bh g h gs os n cs s : Nat) (nm : ByteArray) (lt : Bool) (sc kd pr : Int) (z : Bool) (vT vB vD vI : Value)   (b0 b1 b2 b3 b4 b5 b7 b8 b9 b10 b11 b12 b13 b14 b15 b16 b17 b18 b19 b20 b21 b22 b23 b24 b25 b26 b27 b28 b29 b30 b31 b32 b33 : Bool) (a0 : Act) :
    (RemC.A wr bl bh g h gs os n cs s nm lt sc kd pr z vT vB vD vI  b0 b1 b2 b3 b4 b5 false b7 b8 b9 b10 b11 b12 b13 b14 b15 b16 b17 b18 b19 b20 b21 b22 b23 b24 b25 b26 b27 b28 b29 b30 b31 b32 b33 a0).put (some 11) (.slice (some ⟨gs, os, none⟩) n cs) = RemC.A wr bl bh g h gs os n cs s nm lt sc kd pr z vT vB vD vI  b0 b1 b2 b3 b4 b5 true b7 b8 b9 b10 b11 b12 b13 b14 b15 b16 b17 b18 b19 b20 b21 b22 b23 b24 b25 b26 b27 b28 b29 b30 b31 b32 b33 a0 := by
  simp only [RemC.A, putIf_put, ne_eq, Nat.reduceEqDiff, not_false_eq_true]
  rfl
theorem RemC.e6 {wr : World} {bl bh g h gs os n cs s : Nat} {nm : ByteArray} {lt : Bool} {sc kd pr : Int} {z : Bool} {vT vB vD vI : Value}  {b0 b1 b2 b3 b4 b5 b7 b8 b9 b10 b11 b12 b13 b14 b15 b16 b17 b18 b19 b20 b21 b22 b23 b24 b25 b26 b27 b28 b29 b30 b31 b32 b33 : Bool} {a0 : Act} (hs : a0.tmps.size = 38) : (RemC.A wr bl bh g h gs os n cs s nm lt sc kd pr z vT vB vD vI  b0 b1 b2 b3 b4 b5 true b7 b8 b9 b10 b11 b12 b13 b14 b15 b16 b17 b18 b19 b20 b21 b22 b23 b24 b25 b26 b27 b28 b29 b30 b31 b32 b33 a0).eval (.tmp 11) = (.slice (some ⟨gs, os, none⟩) n cs) := by
  simp [RemC.A, eval_putIf, eval_put, size_putIf, hs]
theorem RemC.p7 (wr : World) (bl bh g h gs os n cs s : Nat) (nm : ByteArray) (lt : Bool) (sc kd pr : Int) (z : Bool) (vT vB vD vI : Value)   (b0 b1 b2 b3 b4 b5 b6 b8 b9 b10 b11 b12 b13 b14 b15 b16 b17 b18 b19 b20 b21 b22 b23 b24 b25 b26 b27 b28 b29 b30 b31 b32 b33 : Bool) (a0 : Act) :
    (RemC.A wr bl bh g h gs os n cs s nm lt sc kd pr z vT vB vD vI  b0 b1 b2 b3 b4 b5 b6 false b8 b9 b10 b11 b12 b13 b14 b15 b16 b17 b18 b19 b20 b21 b22 b23 b24 b25 b26 b27 b28 b29 b30 b31 b32 b33 a0).put (some 12) (.int .i64 n) = RemC.A wr bl bh g h gs os n cs s nm lt sc kd pr z vT vB vD vI  b0 b1 b2 b3 b4 b5 b6 true b8 b9 b10 b11 b12 b13 b14 b15 b16 b17 b18 b19 b20 b21 b22 b23 b24 b25 b26 b27 b28 b29 b30 b31 b32 b33 a0 := by
  simp only [RemC.A, putIf_put, ne_eq, Nat.reduceEqDiff, not_false_eq_true]
  rfl
theorem RemC.e7 {wr : World} {bl bh g h gs os n cs s : Nat} {nm : ByteArray} {lt : Bool} {sc kd pr : Int} {z : Bool} {vT vB vD vI : Value}  {b0 b1 b2 b3 b4 b5 b6 b8 b9 b10 b11 b12 b13 b14 b15 b16 b17 b18 b19 b20 b21 b22 b23 b24 b25 b26 b27 b28 b29 b30 b31 b32 b33 : Bool} {a0 : Act} (hs : a0.tmps.size = 38) : (RemC.A wr bl bh g h gs os n cs s nm lt sc kd pr z vT vB vD vI  b0 b1 b2 b3 b4 b5 b6 true b8 b9 b10 b11 b12 b13 b14 b15 b16 b17 b18 b19 b20 b21 b22 b23 b24 b25 b26 b27 b28 b29 b30 b31 b32 b33 a0).eval (.tmp 12) = (.int .i64 n) := by
  simp [RemC.A, eval_putIf, eval_put, size_putIf, hs]
theorem RemC.p8 (wr : World) (bl bh g h gs os n cs s : Nat) (nm : ByteArray) (lt : Bool) (sc kd pr : Int) (z : Bool) (vT vB vD vI : Value)   (b0 b1 b2 b3 b4 b5 b6 b7 b9 b10 b11 b12 b13 b14 b15 b16 b17 b18 b19 b20 b21 b22 b23 b24 b25 b26 b27 b28 b29 b30 b31 b32 b33 : Bool) (a0 : Act) :
    (RemC.A wr bl bh g h gs os n cs s nm lt sc kd pr z vT vB vD vI  b0 b1 b2 b3 b4 b5 b6 b7 false b9 b10 b11 b12 b13 b14 b15 b16 b17 b18 b19 b20 b21 b22 b23 b24 b25 b26 b27 b28 b29 b30 b31 b32 b33 a0).put (some 13) (.bool false) = RemC.A wr bl bh g h gs os n cs s nm lt sc kd pr z vT vB vD vI  b0 b1 b2 b3 b4 b5 b6 b7 true b9 b10 b11 b12 b13 b14 b15 b16 b17 b18 b19 b20 b21 b22 b23 b24 b25 b26 b27 b28 b29 b30 b31 b32 b33 a0 := by
  simp only [RemC.A, putIf_put, ne_eq, Nat.reduceEqDiff, not_false_eq_true]
  rfl
theorem RemC.e8 {wr : World} {bl bh g h gs os n cs s : Nat} {nm : ByteArray} {lt : Bool} {sc kd pr : Int} {z : Bool} {vT vB vD vI : Value}  {b0 b1 b2 b3 b4 b5 b6 b7 b9 b10 b11 b12 b13 b14 b15 b16 b17 b18 b19 b20 b21 b22 b23 b24 b25 b26 b27 b28 b29 b30 b31 b32 b33 : Bool} {a0 : Act} (hs : a0.tmps.size = 38) : (RemC.A wr bl bh g h gs os n cs s nm lt sc kd pr z vT vB vD vI  b0 b1 b2 b3 b4 b5 b6 b7 true b9 b10 b11 b12 b13 b14 b15 b16 b17 b18 b19 b20 b21 b22 b23 b24 b25 b26 b27 b28 b29 b30 b31 b32 b33 a0).eval (.tmp 13) = (.bool false) := by
  simp [RemC.A, eval_putIf, eval_put, size_putIf, hs]
theorem RemC.p9 (wr : World) (bl bh g h gs os n cs s : Nat) (nm : ByteArray) (lt : Bool) (sc kd pr : Int) (z : Bool) (vT vB vD vI : Value)   (b0 b1 b2 b3 b4 b5 b6 b7 b8 b10 b11 b12 b13 b14 b15 b16 b17 b18 b19 b20 b21 b22 b23 b24 b25 b26 b27 b28 b29 b30 b31 b32 b33 : Bool) (a0 : Act) :
    (RemC.A wr bl bh g h gs os n cs s nm lt sc kd pr z vT vB vD vI  b0 b1 b2 b3 b4 b5 b6 b7 b8 false b10 b11 b12 b13 b14 b15 b16 b17 b18 b19 b20 b21 b22 b23 b24 b25 b26 b27 b28 b29 b30 b31 b32 b33 a0).put (some 14) (.bool false) = RemC.A wr bl bh g h gs os n cs s nm lt sc kd pr z vT vB vD vI  b0 b1 b2 b3 b4 b5 b6 b7 b8 true b10 b11 b12 b13 b14 b15 b16 b17 b18 b19 b20 b21 b22 b23 b24 b25 b26 b27 b28 b29 b30 b31 b32 b33 a0 := by
  simp only [RemC.A, putIf_put, ne_eq, Nat.reduceEqDiff, not_false_eq_true]
  rfl
theorem RemC.e9 {wr : World} {bl bh g h gs os n cs s : Nat} {nm : ByteArray} {lt : Bool} {sc kd pr : Int} {z : Bool} {vT vB vD vI : Value}  {b0 b1 b2 b3 b4 b5 b6 b7 b8 b10 b11 b12 b13 b14 b15 b16 b17 b18 b19 b20 b21 b22 b23 b24 b25 b26 b27 b28 b29 b30 b31 b32 b33 : Bool} {a0 : Act} (hs : a0.tmps.size = 38) : (RemC.A wr bl bh g h gs os n cs s nm lt sc kd pr z vT vB vD vI  b0 b1 b2 b3 b4 b5 b6 b7 b8 true b10 b11 b12 b13 b14 b15 b16 b17 b18 b19 b20 b21 b22 b23 b24 b25 b26 b27 b28 b29 b30 b31 b32 b33 a0).eval (.tmp 14) = (.bool false) := by
  simp [RemC.A, eval_putIf, eval_put, size_putIf, hs]
theorem RemC.p10 (wr : World) (bl bh g h gs os n cs s : Nat) (nm : ByteArray) (lt : Bool) (sc kd pr : Int) (z : Bool) (vT vB vD vI : Value)   (b0 b1 b2 b3 b4 b5 b6 b7 b8 b9 b11 b12 b13 b14 b15 b16 b17 b18 b19 b20 b21 b22 b23 b24 b25 b26 b27 b28 b29 b30 b31 b32 b33 : Bool) (a0 : Act) :
    (RemC.A wr bl bh g h gs os n cs s nm lt sc kd pr z vT vB vD vI  b0 b1 b2 b3 b4 b5 b6 b7 b8 b9 false b11 b12 b13 b14 b15 b16 b17 b18 b19 b20 b21 b22 b23 b24 b25 b26 b27 b28 b29 b30 b31 b32 b33 a0).put (some 15) (.bool false) = RemC.A wr bl bh g h gs os n cs s nm lt sc kd pr z vT vB vD vI  b0 b1 b2 b3 b4 b5 b6 b7 b8 b9 true b11 b12 b13 b14 b15 b16 b17 b18 b19 b20 b21 b22 b23 b24 b25 b26 b27 b28 b29 b30 b31 b32 b33 a0 := by
  simp only [RemC.A, putIf_put, ne_eq, Nat.reduceEqDiff, not_false_eq_true]
  rfl
theorem RemC.e10 {wr : World} {bl bh g h gs os n cs s : Nat} {nm : ByteArray} {lt : Bool} {sc kd pr : Int} {z : Bool} {vT vB vD vI : Value}  {b0 b1 b2 b3 b4 b5 b6 b7 b8 b9 b11 b12 b13 b14 b15 b16 b17 b18 b19 b20 b21 b22 b23 b24 b25 b26 b27 b28 b29 b30 b31 b32 b33 : Bool} {a0 : Act} (hs : a0.tmps.size = 38) : (RemC.A wr bl bh g h gs os n cs s nm lt sc kd pr z vT vB vD vI  b0 b1 b2 b3 b4 b5 b6 b7 b8 b9 true b11 b12 b13 b14 b15 b16 b17 b18 b19 b20 b21 b22 b23 b24 b25 b26 b27 b28 b29 b30 b31 b32 b33 a0).eval (.tmp 15) = (.bool false) := by
  simp [RemC.A, eval_putIf, eval_put, size_putIf, hs]
theorem RemC.p11 (wr : World) (bl bh g h gs os n cs s : Nat) (nm : ByteArray) (lt : Bool) (sc kd pr : Int) (z : Bool) (vT vB vD vI : Value)   (b0 b1 b2 b3 b4 b5 b6 b7 b8 b9 b10 b12 b13 b14 b15 b16 b17 b18 b19 b20 b21 b22 b23 b24 b25 b26 b27 b28 b29 b30 b31 b32 b33 : Bool) (a0 : Act) :
    (RemC.A wr bl bh g h gs os n cs s nm lt sc kd pr z vT vB vD vI  b0 b1 b2 b3 b4 b5 b6 b7 b8 b9 b10 false b12 b13 b14 b15 b16 b17 b18 b19 b20 b21 b22 b23 b24 b25 b26 b27 b28 b29 b30 b31 b32 b33 a0).put (some 16) (.pointer (some ⟨g, 0, none⟩)) = RemC.A wr bl bh g h gs os n cs s nm lt sc kd pr z vT vB vD vI  b0 b1 b2 b3 b4 b5 b6 b7 b8 b9 b10 true b12 b13 b14 b15 b16 b17 b18 b19 b20 b21 b22 b23 b24 b25 b26 b27 b28 b29 b30 b31 b32 b33 a0 := by
  simp only [RemC.A, putIf_put, ne_eq, Nat.reduceEqDiff, not_false_eq_true]
  rfl
theorem RemC.e11 {wr : World} {bl bh g h gs os n cs s : Nat} {nm : ByteArray} {lt : Bool} {sc kd pr : Int} {z : Bool} {vT vB vD vI : Value}  {b0 b1 b2 b3 b4 b5 b6 b7 b8 b9 b10 b12 b13 b14 b15 b16 b17 b18 b19 b20 b21 b22 b23 b24 b25 b26 b27 b28 b29 b30 b31 b32 b33 : Bool} {a0 : Act} (hs : a0.tmps.size = 38) : (RemC.A wr bl bh g h gs os n cs s nm lt sc kd pr z vT vB vD vI  b0 b1 b2 b3 b4 b5 b6 b7 b8 b9 b10 true b12 b13 b14 b15 b16 b17 b18 b19 b20 b21 b22 b23 b24 b25 b26 b27 b28 b29 b30 b31 b32 b33 a0).eval (.tmp 16) = (.pointer (some ⟨g, 0, none⟩)) := by
  simp [RemC.A, eval_putIf, eval_put, size_putIf, hs]
theorem RemC.p12 (wr : World) (bl bh g h gs os n cs s : Nat) (nm : ByteArray) (lt : Bool) (sc kd pr : Int) (z : Bool) (vT vB vD vI : Value)   (b0 b1 b2 b3 b4 b5 b6 b7 b8 b9 b10 b11 b13 b14 b15 b16 b17 b18 b19 b20 b21 b22 b23 b24 b25 b26 b27 b28 b29 b30 b31 b32 b33 : Bool) (a0 : Act) :
    (RemC.A wr bl bh g h gs os n cs s nm lt sc kd pr z vT vB vD vI  b0 b1 b2 b3 b4 b5 b6 b7 b8 b9 b10 b11 false b13 b14 b15 b16 b17 b18 b19 b20 b21 b22 b23 b24 b25 b26 b27 b28 b29 b30 b31 b32 b33 a0).put (some 17) (.agg #[.string nm, .bool lt, .int .i64 sc, .slice (some ⟨gs, os, none⟩) n cs, vT, vB, vD, vI]) = RemC.A wr bl bh g h gs os n cs s nm lt sc kd pr z vT vB vD vI  b0 b1 b2 b3 b4 b5 b6 b7 b8 b9 b10 b11 true b13 b14 b15 b16 b17 b18 b19 b20 b21 b22 b23 b24 b25 b26 b27 b28 b29 b30 b31 b32 b33 a0 := by
  simp only [RemC.A, putIf_put, ne_eq, Nat.reduceEqDiff, not_false_eq_true]
  rfl
theorem RemC.e12 {wr : World} {bl bh g h gs os n cs s : Nat} {nm : ByteArray} {lt : Bool} {sc kd pr : Int} {z : Bool} {vT vB vD vI : Value}  {b0 b1 b2 b3 b4 b5 b6 b7 b8 b9 b10 b11 b13 b14 b15 b16 b17 b18 b19 b20 b21 b22 b23 b24 b25 b26 b27 b28 b29 b30 b31 b32 b33 : Bool} {a0 : Act} (hs : a0.tmps.size = 38) : (RemC.A wr bl bh g h gs os n cs s nm lt sc kd pr z vT vB vD vI  b0 b1 b2 b3 b4 b5 b6 b7 b8 b9 b10 b11 true b13 b14 b15 b16 b17 b18 b19 b20 b21 b22 b23 b24 b25 b26 b27 b28 b29 b30 b31 b32 b33 a0).eval (.tmp 17) = (.agg #[.string nm, .bool lt, .int .i64 sc, .slice (some ⟨gs, os, none⟩) n cs, vT, vB, vD, vI]) := by
  simp [RemC.A, eval_putIf, eval_put, size_putIf, hs]
theorem RemC.p13 (wr : World) (bl bh g h gs os n cs s : Nat) (nm : ByteArray) (lt : Bool) (sc kd pr : Int) (z : Bool) (vT vB vD vI : Value)   (b0 b1 b2 b3 b4 b5 b6 b7 b8 b9 b10 b11 b12 b14 b15 b16 b17 b18 b19 b20 b21 b22 b23 b24 b25 b26 b27 b28 b29 b30 b31 b32 b33 : Bool) (a0 : Act) :
    (RemC.A wr bl bh g h gs os n cs s nm lt sc kd pr z vT vB vD vI  b0 b1 b2 b3 b4 b5 b6 b7 b8 b9 b10 b11 b12 false b14 b15 b16 b17 b18 b19 b20 b21 b22 b23 b24 b25 b26 b27 b28 b29 b30 b31 b32 b33 a0).put (some 18) (.slice (some ⟨gs, os, none⟩) n cs) = RemC.A wr bl bh g h gs os n cs s nm lt sc kd pr z vT vB vD vI  b0 b1 b2 b3 b4 b5 b6 b7 b8 b9 b10 b11 b12 true b14 b15 b16 b17 b18 b19 b20 b21 b22 b23 b24 b25 b26 b27 b28 b29 b30 b31 b32 b33 a0 := by
  simp only [RemC.A, putIf_put, ne_eq, Nat.reduceEqDiff, not_false_eq_true]
  rfl
theorem RemC.e13 {wr : World} {bl bh g h gs os n cs s : Nat} {nm : ByteArray} {lt : Bool} {sc kd pr : Int} {z : Bool} {vT vB vD vI : Value}  {b0 b1 b2 b3 b4 b5 b6 b7 b8 b9 b10 b11 b12 b14 b15 b16 b17 b18 b19 b20 b21 b22 b23 b24 b25 b26 b27 b28 b29 b30 b31 b32 b33 : Bool} {a0 : Act} (hs : a0.tmps.size = 38) : (RemC.A wr bl bh g h gs os n cs s nm lt sc kd pr z vT vB vD vI  b0 b1 b2 b3 b4 b5 b6 b7 b8 b9 b10 b11 b12 true b14 b15 b16 b17 b18 b19 b20 b21 b22 b23 b24 b25 b26 b27 b28 b29 b30 b31 b32 b33 a0).eval (.tmp 18) = (.slice (some ⟨gs, os, none⟩) n cs) := by
  simp [RemC.A, eval_putIf, eval_put, size_putIf, hs]
theorem RemC.p14 (wr : World) (bl bh g h gs os n cs s : Nat) (nm : ByteArray) (lt : Bool) (sc kd pr : Int) (z : Bool) (vT vB vD vI : Value)   (b0 b1 b2 b3 b4 b5 b6 b7 b8 b9 b10 b11 b12 b13 b15 b16 b17 b18 b19 b20 b21 b22 b23 b24 b25 b26 b27 b28 b29 b30 b31 b32 b33 : Bool) (a0 : Act) :
    (RemC.A wr bl bh g h gs os n cs s nm lt sc kd pr z vT vB vD vI  b0 b1 b2 b3 b4 b5 b6 b7 b8 b9 b10 b11 b12 b13 false b15 b16 b17 b18 b19 b20 b21 b22 b23 b24 b25 b26 b27 b28 b29 b30 b31 b32 b33 a0).put (some 19) (.int .i64 s) = RemC.A wr bl bh g h gs os n cs s nm lt sc kd pr z vT vB vD vI  b0 b1 b2 b3 b4 b5 b6 b7 b8 b9 b10 b11 b12 b13 true b15 b16 b17 b18 b19 b20 b21 b22 b23 b24 b25 b26 b27 b28 b29 b30 b31 b32 b33 a0 := by
  simp only [RemC.A, putIf_put, ne_eq, Nat.reduceEqDiff, not_false_eq_true]
  rfl
theorem RemC.e14 {wr : World} {bl bh g h gs os n cs s : Nat} {nm : ByteArray} {lt : Bool} {sc kd pr : Int} {z : Bool} {vT vB vD vI : Value}  {b0 b1 b2 b3 b4 b5 b6 b7 b8 b9 b10 b11 b12 b13 b15 b16 b17 b18 b19 b20 b21 b22 b23 b24 b25 b26 b27 b28 b29 b30 b31 b32 b33 : Bool} {a0 : Act} (hs : a0.tmps.size = 38) : (RemC.A wr bl bh g h gs os n cs s nm lt sc kd pr z vT vB vD vI  b0 b1 b2 b3 b4 b5 b6 b7 b8 b9 b10 b11 b12 b13 true b15 b16 b17 b18 b19 b20 b21 b22 b23 b24 b25 b26 b27 b28 b29 b30 b31 b32 b33 a0).eval (.tmp 19) = (.int .i64 s) := by
  simp [RemC.A, eval_putIf, eval_put, size_putIf, hs]
theorem RemC.p15 (wr : World) (bl bh g h gs os n cs s : Nat) (nm : ByteArray) (lt : Bool) (sc kd pr : Int) (z : Bool) (vT vB vD vI : Value)   (b0 b1 b2 b3 b4 b5 b6 b7 b8 b9 b10 b11 b12 b13 b14 b16 b17 b18 b19 b20 b21 b22 b23 b24 b25 b26 b27 b28 b29 b30 b31 b32 b33 : Bool) (a0 : Act) :
    (RemC.A wr bl bh g h gs os n cs s nm lt sc kd pr z vT vB vD vI  b0 b1 b2 b3 b4 b5 b6 b7 b8 b9 b10 b11 b12 b13 b14 false b16 b17 b18 b19 b20 b21 b22 b23 b24 b25 b26 b27 b28 b29 b30 b31 b32 b33 a0).put (some 20) (.pointer (some ⟨gs, os + s * 13, none⟩)) = RemC.A wr bl bh g h gs os n cs s nm lt sc kd pr z vT vB vD vI  b0 b1 b2 b3 b4 b5 b6 b7 b8 b9 b10 b11 b12 b13 b14 true b16 b17 b18 b19 b20 b21 b22 b23 b24 b25 b26 b27 b28 b29 b30 b31 b32 b33 a0 := by
  simp only [RemC.A, putIf_put, ne_eq, Nat.reduceEqDiff, not_false_eq_true]
  rfl
theorem RemC.e15 {wr : World} {bl bh g h gs os n cs s : Nat} {nm : ByteArray} {lt : Bool} {sc kd pr : Int} {z : Bool} {vT vB vD vI : Value}  {b0 b1 b2 b3 b4 b5 b6 b7 b8 b9 b10 b11 b12 b13 b14 b16 b17 b18 b19 b20 b21 b22 b23 b24 b25 b26 b27 b28 b29 b30 b31 b32 b33 : Bool} {a0 : Act} (hs : a0.tmps.size = 38) : (RemC.A wr bl bh g h gs os n cs s nm lt sc kd pr z vT vB vD vI  b0 b1 b2 b3 b4 b5 b6 b7 b8 b9 b10 b11 b12 b13 b14 true b16 b17 b18 b19 b20 b21 b22 b23 b24 b25 b26 b27 b28 b29 b30 b31 b32 b33 a0).eval (.tmp 20) = (.pointer (some ⟨gs, os + s * 13, none⟩)) := by
  simp [RemC.A, eval_putIf, eval_put, size_putIf, hs]
theorem RemC.p16 (wr : World) (bl bh g h gs os n cs s : Nat) (nm : ByteArray) (lt : Bool) (sc kd pr : Int) (z : Bool) (vT vB vD vI : Value)   (b0 b1 b2 b3 b4 b5 b6 b7 b8 b9 b10 b11 b12 b13 b14 b15 b17 b18 b19 b20 b21 b22 b23 b24 b25 b26 b27 b28 b29 b30 b31 b32 b33 : Bool) (a0 : Act) :
    (RemC.A wr bl bh g h gs os n cs s nm lt sc kd pr z vT vB vD vI  b0 b1 b2 b3 b4 b5 b6 b7 b8 b9 b10 b11 b12 b13 b14 b15 false b17 b18 b19 b20 b21 b22 b23 b24 b25 b26 b27 b28 b29 b30 b31 b32 b33 a0).put (some 21) (.pointer (some ⟨gs, os + s * 13 + 1, none⟩)) = RemC.A wr bl bh g h gs os n cs s nm lt sc kd pr z vT vB vD vI  b0 b1 b2 b3 b4 b5 b6 b7 b8 b9 b10 b11 b12 b13 b14 b15 true b17 b18 b19 b20 b21 b22 b23 b24 b25 b26 b27 b28 b29 b30 b31 b32 b33 a0 := by
  simp only [RemC.A, putIf_put, ne_eq, Nat.reduceEqDiff, not_false_eq_true]
  rfl
theorem RemC.e16 {wr : World} {bl bh g h gs os n cs s : Nat} {nm : ByteArray} {lt : Bool} {sc kd pr : Int} {z : Bool} {vT vB vD vI : Value}  {b0 b1 b2 b3 b4 b5 b6 b7 b8 b9 b10 b11 b12 b13 b14 b15 b17 b18 b19 b20 b21 b22 b23 b24 b25 b26 b27 b28 b29 b30 b31 b32 b33 : Bool} {a0 : Act} (hs : a0.tmps.size = 38) : (RemC.A wr bl bh g h gs os n cs s nm lt sc kd pr z vT vB vD vI  b0 b1 b2 b3 b4 b5 b6 b7 b8 b9 b10 b11 b12 b13 b14 b15 true b17 b18 b19 b20 b21 b22 b23 b24 b25 b26 b27 b28 b29 b30 b31 b32 b33 a0).eval (.tmp 21) = (.pointer (some ⟨gs, os + s * 13 + 1, none⟩)) := by
  simp [RemC.A, eval_putIf, eval_put, size_putIf, hs]
theorem RemC.p17 (wr : World) (bl bh g h gs os n cs s : Nat) (nm : ByteArray) (lt : Bool) (sc kd pr : Int) (z : Bool) (vT vB vD vI : Value)   (b0 b1 b2 b3 b4 b5 b6 b7 b8 b9 b10 b11 b12 b13 b14 b15 b16 b18 b19 b20 b21 b22 b23 b24 b25 b26 b27 b28 b29 b30 b31 b32 b33 : Bool) (a0 : Act) :
    (RemC.A wr bl bh g h gs os n cs s nm lt sc kd pr z vT vB vD vI  b0 b1 b2 b3 b4 b5 b6 b7 b8 b9 b10 b11 b12 b13 b14 b15 b16 false b18 b19 b20 b21 b22 b23 b24 b25 b26 b27 b28 b29 b30 b31 b32 b33 a0).put (some 22) (.int .i64 kd) = RemC.A wr bl bh g h gs os n cs s nm lt sc kd pr z vT vB vD vI  b0 b1 b2 b3 b4 b5 b6 b7 b8 b9 b10 b11 b12 b13 b14 b15 b16 true b18 b19 b20 b21 b22 b23 b24 b25 b26 b27 b28 b29 b30 b31 b32 b33 a0 := by
  simp only [RemC.A, putIf_put, ne_eq, Nat.reduceEqDiff, not_false_eq_true]
  rfl
theorem RemC.e17 {wr : World} {bl bh g h gs os n cs s : Nat} {nm : ByteArray} {lt : Bool} {sc kd pr : Int} {z : Bool} {vT vB vD vI : Value}  {b0 b1 b2 b3 b4 b5 b6 b7 b8 b9 b10 b11 b12 b13 b14 b15 b16 b18 b19 b20 b21 b22 b23 b24 b25 b26 b27 b28 b29 b30 b31 b32 b33 : Bool} {a0 : Act} (hs : a0.tmps.size = 38) : (RemC.A wr bl bh g h gs os n cs s nm lt sc kd pr z vT vB vD vI  b0 b1 b2 b3 b4 b5 b6 b7 b8 b9 b10 b11 b12 b13 b14 b15 b16 true b18 b19 b20 b21 b22 b23 b24 b25 b26 b27 b28 b29 b30 b31 b32 b33 a0).eval (.tmp 22) = (.int .i64 kd) := by
  simp [RemC.A, eval_putIf, eval_put, size_putIf, hs]
theorem RemC.p18 (wr : World) (bl bh g h gs os n cs s : Nat) (nm : ByteArray) (lt : Bool) (sc kd pr : Int) (z : Bool) (vT vB vD vI : Value)   (b0 b1 b2 b3 b4 b5 b6 b7 b8 b9 b10 b11 b12 b13 b14 b15 b16 b17 b19 b20 b21 b22 b23 b24 b25 b26 b27 b28 b29 b30 b31 b32 b33 : Bool) (a0 : Act) :
    (RemC.A wr bl bh g h gs os n cs s nm lt sc kd pr z vT vB vD vI  b0 b1 b2 b3 b4 b5 b6 b7 b8 b9 b10 b11 b12 b13 b14 b15 b16 b17 false b19 b20 b21 b22 b23 b24 b25 b26 b27 b28 b29 b30 b31 b32 b33 a0).put (some 23) (.bool true) = RemC.A wr bl bh g h gs os n cs s nm lt sc kd pr z vT vB vD vI  b0 b1 b2 b3 b4 b5 b6 b7 b8 b9 b10 b11 b12 b13 b14 b15 b16 b17 true b19 b20 b21 b22 b23 b24 b25 b26 b27 b28 b29 b30 b31 b32 b33 a0 := by
  simp only [RemC.A, putIf_put, ne_eq, Nat.reduceEqDiff, not_false_eq_true]
  rfl
theorem RemC.e18 {wr : World} {bl bh g h gs os n cs s : Nat} {nm : ByteArray} {lt : Bool} {sc kd pr : Int} {z : Bool} {vT vB vD vI : Value}  {b0 b1 b2 b3 b4 b5 b6 b7 b8 b9 b10 b11 b12 b13 b14 b15 b16 b17 b19 b20 b21 b22 b23 b24 b25 b26 b27 b28 b29 b30 b31 b32 b33 : Bool} {a0 : Act} (hs : a0.tmps.size = 38) : (RemC.A wr bl bh g h gs os n cs s nm lt sc kd pr z vT vB vD vI  b0 b1 b2 b3 b4 b5 b6 b7 b8 b9 b10 b11 b12 b13 b14 b15 b16 b17 true b19 b20 b21 b22 b23 b24 b25 b26 b27 b28 b29 b30 b31 b32 b33 a0).eval (.tmp 23) = (.bool true) := by
  simp [RemC.A, eval_putIf, eval_put, size_putIf, hs]
theorem RemC.p19 (wr : World) (bl bh g h gs os n cs s : Nat) (nm : ByteArray) (lt : Bool) (sc kd pr : Int) (z : Bool) (vT vB vD vI : Value)   (b0 b1 b2 b3 b4 b5 b6 b7 b8 b9 b10 b11 b12 b13 b14 b15 b16 b17 b18 b20 b21 b22 b23 b24 b25 b26 b27 b28 b29 b30 b31 b32 b33 : Bool) (a0 : Act) :
    (RemC.A wr bl bh g h gs os n cs s nm lt sc kd pr z vT vB vD vI  b0 b1 b2 b3 b4 b5 b6 b7 b8 b9 b10 b11 b12 b13 b14 b15 b16 b17 b18 false b20 b21 b22 b23 b24 b25 b26 b27 b28 b29 b30 b31 b32 b33 a0).put (some 24) (.bool true) = RemC.A wr bl bh g h gs os n cs s nm lt sc kd pr z vT vB vD vI  b0 b1 b2 b3 b4 b5 b6 b7 b8 b9 b10 b11 b12 b13 b14 b15 b16 b17 b18 true b20 b21 b22 b23 b24 b25 b26 b27 b28 b29 b30 b31 b32 b33 a0 := by
  simp only [RemC.A, putIf_put, ne_eq, Nat.reduceEqDiff, not_false_eq_true]
  rfl
theorem RemC.e19 {wr : World} {bl bh g h gs os n cs s : Nat} {nm : ByteArray} {lt : Bool} {sc kd pr : Int} {z : Bool} {vT vB vD vI : Value}  {b0 b1 b2 b3 b4 b5 b6 b7 b8 b9 b10 b11 b12 b13 b14 b15 b16 b17 b18 b20 b21 b22 b23 b24 b25 b26 b27 b28 b29 b30 b31 b32 b33 : Bool} {a0 : Act} (hs : a0.tmps.size = 38) : (RemC.A wr bl bh g h gs os n cs s nm lt sc kd pr z vT vB vD vI  b0 b1 b2 b3 b4 b5 b6 b7 b8 b9 b10 b11 b12 b13 b14 b15 b16 b17 b18 true b20 b21 b22 b23 b24 b25 b26 b27 b28 b29 b30 b31 b32 b33 a0).eval (.tmp 24) = (.bool true) := by
  simp [RemC.A, eval_putIf, eval_put, size_putIf, hs]
theorem RemC.p20 (wr : World) (bl bh g h gs os n cs s : Nat) (nm : ByteArray) (lt : Bool) (sc kd pr : Int) (z : Bool) (vT vB vD vI : Value)   (b0 b1 b2 b3 b4 b5 b6 b7 b8 b9 b10 b11 b12 b13 b14 b15 b16 b17 b18 b19 b21 b22 b23 b24 b25 b26 b27 b28 b29 b30 b31 b32 b33 : Bool) (a0 : Act) :
    (RemC.A wr bl bh g h gs os n cs s nm lt sc kd pr z vT vB vD vI  b0 b1 b2 b3 b4 b5 b6 b7 b8 b9 b10 b11 b12 b13 b14 b15 b16 b17 b18 b19 false b21 b22 b23 b24 b25 b26 b27 b28 b29 b30 b31 b32 b33 a0).put (some 25) (.bool true) = RemC.A wr bl bh g h gs os n cs s nm lt sc kd pr z vT vB vD vI  b0 b1 b2 b3 b4 b5 b6 b7 b8 b9 b10 b11 b12 b13 b14 b15 b16 b17 b18 b19 true b21 b22 b23 b24 b25 b26 b27 b28 b29 b30 b31 b32 b33 a0 := by
  simp only [RemC.A, putIf_put, ne_eq, Nat.reduceEqDiff, not_false_eq_true]
  rfl
theorem RemC.e20 {wr : World} {bl bh g h gs os n cs s : Nat} {nm : ByteArray} {lt : Bool} {sc kd pr : Int} {z : Bool} {vT vB vD vI : Value}  {b0 b1 b2 b3 b4 b5 b6 b7 b8 b9 b10 b11 b12 b13 b14 b15 b16 b17 b18 b19 b21 b22 b23 b24 b25 b26 b27 b28 b29 b30 b31 b32 b33 : Bool} {a0 : Act} (hs : a0.tmps.size = 38) : (RemC.A wr bl bh g h gs os n cs s nm lt sc kd pr z vT vB vD vI  b0 b1 b2 b3 b4 b5 b6 b7 b8 b9 b10 b11 b12 b13 b14 b15 b16 b17 b18 b19 true b21 b22 b23 b24 b25 b26 b27 b28 b29 b30 b31 b32 b33 a0).eval (.tmp 25) = (.bool true) := by
  simp [RemC.A, eval_putIf, eval_put, size_putIf, hs]
theorem RemC.p21 (wr : World) (bl bh g h gs os n cs s : Nat) (nm : ByteArray) (lt : Bool) (sc kd pr : Int) (z : Bool) (vT vB vD vI : Value)   (b0 b1 b2 b3 b4 b5 b6 b7 b8 b9 b10 b11 b12 b13 b14 b15 b16 b17 b18 b19 b20 b22 b23 b24 b25 b26 b27 b28 b29 b30 b31 b32 b33 : Bool) (a0 : Act) :
    (RemC.A wr bl bh g h gs os n cs s nm lt sc kd pr z vT vB vD vI  b0 b1 b2 b3 b4 b5 b6 b7 b8 b9 b10 b11 b12 b13 b14 b15 b16 b17 b18 b19 b20 false b22 b23 b24 b25 b26 b27 b28 b29 b30 b31 b32 b33 a0).put (some 26) undef = RemC.A wr bl bh g h gs os n cs s nm lt sc kd pr z vT vB vD vI  b0 b1 b2 b3 b4 b5 b6 b7 b8 b9 b10 b11 b12 b13 b14 b15 b16 b17 b18 b19 b20 true b22 b23 b24 b25 b26 b27 b28 b29 b30 b31 b32 b33 a0 := by
  simp only [RemC.A, putIf_put, ne_eq, Nat.reduceEqDiff, not_false_eq_true]
  rfl
theorem RemC.e21 {wr : World} {bl bh g h gs os n cs s : Nat} {nm : ByteArray} {lt : Bool} {sc kd pr : Int} {z : Bool} {vT vB vD vI : Value}  {b0 b1 b2 b3 b4 b5 b6 b7 b8 b9 b10 b11 b12 b13 b14 b15 b16 b17 b18 b19 b20 b22 b23 b24 b25 b26 b27 b28 b29 b30 b31 b32 b33 : Bool} {a0 : Act} (hs : a0.tmps.size = 38) : (RemC.A wr bl bh g h gs os n cs s nm lt sc kd pr z vT vB vD vI  b0 b1 b2 b3 b4 b5 b6 b7 b8 b9 b10 b11 b12 b13 b14 b15 b16 b17 b18 b19 b20 true b22 b23 b24 b25 b26 b27 b28 b29 b30 b31 b32 b33 a0).eval (.tmp 26) = undef := by
  simp [RemC.A, eval_putIf, eval_put, size_putIf, hs]
theorem RemC.p22 (wr : World) (bl bh g h gs os n cs s : Nat) (nm : ByteArray) (lt : Bool) (sc kd pr : Int) (z : Bool) (vT vB vD vI : Value)   (b0 b1 b2 b3 b4 b5 b6 b7 b8 b9 b10 b11 b12 b13 b14 b15 b16 b17 b18 b19 b20 b21 b23 b24 b25 b26 b27 b28 b29 b30 b31 b32 b33 : Bool) (a0 : Act) :
    (RemC.A wr bl bh g h gs os n cs s nm lt sc kd pr z vT vB vD vI  b0 b1 b2 b3 b4 b5 b6 b7 b8 b9 b10 b11 b12 b13 b14 b15 b16 b17 b18 b19 b20 b21 false b23 b24 b25 b26 b27 b28 b29 b30 b31 b32 b33 a0).put (some 27) undef = RemC.A wr bl bh g h gs os n cs s nm lt sc kd pr z vT vB vD vI  b0 b1 b2 b3 b4 b5 b6 b7 b8 b9 b10 b11 b12 b13 b14 b15 b16 b17 b18 b19 b20 b21 true b23 b24 b25 b26 b27 b28 b29 b30 b31 b32 b33 a0 := by
  simp only [RemC.A, putIf_put, ne_eq, Nat.reduceEqDiff, not_false_eq_true]
  rfl
theorem RemC.e22 {wr : World} {bl bh g h gs os n cs s : Nat} {nm : ByteArray} {lt : Bool} {sc kd pr : Int} {z : Bool} {vT vB vD vI : Value}  {b0 b1 b2 b3 b4 b5 b6 b7 b8 b9 b10 b11 b12 b13 b14 b15 b16 b17 b18 b19 b20 b21 b23 b24 b25 b26 b27 b28 b29 b30 b31 b32 b33 : Bool} {a0 : Act} (hs : a0.tmps.size = 38) : (RemC.A wr bl bh g h gs os n cs s nm lt sc kd pr z vT vB vD vI  b0 b1 b2 b3 b4 b5 b6 b7 b8 b9 b10 b11 b12 b13 b14 b15 b16 b17 b18 b19 b20 b21 true b23 b24 b25 b26 b27 b28 b29 b30 b31 b32 b33 a0).eval (.tmp 27) = undef := by
  simp [RemC.A, eval_putIf, eval_put, size_putIf, hs]
theorem RemC.p23 (wr : World) (bl bh g h gs os n cs s : Nat) (nm : ByteArray) (lt : Bool) (sc kd pr : Int) (z : Bool) (vT vB vD vI : Value)   (b0 b1 b2 b3 b4 b5 b6 b7 b8 b9 b10 b11 b12 b13 b14 b15 b16 b17 b18 b19 b20 b21 b22 b24 b25 b26 b27 b28 b29 b30 b31 b32 b33 : Bool) (a0 : Act) :
    (RemC.A wr bl bh g h gs os n cs s nm lt sc kd pr z vT vB vD vI  b0 b1 b2 b3 b4 b5 b6 b7 b8 b9 b10 b11 b12 b13 b14 b15 b16 b17 b18 b19 b20 b21 b22 false b24 b25 b26 b27 b28 b29 b30 b31 b32 b33 a0).put (some 28) undef = RemC.A wr bl bh g h gs os n cs s nm lt sc kd pr z vT vB vD vI  b0 b1 b2 b3 b4 b5 b6 b7 b8 b9 b10 b11 b12 b13 b14 b15 b16 b17 b18 b19 b20 b21 b22 true b24 b25 b26 b27 b28 b29 b30 b31 b32 b33 a0 := by
  simp only [RemC.A, putIf_put, ne_eq, Nat.reduceEqDiff, not_false_eq_true]
  rfl
theorem RemC.e23 {wr : World} {bl bh g h gs os n cs s : Nat} {nm : ByteArray} {lt : Bool} {sc kd pr : Int} {z : Bool} {vT vB vD vI : Value}  {b0 b1 b2 b3 b4 b5 b6 b7 b8 b9 b10 b11 b12 b13 b14 b15 b16 b17 b18 b19 b20 b21 b22 b24 b25 b26 b27 b28 b29 b30 b31 b32 b33 : Bool} {a0 : Act} (hs : a0.tmps.size = 38) : (RemC.A wr bl bh g h gs os n cs s nm lt sc kd pr z vT vB vD vI  b0 b1 b2 b3 b4 b5 b6 b7 b8 b9 b10 b11 b12 b13 b14 b15 b16 b17 b18 b19 b20 b21 b22 true b24 b25 b26 b27 b28 b29 b30 b31 b32 b33 a0).eval (.tmp 28) = undef := by
  simp [RemC.A, eval_putIf, eval_put, size_putIf, hs]
theorem RemC.p24 (wr : World) (bl bh g h gs os n cs s : Nat) (nm : ByteArray) (lt : Bool) (sc kd pr : Int) (z : Bool) (vT vB vD vI : Value)   (b0 b1 b2 b3 b4 b5 b6 b7 b8 b9 b10 b11 b12 b13 b14 b15 b16 b17 b18 b19 b20 b21 b22 b23 b25 b26 b27 b28 b29 b30 b31 b32 b33 : Bool) (a0 : Act) :
    (RemC.A wr bl bh g h gs os n cs s nm lt sc kd pr z vT vB vD vI  b0 b1 b2 b3 b4 b5 b6 b7 b8 b9 b10 b11 b12 b13 b14 b15 b16 b17 b18 b19 b20 b21 b22 b23 false b25 b26 b27 b28 b29 b30 b31 b32 b33 a0).put (some 29) undef = RemC.A wr bl bh g h gs os n cs s nm lt sc kd pr z vT vB vD vI  b0 b1 b2 b3 b4 b5 b6 b7 b8 b9 b10 b11 b12 b13 b14 b15 b16 b17 b18 b19 b20 b21 b22 b23 true b25 b26 b27 b28 b29 b30 b31 b32 b33 a0 := by
  simp only [RemC.A, putIf_put, ne_eq, Nat.reduceEqDiff, not_false_eq_true]
  rfl
theorem RemC.e24 {wr : World} {bl bh g h gs os n cs s : Nat} {nm : ByteArray} {lt : Bool} {sc kd pr : Int} {z : Bool} {vT vB vD vI : Value}  {b0 b1 b2 b3 b4 b5 b6 b7 b8 b9 b10 b11 b12 b13 b14 b15 b16 b17 b18 b19 b20 b21 b22 b23 b25 b26 b27 b28 b29 b30 b31 b32 b33 : Bool} {a0 : Act} (hs : a0.tmps.size = 38) : (RemC.A wr bl bh g h gs os n cs s nm lt sc kd pr z vT vB vD vI  b0 b1 b2 b3 b4 b5 b6 b7 b8 b9 b10 b11 b12 b13 b14 b15 b16 b17 b18 b19 b20 b21 b22 b23 true b25 b26 b27 b28 b29 b30 b31 b32 b33 a0).eval (.tmp 29) = undef := by
  simp [RemC.A, eval_putIf, eval_put, size_putIf, hs]
theorem RemC.p25 (wr : World) (bl bh g h gs os n cs s : Nat) (nm : ByteArray) (lt : Bool) (sc kd pr : Int) (z : Bool) (vT vB vD vI : Value)   (b0 b1 b2 b3 b4 b5 b6 b7 b8 b9 b10 b11 b12 b13 b14 b15 b16 b17 b18 b19 b20 b21 b22 b23 b24 b26 b27 b28 b29 b30 b31 b32 b33 : Bool) (a0 : Act) :
    (RemC.A wr bl bh g h gs os n cs s nm lt sc kd pr z vT vB vD vI  b0 b1 b2 b3 b4 b5 b6 b7 b8 b9 b10 b11 b12 b13 b14 b15 b16 b17 b18 b19 b20 b21 b22 b23 b24 false b26 b27 b28 b29 b30 b31 b32 b33 a0).put (some 30) undef = RemC.A wr bl bh g h gs os n cs s nm lt sc kd pr z vT vB vD vI  b0 b1 b2 b3 b4 b5 b6 b7 b8 b9 b10 b11 b12 b13 b14 b15 b16 b17 b18 b19 b20 b21 b22 b23 b24 true b26 b27 b28 b29 b30 b31 b32 b33 a0 := by
  simp only [RemC.A, putIf_put, ne_eq, Nat.reduceEqDiff, not_false_eq_true]
  rfl
theorem RemC.e25 {wr : World} {bl bh g h gs os n cs s : Nat} {nm : ByteArray} {lt : Bool} {sc kd pr : Int} {z : Bool} {vT vB vD vI : Value}  {b0 b1 b2 b3 b4 b5 b6 b7 b8 b9 b10 b11 b12 b13 b14 b15 b16 b17 b18 b19 b20 b21 b22 b23 b24 b26 b27 b28 b29 b30 b31 b32 b33 : Bool} {a0 : Act} (hs : a0.tmps.size = 38) : (RemC.A wr bl bh g h gs os n cs s nm lt sc kd pr z vT vB vD vI  b0 b1 b2 b3 b4 b5 b6 b7 b8 b9 b10 b11 b12 b13 b14 b15 b16 b17 b18 b19 b20 b21 b22 b23 b24 true b26 b27 b28 b29 b30 b31 b32 b33 a0).eval (.tmp 30) = undef := by
  simp [RemC.A, eval_putIf, eval_put, size_putIf, hs]
theorem RemC.p26 (wr : World) (bl bh g h gs os n cs s : Nat) (nm : ByteArray) (lt : Bool) (sc kd pr : Int) (z : Bool) (vT vB vD vI : Value)   (b0 b1 b2 b3 b4 b5 b6 b7 b8 b9 b10 b11 b12 b13 b14 b15 b16 b17 b18 b19 b20 b21 b22 b23 b24 b25 b27 b28 b29 b30 b31 b32 b33 : Bool) (a0 : Act) :
    (RemC.A wr bl bh g h gs os n cs s nm lt sc kd pr z vT vB vD vI  b0 b1 b2 b3 b4 b5 b6 b7 b8 b9 b10 b11 b12 b13 b14 b15 b16 b17 b18 b19 b20 b21 b22 b23 b24 b25 false b27 b28 b29 b30 b31 b32 b33 a0).put (some 31) undef = RemC.A wr bl bh g h gs os n cs s nm lt sc kd pr z vT vB vD vI  b0 b1 b2 b3 b4 b5 b6 b7 b8 b9 b10 b11 b12 b13 b14 b15 b16 b17 b18 b19 b20 b21 b22 b23 b24 b25 true b27 b28 b29 b30 b31 b32 b33 a0 := by
  simp only [RemC.A, putIf_put, ne_eq, Nat.reduceEqDiff, not_false_eq_true]
  rfl
theorem RemC.e26 {wr : World} {bl bh g h gs os n cs s : Nat} {nm : ByteArray} {lt : Bool} {sc kd pr : Int} {z : Bool} {vT vB vD vI : Value}  {b0 b1 b2 b3 b4 b5 b6 b7 b8 b9 b10 b11 b12 b13 b14 b15 b16 b17 b18 b19 b20 b21 b22 b23 b24 b25 b27 b28 b29 b30 b31 b32 b33 : Bool} {a0 : Act} (hs : a0.tmps.size = 38) : (RemC.A wr bl bh g h gs os n cs s nm lt sc kd pr z vT vB vD vI  b0 b1 b2 b3 b4 b5 b6 b7 b8 b9 b10 b11 b12 b13 b14 b15 b16 b17 b18 b19 b20 b21 b22 b23 b24 b25 true b27 b28 b29 b30 b31 b32 b33 a0).eval (.tmp 31) = undef := by
  simp [RemC.A, eval_putIf, eval_put, size_putIf, hs]
theorem RemC.p27 (wr : World) (bl bh g h gs os n cs s : Nat) (nm : ByteArray) (lt : Bool) (sc kd pr : Int) (z : Bool) (vT vB vD vI : Value)   (b0 b1 b2 b3 b4 b5 b6 b7 b8 b9 b10 b11 b12 b13 b14 b15 b16 b17 b18 b19 b20 b21 b22 b23 b24 b25 b26 b28 b29 b30 b31 b32 b33 : Bool) (a0 : Act) :
    (RemC.A wr bl bh g h gs os n cs s nm lt sc kd pr z vT vB vD vI  b0 b1 b2 b3 b4 b5 b6 b7 b8 b9 b10 b11 b12 b13 b14 b15 b16 b17 b18 b19 b20 b21 b22 b23 b24 b25 b26 false b28 b29 b30 b31 b32 b33 a0).put (some 32) undef = RemC.A wr bl bh g h gs os n cs s nm lt sc kd pr z vT vB vD vI  b0 b1 b2 b3 b4 b5 b6 b7 b8 b9 b10 b11 b12 b13 b14 b15 b16 b17 b18 b19 b20 b21 b22 b23 b24 b25 b26 true b28 b29 b30 b31 b32 b33 a0 := by
  simp only [RemC.A, putIf_put, ne_eq, Nat.reduceEqDiff, not_false_eq_true]
  rfl
theorem RemC.e27 {wr : World} {bl bh g h gs os n cs s : Nat} {nm : ByteArray} {lt : Bool} {sc kd pr : Int} {z : Bool} {vT vB vD vI : Value}  {b0 b1 b2 b3 b4 b5 b6 b7 b8 b9 b10 b11 b12 b13 b14 b15 b16 b17 b18 b19 b20 b21 b22 b23 b24 b25 b26 b28 b29 b30 b31 b32 b33 : Bool} {a0 : Act} (hs : a0.tmps.size = 38) : (RemC.A wr bl bh g h gs os n cs s nm lt sc kd pr z vT vB vD vI  b0 b1 b2 b3 b4 b5 b6 b7 b8 b9 b10 b11 b12 b13 b14 b15 b16 b17 b18 b19 b20 b21 b22 b23 b24 b25 b26 true b28 b29 b30 b31 b32 b33 a0).eval (.tmp 32) = undef := by
  simp [RemC.A, eval_putIf, eval_put, size_putIf, hs]
theorem RemC.p28 (wr : World) (bl bh g h gs os n cs s : Nat) (nm : ByteArray) (lt : Bool) (sc kd pr : Int) (z : Bool) (vT vB vD vI : Value)   (b0 b1 b2 b3 b4 b5 b6 b7 b8 b9 b10 b11 b12 b13 b14 b15 b16 b17 b18 b19 b20 b21 b22 b23 b24 b25 b26 b27 b29 b30 b31 b32 b33 : Bool) (a0 : Act) :
    (RemC.A wr bl bh g h gs os n cs s nm lt sc kd pr z vT vB vD vI  b0 b1 b2 b3 b4 b5 b6 b7 b8 b9 b10 b11 b12 b13 b14 b15 b16 b17 b18 b19 b20 b21 b22 b23 b24 b25 b26 b27 false b29 b30 b31 b32 b33 a0).put (some 33) undef = RemC.A wr bl bh g h gs os n cs s nm lt sc kd pr z vT vB vD vI  b0 b1 b2 b3 b4 b5 b6 b7 b8 b9 b10 b11 b12 b13 b14 b15 b16 b17 b18 b19 b20 b21 b22 b23 b24 b25 b26 b27 true b29 b30 b31 b32 b33 a0 := by
  simp only [RemC.A, putIf_put, ne_eq, Nat.reduceEqDiff, not_false_eq_true]
  rfl
theorem RemC.e28 {wr : World} {bl bh g h gs os n cs s : Nat} {nm : ByteArray} {lt : Bool} {sc kd pr : Int} {z : Bool} {vT vB vD vI : Value}  {b0 b1 b2 b3 b4 b5 b6 b7 b8 b9 b10 b11 b12 b13 b14 b15 b16 b17 b18 b19 b20 b21 b22 b23 b24 b25 b26 b27 b29 b30 b31 b32 b33 : Bool} {a0 : Act} (hs : a0.tmps.size = 38) : (RemC.A wr bl bh g h gs os n cs s nm lt sc kd pr z vT vB vD vI  b0 b1 b2 b3 b4 b5 b6 b7 b8 b9 b10 b11 b12 b13 b14 b15 b16 b17 b18 b19 b20 b21 b22 b23 b24 b25 b26 b27 true b29 b30 b31 b32 b33 a0).eval (.tmp 33) = undef := by
  simp [RemC.A, eval_putIf, eval_put, size_putIf, hs]
theorem RemC.p29 (wr : World) (bl bh g h gs os n cs s : Nat) (nm : ByteArray) (lt : Bool) (sc kd pr : Int) (z : Bool) (vT vB vD vI : Value)   (b0 b1 b2 b3 b4 b5 b6 b7 b8 b9 b10 b11 b12 b13 b14 b15 b16 b17 b18 b19 b20 b21 b22 b23 b24 b25 b26 b27 b28 b30 b31 b32 b33 : Bool) (a0 : Act) :
    (RemC.A wr bl bh g h gs os n cs s nm lt sc kd pr z vT vB vD vI  b0 b1 b2 b3 b4 b5 b6 b7 b8 b9 b10 b11 b12 b13 b14 b15 b16 b17 b18 b19 b20 b21 b22 b23 b24 b25 b26 b27 b28 false b30 b31 b32 b33 a0).put (some 34) undef = RemC.A wr bl bh g h gs os n cs s nm lt sc kd pr z vT vB vD vI  b0 b1 b2 b3 b4 b5 b6 b7 b8 b9 b10 b11 b12 b13 b14 b15 b16 b17 b18 b19 b20 b21 b22 b23 b24 b25 b26 b27 b28 true b30 b31 b32 b33 a0 := by
  simp only [RemC.A, putIf_put, ne_eq, Nat.reduceEqDiff, not_false_eq_true]
  rfl
theorem RemC.e29 {wr : World} {bl bh g h gs os n cs s : Nat} {nm : ByteArray} {lt : Bool} {sc kd pr : Int} {z : Bool} {vT vB vD vI : Value}  {b0 b1 b2 b3 b4 b5 b6 b7 b8 b9 b10 b11 b12 b13 b14 b15 b16 b17 b18 b19 b20 b21 b22 b23 b24 b25 b26 b27 b28 b30 b31 b32 b33 : Bool} {a0 : Act} (hs : a0.tmps.size = 38) : (RemC.A wr bl bh g h gs os n cs s nm lt sc kd pr z vT vB vD vI  b0 b1 b2 b3 b4 b5 b6 b7 b8 b9 b10 b11 b12 b13 b14 b15 b16 b17 b18 b19 b20 b21 b22 b23 b24 b25 b26 b27 b28 true b30 b31 b32 b33 a0).eval (.tmp 34) = undef := by
  simp [RemC.A, eval_putIf, eval_put, size_putIf, hs]
theorem RemC.p30 (wr : World) (bl bh g h gs os n cs s : Nat) (nm : ByteArray) (lt : Bool) (sc kd pr : Int) (z : Bool) (vT vB vD vI : Value)   (b0 b1 b2 b3 b4 b5 b6 b7 b8 b9 b10 b11 b12 b13 b14 b15 b16 b17 b18 b19 b20 b21 b22 b23 b24 b25 b26 b27 b28 b29 b31 b32 b33 : Bool) (a0 : Act) :
    (RemC.A wr bl bh g h gs os n cs s nm lt sc kd pr z vT vB vD vI  b0 b1 b2 b3 b4 b5 b6 b7 b8 b9 b10 b11 b12 b13 b14 b15 b16 b17 b18 b19 b20 b21 b22 b23 b24 b25 b26 b27 b28 b29 false b31 b32 b33 a0).put (some 35) undef = RemC.A wr bl bh g h gs os n cs s nm lt sc kd pr z vT vB vD vI  b0 b1 b2 b3 b4 b5 b6 b7 b8 b9 b10 b11 b12 b13 b14 b15 b16 b17 b18 b19 b20 b21 b22 b23 b24 b25 b26 b27 b28 b29 true b31 b32 b33 a0 := by
  simp only [RemC.A, putIf_put, ne_eq, Nat.reduceEqDiff, not_false_eq_true]
  rfl
theorem RemC.e30 {wr : World} {bl bh g h gs os n cs s : Nat} {nm : ByteArray} {lt : Bool} {sc kd pr : Int} {z : Bool} {vT vB vD vI : Value}  {b0 b1 b2 b3 b4 b5 b6 b7 b8 b9 b10 b11 b12 b13 b14 b15 b16 b17 b18 b19 b20 b21 b22 b23 b24 b25 b26 b27 b28 b29 b31 b32 b33 : Bool} {a0 : Act} (hs : a0.tmps.size = 38) : (RemC.A wr bl bh g h gs os n cs s nm lt sc kd pr z vT vB vD vI  b0 b1 b2 b3 b4 b5 b6 b7 b8 b9 b10 b11 b12 b13 b14 b15 b16 b17 b18 b19 b20 b21 b22 b23 b24 b25 b26 b27 b28 b29 true b31 b32 b33 a0).eval (.tmp 35) = undef := by
  simp [RemC.A, eval_putIf, eval_put, size_putIf, hs]
theorem RemC.p31 (wr : World) (bl bh g h gs os n cs s : Nat) (nm : ByteArray) (lt : Bool) (sc kd pr : Int) (z : Bool) (vT vB vD vI : Value)   (b0 b1 b2 b3 b4 b5 b6 b7 b8 b9 b10 b11 b12 b13 b14 b15 b16 b17 b18 b19 b20 b21 b22 b23 b24 b25 b26 b27 b28 b29 b30 b32 b33 : Bool) (a0 : Act) :
    (RemC.A wr bl bh g h gs os n cs s nm lt sc kd pr z vT vB vD vI  b0 b1 b2 b3 b4 b5 b6 b7 b8 b9 b10 b11 b12 b13 b14 b15 b16 b17 b18 b19 b20 b21 b22 b23 b24 b25 b26 b27 b28 b29 b30 false b32 b33 a0).put (some 36) undef = RemC.A wr bl bh g h gs os n cs s nm lt sc kd pr z vT vB vD vI  b0 b1 b2 b3 b4 b5 b6 b7 b8 b9 b10 b11 b12 b13 b14 b15 b16 b17 b18 b19 b20 b21 b22 b23 b24 b25 b26 b27 b28 b29 b30 true b32 b33 a0 := by
  simp only [RemC.A, putIf_put, ne_eq, Nat.reduceEqDiff, not_false_eq_true]
  rfl
theorem RemC.e31 {wr : World} {bl bh g h gs os n cs s : Nat} {nm : ByteArray} {lt : Bool} {sc kd pr : Int} {z : Bool} {vT vB vD vI : Value}  {b0 b1 b2 b3 b4 b5 b6 b7 b8 b9 b10 b11 b12 b13 b14 b15 b16 b17 b18 b19 b20 b21 b22 b23 b24 b25 b26 b27 b28 b29 b30 b32 b33 : Bool} {a0 : Act} (hs : a0.tmps.size = 38) : (RemC.A wr bl bh g h gs os n cs s nm lt sc kd pr z vT vB vD vI  b0 b1 b2 b3 b4 b5 b6 b7 b8 b9 b10 b11 b12 b13 b14 b15 b16 b17 b18 b19 b20 b21 b22 b23 b24 b25 b26 b27 b28 b29 b30 true b32 b33 a0).eval (.tmp 36) = undef := by
  simp [RemC.A, eval_putIf, eval_put, size_putIf, hs]
theorem RemC.p32 (wr : World) (bl bh g h gs os n cs s : Nat) (nm : ByteArray) (lt : Bool) (sc kd pr : Int) (z : Bool) (vT vB vD vI : Value)   (b0 b1 b2 b3 b4 b5 b6 b7 b8 b9 b10 b11 b12 b13 b14 b15 b16 b17 b18 b19 b20 b21 b22 b23 b24 b25 b26 b27 b28 b29 b30 b31 b33 : Bool) (a0 : Act) :
    (RemC.A wr bl bh g h gs os n cs s nm lt sc kd pr z vT vB vD vI  b0 b1 b2 b3 b4 b5 b6 b7 b8 b9 b10 b11 b12 b13 b14 b15 b16 b17 b18 b19 b20 b21 b22 b23 b24 b25 b26 b27 b28 b29 b30 b31 false b33 a0).put (some 37) (.bool true) = RemC.A wr bl bh g h gs os n cs s nm lt sc kd pr z vT vB vD vI  b0 b1 b2 b3 b4 b5 b6 b7 b8 b9 b10 b11 b12 b13 b14 b15 b16 b17 b18 b19 b20 b21 b22 b23 b24 b25 b26 b27 b28 b29 b30 b31 true b33 a0 := by
  simp only [RemC.A, putIf_put, ne_eq, Nat.reduceEqDiff, not_false_eq_true]
  rfl
theorem RemC.e32 {wr : World} {bl bh g h gs os n cs s : Nat} {nm : ByteArray} {lt : Bool} {sc kd pr : Int} {z : Bool} {vT vB vD vI : Value}  {b0 b1 b2 b3 b4 b5 b6 b7 b8 b9 b10 b11 b12 b13 b14 b15 b16 b17 b18 b19 b20 b21 b22 b23 b24 b25 b26 b27 b28 b29 b30 b31 b33 : Bool} {a0 : Act} (hs : a0.tmps.size = 38) : (RemC.A wr bl bh g h gs os n cs s nm lt sc kd pr z vT vB vD vI  b0 b1 b2 b3 b4 b5 b6 b7 b8 b9 b10 b11 b12 b13 b14 b15 b16 b17 b18 b19 b20 b21 b22 b23 b24 b25 b26 b27 b28 b29 b30 b31 true b33 a0).eval (.tmp 37) = (.bool true) := by
  simp [RemC.A, eval_putIf, eval_put, size_putIf, hs]
theorem RemC.p33 (wr : World) (bl bh g h gs os n cs s : Nat) (nm : ByteArray) (lt : Bool) (sc kd pr : Int) (z : Bool) (vT vB vD vI : Value)   (b0 b1 b2 b3 b4 b5 b6 b7 b8 b9 b10 b11 b12 b13 b14 b15 b16 b17 b18 b19 b20 b21 b22 b23 b24 b25 b26 b27 b28 b29 b30 b31 b32 : Bool) (a0 : Act) :
    (RemC.A wr bl bh g h gs os n cs s nm lt sc kd pr z vT vB vD vI  b0 b1 b2 b3 b4 b5 b6 b7 b8 b9 b10 b11 b12 b13 b14 b15 b16 b17 b18 b19 b20 b21 b22 b23 b24 b25 b26 b27 b28 b29 b30 b31 b32 false a0).put (some 4) (.bool true) = RemC.A wr bl bh g h gs os n cs s nm lt sc kd pr z vT vB vD vI  b0 b1 b2 b3 b4 b5 b6 b7 b8 b9 b10 b11 b12 b13 b14 b15 b16 b17 b18 b19 b20 b21 b22 b23 b24 b25 b26 b27 b28 b29 b30 b31 b32 true a0 := by
  simp only [RemC.A, putIf_put, ne_eq, Nat.reduceEqDiff, not_false_eq_true]
  rfl
theorem RemC.e33 {wr : World} {bl bh g h gs os n cs s : Nat} {nm : ByteArray} {lt : Bool} {sc kd pr : Int} {z : Bool} {vT vB vD vI : Value}  {b0 b1 b2 b3 b4 b5 b6 b7 b8 b9 b10 b11 b12 b13 b14 b15 b16 b17 b18 b19 b20 b21 b22 b23 b24 b25 b26 b27 b28 b29 b30 b31 b32 : Bool} {a0 : Act} (hs : a0.tmps.size = 38) : (RemC.A wr bl bh g h gs os n cs s nm lt sc kd pr z vT vB vD vI  b0 b1 b2 b3 b4 b5 b6 b7 b8 b9 b10 b11 b12 b13 b14 b15 b16 b17 b18 b19 b20 b21 b22 b23 b24 b25 b26 b27 b28 b29 b30 b31 b32 true a0).eval (.tmp 4) = (.bool true) := by
  simp [RemC.A, eval_putIf, eval_put, size_putIf, hs]
theorem RemC.z (wr : World) (bl bh g h gs os n cs s : Nat) (nm : ByteArray) (lt : Bool) (sc kd pr : Int) (z : Bool) (vT vB vD vI : Value)  (a0 : Act) : a0 = RemC.A wr bl bh g h gs os n cs s nm lt sc kd pr z vT vB vD vI  false false false false false false false false false false false false false false false false false false false false false false false false false false false false false false false false false false a0 := rfl
theorem RemC.size {wr : World} {bl bh g h gs os n cs s : Nat} {nm : ByteArray} {lt : Bool} {sc kd pr : Int} {z : Bool} {vT vB vD vI : Value}  {b0 b1 b2 b3 b4 b5 b6 b7 b8 b9 b10 b11 b12 b13 b14 b15 b16 b17 b18 b19 b20 b21 b22 b23 b24 b25 b26 b27 b28 b29 b30 b31 b32 b33 : Bool} {a0 : Act} : (RemC.A wr bl bh g h gs os n cs s nm lt sc kd pr z vT vB vD vI  b0 b1 b2 b3 b4 b5 b6 b7 b8 b9 b10 b11 b12 b13 b14 b15 b16 b17 b18 b19 b20 b21 b22 b23 b24 b25 b26 b27 b28 b29 b30 b31 b32 b33 a0).tmps.size = a0.tmps.size := by
  simp [RemC.A, size_putIf]
theorem RemC.f0 {wr : World} {bl bh g h gs os n cs s : Nat} {nm : ByteArray} {lt : Bool} {sc kd pr : Int} {z : Bool} {vT vB vD vI : Value}  {b0 b1 b2 b3 b4 b5 b6 b7 b8 b9 b10 b11 b12 b13 b14 b15 b16 b17 b18 b19 b20 b21 b22 b23 b24 b25 b26 b27 b28 b29 b30 b31 b32 b33 : Bool} {a0 : Act} : (RemC.A wr bl bh g h gs os n cs s nm lt sc kd pr z vT vB vD vI  b0 b1 b2 b3 b4 b5 b6 b7 b8 b9 b10 b11 b12 b13 b14 b15 b16 b17 b18 b19 b20 b21 b22 b23 b24 b25 b26 b27 b28 b29 b30 b31 b32 b33 a0).eval (.tmp 0) = a0.eval (.tmp 0) := by
  simp [RemC.A, eval_putIf]
theorem RemC.f1 {wr : World} {bl bh g h gs os n cs s : Nat} {nm : ByteArray} {lt : Bool} {sc kd pr : Int} {z : Bool} {vT vB vD vI : Value}  {b0 b1 b2 b3 b4 b5 b6 b7 b8 b9 b10 b11 b12 b13 b14 b15 b16 b17 b18 b19 b20 b21 b22 b23 b24 b25 b26 b27 b28 b29 b30 b31 b32 b33 : Bool} {a0 : Act} : (RemC.A wr bl bh g h gs os n cs s nm lt sc kd pr z vT vB vD vI  b0 b1 b2 b3 b4 b5 b6 b7 b8 b9 b10 b11 b12 b13 b14 b15 b16 b17 b18 b19 b20 b21 b22 b23 b24 b25 b26 b27 b28 b29 b30 b31 b32 b33 a0).eval (.tmp 1) = a0.eval (.tmp 1) := by
  simp [RemC.A, eval_putIf]
theorem RemC.f2 {wr : World} {bl bh g h gs os n cs s : Nat} {nm : ByteArray} {lt : Bool} {sc kd pr : Int} {z : Bool} {vT vB vD vI : Value}  {b0 b1 b2 b3 b4 b5 b6 b7 b8 b9 b10 b11 b12 b13 b14 b15 b16 b17 b18 b19 b20 b21 b22 b23 b24 b25 b26 b27 b28 b29 b30 b31 b32 b33 : Bool} {a0 : Act} : (RemC.A wr bl bh g h gs os n cs s nm lt sc kd pr z vT vB vD vI  b0 b1 b2 b3 b4 b5 b6 b7 b8 b9 b10 b11 b12 b13 b14 b15 b16 b17 b18 b19 b20 b21 b22 b23 b24 b25 b26 b27 b28 b29 b30 b31 b32 b33 a0).eval (.tmp 2) = a0.eval (.tmp 2) := by
  simp [RemC.A, eval_putIf]
def RemC.B (wr : World) (bl bh g h gs os n cs s : Nat) (nm : ByteArray) (lt : Bool) (sc kd pr : Int) (z : Bool) (vT vB vD vI : Value) (a0 : Act) : Prop := a0.tmps.size = 38 ∧ a0.eval (.tmp 0) = (.int .i64 s) ∧ a0.eval (.tmp 1) = (.pointer (some ⟨bl, 0, none⟩)) ∧ a0.eval (.tmp 2) = (.pointer (some ⟨bh, 0, none⟩))
def RemC.I (wr : World) (bl bh g h gs os n cs s : Nat) (nm : ByteArray) (lt : Bool) (sc kd pr : Int) (z : Bool) (vT vB vD vI : Value)  (b0 b1 b2 b3 b4 b5 b6 b7 b8 b9 b10 b11 b12 b13 b14 b15 b16 b17 b18 b19 b20 b21 b22 b23 b24 b25 b26 b27 b28 b29 b30 b31 b32 b33 : Bool) (w : World) : Prop := Fr [] wr w
/-- What stays true inside the region, whatever has come up. -/
def RemC.J (wr : World) (bl bh g h gs os n cs s : Nat) (nm : ByteArray) (lt : Bool) (sc kd pr : Int) (z : Bool) (vT vB vD vI : Value) (a0 : Act) (l : Array Bool) (a : Act) (w : World) : Prop :=
  RemC.B wr bl bh g h gs os n cs s nm lt sc kd pr z vT vB vD vI a0 ∧ ∃ b0 b1 b2 b3 b4 b5 b6 b7 b8 b9 b10 b11 b12 b13 b14 b15 b16 b17 b18 b19 b20 b21 b22 b23 b24 b25 b26 b27 b28 b29 b30 b31 b32 b33, l = #[b0, b1, b2, b3, b4, b5, b6, b7, b8, b9, b10, b11, b12, b13, b14, b15, b16, b17, b18, b19, b20, b21, b22, b23, b24, b25, b26, b27, b28, b29, b30, b31, b32, b33] ∧ a = RemC.A wr bl bh g h gs os n cs s nm lt sc kd pr z vT vB vD vI  b0 b1 b2 b3 b4 b5 b6 b7 b8 b9 b10 b11 b12 b13 b14 b15 b16 b17 b18 b19 b20 b21 b22 b23 b24 b25 b26 b27 b28 b29 b30 b31 b32 b33 a0 ∧ RemC.I wr bl bh g h gs os n cs s nm lt sc kd pr z vT vB vD vI  b0 b1 b2 b3 b4 b5 b6 b7 b8 b9 b10 b11 b12 b13 b14 b15 b16 b17 b18 b19 b20 b21 b22 b23 b24 b25 b26 b27 b28 b29 b30 b31 b32 b33 w
attribute [irreducible] RemC.A

set_option maxRecDepth 100000 in
set_option maxHeartbeats 8000000 in
theorem rem_c {Q : Exit → Act → World → Prop} {t3 t4 t5 t6 t7 t8 t9 t10 t11 t12 t13 t14 t15 t16 t17 t18 t19 t20 t21 t22 t23 t24 t25 t26 t27 t28 t29 t30 t31 t32 t33 t34 t35 t36 t37 : Value} {wr : World} {bl bh g h gs os n cs s : Nat} {nm : ByteArray} {lt : Bool} {sc kd pr : Int} {z : Bool} {vT vB vD vI : Value} (hl : wr.cell? ⟨bl, 0, none⟩ = some (.pointer (some ⟨g, 0, none⟩))) (hh : wr.cell? ⟨bh, 0, none⟩ = some (.int .i64 h)) (hc : ∀ w, Fr [] wr w → Calls Try.prog 28 #[.pointer (some ⟨g, 0, none⟩)] w fun e w' => e = .returned (.agg #[.string nm, .bool lt, .int .i64 sc, .slice (some ⟨gs, os, none⟩) n cs, vT, vB, vD, vI]) ∧ Fr [] wr w') (hk : wr.cell? ⟨gs, os + s * 13 + 1, none⟩ = some (.int .i64 kd)) (hp : wr.cell? ⟨gs, os + h * 13 + 2, none⟩ = some (.int .i64 pr)) (hi : ∀ w, Fr [] wr w → Calls Try.prog 29 #[.pointer (some ⟨g, 0, none⟩), .int .i64 s, .int .i64 pr] w fun e w' => e = .returned (.bool z) ∧ Fr [] wr w') (hs0 : 1 ≤ s) (hsn : s < n) (hhn : h < n) (hk4 : 4 ≤ kd)
    (hQ : ∀ (u4 u5 u6 u7 u8 u9 u10 u11 u12 u13 u14 u15 u16 u17 u18 u19 u20 u21 u22 u23 u24 u25 u26 u27 u28 u29 u30 u31 u32 u33 u34 u35 u36 u37 : Value) (wx : World), (Fr [] wr wx ∧ u4 = .bool true) → Q .normal ⟨#[(.int .i64 s), (.pointer (some ⟨bl, 0, none⟩)), (.pointer (some ⟨bh, 0, none⟩)), t3, u4, u5, u6, u7, u8, u9, u10, u11, u12, u13, u14, u15, u16, u17, u18, u19, u20, u21, u22, u23, u24, u25, u26, u27, u28, u29, u30, u31, u32, u33, u34, u35, u36, u37], []⟩ wx) :
    (regAt Try.f122 1).wp Try.prog Q ⟨#[(.int .i64 s), (.pointer (some ⟨bl, 0, none⟩)), (.pointer (some ⟨bh, 0, none⟩)), t3, t4, t5, t6, t7, t8, t9, t10, t11, t12, t13, t14, t15, t16, t17, t18, t19, t20, t21, t22, t23, t24, t25, t26, t27, t28, t29, t30, t31, t32, t33, t34, t35, t36, t37], []⟩ wr := by
  have p0 : (0 : Int) ≤ (s : Int) := by omega
  have p1 : (s : Int) < (n : Int) := by omega
  have p2 : (0 : Int) ≤ (h : Int) := by omega
  have p3 : (h : Int) < (n : Int) := by omega
  have p4 : ¬ (s : Int) < 1 := by omega
  have p5 : ¬ (n : Int) ≤ (s : Int) := by omega
  have fd := fun w => run_field28_3 (.string nm) (.bool lt) (.int .i64 sc) (.slice (some ⟨gs, os, none⟩) n cs) vT vB vD vI w
  have hkd : decide (4 ≤ kd) = true := by simpa using hk4
  refine Code.wp_mono (Q := OnlyN (fun a w => Q .normal a w)) onlyN_imp ?_
  conv => arg 2; whnf
  dsimp only
  refine region_inv (by kernel_rfl) (fun a0 l a w => RemC.J wr bl bh g h gs os n cs s nm lt sc kd pr z vT vB vD vI a0 l a w) ?_ ?_ ?_
  · exact ⟨⟨rfl, rfl, rfl, rfl⟩, false, false, false, false, false, false, false, false, false, false, false, false, false, false, false, false, false, false, false, false, false, false, false, false, false, false, false, false, false, false, false, false, false, false, rfl, RemC.z .., (Fr.refl _ _).drew⟩
  · intro l a' w' hJ hi
    obtain ⟨-, b0, b1, b2, b3, b4, b5, b6, b7, b8, b9, b10, b11, b12, b13, b14, b15, b16, b17, b18, b19, b20, b21, b22, b23, b24, b25, b26, b27, b28, b29, b30, b31, b32, b33, rfl, rfl, hinv⟩ := hJ
    have t0 : b0 = true := ready_nil hi 0 (by decide) (by simp [Region.binds])
    have t1 : b1 = true := ready_nil hi 1 (by decide) (by simp [Region.binds, t0])
    have t2 : b2 = true := ready_nil hi 2 (by decide) (by simp [Region.binds, t1])
    have t3 : b3 = true := ready_nil hi 3 (by decide) (by simp [Region.binds, t2])
    have t4 : b4 = true := ready_nil hi 4 (by decide) (by simp [Region.binds, t2])
    have t5 : b5 = true := ready_nil hi 5 (by decide) (by simp [Region.binds, t2, t4])
    have t6 : b6 = true := ready_nil hi 6 (by decide) (by simp [Region.binds, t2, t5])
    have t7 : b7 = true := ready_nil hi 7 (by decide) (by simp [Region.binds, t2, t6])
    have t8 : b8 = true := ready_nil hi 8 (by decide) (by simp [Region.binds, t2, t3, t7])
    have t9 : b9 = true := ready_nil hi 9 (by decide) (by simp [Region.binds, t2, t8])
    have t10 : b10 = true := ready_nil hi 10 (by decide) (by simp [Region.binds, t5, t9])
    have t11 : b11 = true := ready_nil hi 11 (by decide) (by simp [Region.binds, t10])
    have t12 : b12 = true := ready_nil hi 12 (by decide) (by simp [Region.binds, t10, t11])
    have t13 : b13 = true := ready_nil hi 13 (by decide) (by simp [Region.binds, t10, t12])
    have t14 : b14 = true := ready_nil hi 14 (by decide) (by simp [Region.binds, t10])
    have t15 : b15 = true := ready_nil hi 15 (by decide) (by simp [Region.binds, t10, t13, t14])
    have t16 : b16 = true := ready_nil hi 16 (by decide) (by simp [Region.binds, t10, t15])
    have t17 : b17 = true := ready_nil hi 17 (by decide) (by simp [Region.binds, t10, t16])
    have t18 : b18 = true := ready_nil hi 18 (by decide) (by simp [Region.binds, t10, t17])
    have t19 : b19 = true := ready_nil hi 19 (by decide) (by simp [Region.binds, t10, t18])
    have t20 : b20 = true := ready_nil hi 20 (by decide) (by simp [Region.binds, t12, t19])
    have t21 : b21 = true := ready_nil hi 21 (by decide) (by simp [Region.binds, t20])
    have t22 : b22 = true := ready_nil hi 22 (by decide) (by simp [Region.binds, t20])
    have t23 : b23 = true := ready_nil hi 23 (by decide) (by simp [Region.binds, t20])
    have t24 : b24 = true := ready_nil hi 24 (by decide) (by simp [Region.binds, t20, t23])
    have t25 : b25 = true := ready_nil hi 25 (by decide) (by simp [Region.binds, t20, t24])
    have t26 : b26 = true := ready_nil hi 26 (by decide) (by simp [Region.binds, t20])
    have t27 : b27 = true := ready_nil hi 27 (by decide) (by simp [Region.binds, t20, t25, t26])
    have t28 : b28 = true := ready_nil hi 28 (by decide) (by simp [Region.binds, t20, t27])
    have t29 : b29 = true := ready_nil hi 29 (by decide) (by simp [Region.binds, t20, t28])
    have t30 : b30 = true := ready_nil hi 30 (by decide) (by simp [Region.binds, t20, t21, t22, t24, t29])
    have t31 : b31 = true := ready_nil hi 31 (by decide) (by simp [Region.binds, t20, t30])
    have t32 : b32 = true := ready_nil hi 32 (by decide) (by simp [Region.binds, t20, t31])
    have t33 : b33 = true := ready_nil hi 33 (by decide) (by simp [Region.binds, t0, t1, t2, t3, t4, t5, t6, t7, t8, t9, t10, t11, t12, t13, t14, t15, t16, t17, t18, t19, t20, t21, t22, t23, t24, t25, t26, t27, t28, t29, t30, t31, t32])
    subst t0 t1 t2 t3 t4 t5 t6 t7 t8 t9 t10 t11 t12 t13 t14 t15 t16 t17 t18 t19 t20 t21 t22 t23 t24 t25 t26 t27 t28 t29 t30 t31 t32 t33
    clear hi
    simp only [OnlyN, RemC.A, putIf_true, Act.put, List.setIfInBounds_toArray, List.set_cons_zero, List.set_cons_succ]
    exact hQ _ _ _ _ _ _ _ _ _ _ _ _ _ _ _ _ _ _ _ _ _ _ _ _ _ _ _ _ _ _ _ _ _ _ _ ⟨hinv, rfl⟩
  · intro a0 l a' w' i hJ hi
    obtain ⟨hB, b0, b1, b2, b3, b4, b5, b6, b7, b8, b9, b10, b11, b12, b13, b14, b15, b16, b17, b18, b19, b20, b21, b22, b23, b24, b25, b26, b27, b28, b29, b30, b31, b32, b33, rfl, rfl, hinv⟩ := hJ
    have hBB := hB
    obtain ⟨hs0, g0, g1, g2⟩ := hBB
    obtain ⟨h10, hlf, haf⟩ := mem_ready hi
    clear hi
    have hc : i = 0 ∨ i = 1 ∨ i = 2 ∨ i = 3 ∨ i = 4 ∨ i = 5 ∨ i = 6 ∨ i = 7 ∨ i = 8 ∨ i = 9 ∨ i = 10 ∨ i = 11 ∨ i = 12 ∨ i = 13 ∨ i = 14 ∨ i = 15 ∨ i = 16 ∨ i = 17 ∨ i = 18 ∨ i = 19 ∨ i = 20 ∨ i = 21 ∨ i = 22 ∨ i = 23 ∨ i = 24 ∨ i = 25 ∨ i = 26 ∨ i = 27 ∨ i = 28 ∨ i = 29 ∨ i = 30 ∨ i = 31 ∨ i = 32 ∨ i = 33 := by
      have : i < 34 := h10
      omega
    clear h10
    rcases hc with rfl | rfl | rfl | rfl | rfl | rfl | rfl | rfl | rfl | rfl | rfl | rfl | rfl | rfl | rfl | rfl | rfl | rfl | rfl | rfl | rfl | rfl | rfl | rfl | rfl | rfl | rfl | rfl | rfl | rfl | rfl | rfl | rfl | rfl
    · obtain rfl : b0 = false := by simpa using hlf
      refine wpOp_at rfl rfl ?_
      simp only [List.getElem_toArray, List.getElem_cons_zero, List.getElem_cons_succ]
      refine op_val (v := (.int .i64 s)) ?_ (show RemC.J wr bl bh g h gs os n cs s nm lt sc kd pr z vT vB vD vI a0 _ _ _ from ⟨hB, true, b1, b2, b3, b4, b5, b6, b7, b8, b9, b10, b11, b12, b13, b14, b15, b16, b17, b18, b19, b20, b21, b22, b23, b24, b25, b26, b27, b28, b29, b30, b31, b32, b33, rfl, RemC.p0 .., hinv⟩)
      simp only [execOp, RemC.f0, g0]
      have K0 := cell_on (W := wr) hinv hl
      have K1 := cell_on (W := wr) hinv hh
      have K2 := cell_on (W := wr) hinv hk
      have K3 := cell_on (W := wr) hinv hp
      go_simp
    · obtain rfl : b1 = false := by simpa using hlf
      refine wpOp_at rfl rfl ?_
      simp only [List.getElem_toArray, List.getElem_cons_zero, List.getElem_cons_succ]
      simp [Region.binds] at haf
      subst haf
      refine op_val (v := (.bool false)) ?_ (show RemC.J wr bl bh g h gs os n cs s nm lt sc kd pr z vT vB vD vI a0 _ _ _ from ⟨hB, true, true, b2, b3, b4, b5, b6, b7, b8, b9, b10, b11, b12, b13, b14, b15, b16, b17, b18, b19, b20, b21, b22, b23, b24, b25, b26, b27, b28, b29, b30, b31, b32, b33, rfl, RemC.p1 .., hinv⟩)
      simp only [execOp, RemC.e0 hs0]
      have K0 := cell_on (W := wr) hinv hl
      have K1 := cell_on (W := wr) hinv hh
      have K2 := cell_on (W := wr) hinv hk
      have K3 := cell_on (W := wr) hinv hp
      go_simp
    · obtain rfl : b2 = false := by simpa using hlf
      refine wpOp_at rfl rfl ?_
      simp only [List.getElem_toArray, List.getElem_cons_zero, List.getElem_cons_succ]
      simp [Region.binds] at haf
      subst haf
      refine op_val (v := (.bool false)) ?_ (show RemC.J wr bl bh g h gs os n cs s nm lt sc kd pr z vT vB vD vI a0 _ _ _ from ⟨hB, b0, true, true, b3, b4, b5, b6, b7, b8, b9, b10, b11, b12, b13, b14, b15, b16, b17, b18, b19, b20, b21, b22, b23, b24, b25, b26, b27, b28, b29, b30, b31, b32, b33, rfl, RemC.p2 .., hinv⟩)
      simp only [execOp, RemC.e1 hs0]
      have K0 := cell_on (W := wr) hinv hl
      have K1 := cell_on (W := wr) hinv hh
      have K2 := cell_on (W := wr) hinv hk
      have K3 := cell_on (W := wr) hinv hp
      go_simp
    · obtain rfl : b3 = false := by simpa using hlf
      simp [Region.binds] at haf
      subst haf
      refine wpOp_guard rfl rfl (yielded_of rfl rfl (by rw [RemC.size, hs0]; decide) (RemC.e2 hs0)) ?_
      simp only [List.getElem_toArray, List.getElem_cons_zero, List.getElem_cons_succ]
      refine op_val (v := (.int .i64 s)) ?_ (show RemC.J wr bl bh g h gs os n cs s nm lt sc kd pr z vT vB vD vI a0 _ _ _ from ⟨hB, b0, b1, true, true, b4, b5, b6, b7, b8, b9, b10, b11, b12, b13, b14, b15, b16, b17, b18, b19, b20, b21, b22, b23, b24, b25, b26, b27, b28, b29, b30, b31, b32, b33, rfl, RemC.p3 .., hinv⟩)
      simp only [execOp, RemC.f0, g0]
      have K0 := cell_on (W := wr) hinv hl
      have K1 := cell_on (W := wr) hinv hh
      have K2 := cell_on (W := wr) hinv hk
      have K3 := cell_on (W := wr) hinv hp
      go_simp
    · obtain rfl : b4 = false := by simpa using hlf
      simp [Region.binds] at haf
      subst haf
      refine wpOp_guard rfl rfl (yielded_of rfl rfl (by rw [RemC.size, hs0]; decide) (RemC.e2 hs0)) ?_
      simp only [List.getElem_toArray, List.getElem_cons_zero, List.getElem_cons_succ]
      refine op_val (v := (.pointer (some ⟨g, 0, none⟩))) ?_ (show RemC.J wr bl bh g h gs os n cs s nm lt sc kd pr z vT vB vD vI a0 _ _ _ from ⟨hB, b0, b1, true, b3, true, b5, b6, b7, b8, b9, b10, b11, b12, b13, b14, b15, b16, b17, b18, b19, b20, b21, b22, b23, b24, b25, b26, b27, b28, b29, b30, b31, b32, b33, rfl, RemC.p4 .., hinv⟩)
      simp only [execOp, RemC.f1, g1]
      have K0 := cell_on (W := wr) hinv hl
      have K1 := cell_on (W := wr) hinv hh
      have K2 := cell_on (W := wr) hinv hk
      have K3 := cell_on (W := wr) hinv hp
      go_simp
    · obtain rfl : b5 = false := by simpa using hlf
      simp [Region.binds] at haf
      obtain ⟨a0, a1⟩ := haf
      subst a0 a1
      refine wpOp_guard rfl rfl (yielded_of rfl rfl (by rw [RemC.size, hs0]; decide) (RemC.e2 hs0)) ?_
      simp only [List.getElem_toArray, List.getElem_cons_zero, List.getElem_cons_succ]
      have hF : Fr [] wr w' := hinv
      refine op_call (f := 28) rfl (vs := #[(.pointer (some ⟨g, 0, none⟩))]) (by simp [RemC.e4 hs0]) (fun w => enters_of Try.func28 (by kernel_rfl) rfl _ w) ?_
      refine (hc _ hF).mono ?_
      rintro e w3 ⟨rfl, hinv⟩
      exact ⟨_, rfl, (show RemC.J wr bl bh g h gs os n cs s nm lt sc kd pr z vT vB vD vI a0 _ _ _ from ⟨hB, b0, b1, true, b3, true, true, b6, b7, b8, b9, b10, b11, b12, b13, b14, b15, b16, b17, b18, b19, b20, b21, b22, b23, b24, b25, b26, b27, b28, b29, b30, b31, b32, b33, rfl, RemC.p5 .., hinv⟩)⟩
    · obtain rfl : b6 = false := by simpa using hlf
      simp [Region.binds] at haf
      obtain ⟨a0, a1⟩ := haf
      subst a0 a1
      refine wpOp_guard rfl rfl (yielded_of rfl rfl (by rw [RemC.size, hs0]; decide) (RemC.e2 hs0)) ?_
      simp only [List.getElem_toArray, List.getElem_cons_zero, List.getElem_cons_succ]
      refine op_val (v := (.slice (some ⟨gs, os, none⟩) n cs)) ?_ (show RemC.J wr bl bh g h gs os n cs s nm lt sc kd pr z vT vB vD vI a0 _ _ _ from ⟨hB, b0, b1, true, b3, b4, true, true, b7, b8, b9, b10, b11, b12, b13, b14, b15, b16, b17, b18, b19, b20, b21, b22, b23, b24, b25, b26, b27, b28, b29, b30, b31, b32, b33, rfl, RemC.p6 .., hinv⟩)
      simp only [execOp, RemC.e5 hs0]
      have K0 := cell_on (W := wr) hinv hl
      have K1 := cell_on (W := wr) hinv hh
      have K2 := cell_on (W := wr) hinv hk
      have K3 := cell_on (W := wr) hinv hp
      go_simp
    · obtain rfl : b7 = false := by simpa using hlf
      simp [Region.binds] at haf
      obtain ⟨a0, a1⟩ := haf
      subst a0 a1
      refine wpOp_guard rfl rfl (yielded_of rfl rfl (by rw [RemC.size, hs0]; decide) (RemC.e2 hs0)) ?_
      simp only [List.getElem_toArray, List.getElem_cons_zero, List.getElem_cons_succ]
      refine op_val (v := (.int .i64 n)) ?_ (show RemC.J wr bl bh g h gs os n cs s nm lt sc kd pr z vT vB vD vI a0 _ _ _ from ⟨hB, b0, b1, true, b3, b4, b5, true, true, b8, b9, b10, b11, b12, b13, b14, b15, b16, b17, b18, b19, b20, b21, b22, b23, b24, b25, b26, b27, b28, b29, b30, b31, b32, b33, rfl, RemC.p7 .., hinv⟩)
      simp only [execOp, RemC.e6 hs0]
      have K0 := cell_on (W := wr) hinv hl
      have K1 := cell_on (W := wr) hinv hh
      have K2 := cell_on (W := wr) hinv hk
      have K3 := cell_on (W := wr) hinv hp
      go_simp
      rw [show ∀ a : Act, a.tmps[11]?.getD undef = a.eval (.tmp 11) from fun _ => by simp [Act.eval], RemC.e6 hs0]
      go_simp
    · obtain rfl : b8 = false := by simpa using hlf
      simp [Region.binds] at haf
      obtain ⟨a0, a1, a2⟩ := haf
      subst a0 a1 a2
      refine wpOp_guard rfl rfl (yielded_of rfl rfl (by rw [RemC.size, hs0]; decide) (RemC.e2 hs0)) ?_
      simp only [List.getElem_toArray, List.getElem_cons_zero, List.getElem_cons_succ]
      refine op_val (v := (.bool false)) ?_ (show RemC.J wr bl bh g h gs os n cs s nm lt sc kd pr z vT vB vD vI a0 _ _ _ from ⟨hB, b0, b1, true, true, b4, b5, b6, true, true, b9, b10, b11, b12, b13, b14, b15, b16, b17, b18, b19, b20, b21, b22, b23, b24, b25, b26, b27, b28, b29, b30, b31, b32, b33, rfl, RemC.p8 .., hinv⟩)
      simp only [execOp, RemC.e3 hs0, RemC.e7 hs0]
      have K0 := cell_on (W := wr) hinv hl
      have K1 := cell_on (W := wr) hinv hh
      have K2 := cell_on (W := wr) hinv hk
      have K3 := cell_on (W := wr) hinv hp
      go_simp
    · obtain rfl : b9 = false := by simpa using hlf
      refine wpOp_at rfl rfl ?_
      simp only [List.getElem_toArray, List.getElem_cons_zero, List.getElem_cons_succ]
      simp [Region.binds] at haf
      obtain ⟨a0, a1⟩ := haf
      subst a0 a1
      refine op_val (v := (.bool false)) ?_ (show RemC.J wr bl bh g h gs os n cs s nm lt sc kd pr z vT vB vD vI a0 _ _ _ from ⟨hB, b0, b1, true, b3, b4, b5, b6, b7, true, true, b10, b11, b12, b13, b14, b15, b16, b17, b18, b19, b20, b21, b22, b23, b24, b25, b26, b27, b28, b29, b30, b31, b32, b33, rfl, RemC.p9 .., hinv⟩)
      simp only [execOp, RemC.e2 hs0, RemC.e8 hs0]
      have K0 := cell_on (W := wr) hinv hl
      have K1 := cell_on (W := wr) hinv hh
      have K2 := cell_on (W := wr) hinv hk
      have K3 := cell_on (W := wr) hinv hp
      go_simp
    · obtain rfl : b10 = false := by simpa using hlf
      refine wpOp_at rfl rfl ?_
      simp only [List.getElem_toArray, List.getElem_cons_zero, List.getElem_cons_succ]
      simp [Region.binds] at haf
      obtain ⟨a0, a1⟩ := haf
      subst a0 a1
      refine op_val (v := (.bool false)) ?_ (show RemC.J wr bl bh g h gs os n cs s nm lt sc kd pr z vT vB vD vI a0 _ _ _ from ⟨hB, b0, b1, b2, b3, b4, true, b6, b7, b8, true, true, b11, b12, b13, b14, b15, b16, b17, b18, b19, b20, b21, b22, b23, b24, b25, b26, b27, b28, b29, b30, b31, b32, b33, rfl, RemC.p10 .., hinv⟩)
      simp only [execOp, RemC.e9 hs0]
      have K0 := cell_on (W := wr) hinv hl
      have K1 := cell_on (W := wr) hinv hh
      have K2 := cell_on (W := wr) hinv hk
      have K3 := cell_on (W := wr) hinv hp
      go_simp
    · obtain rfl : b11 = false := by simpa using hlf
      simp [Region.binds] at haf
      subst haf
      refine wpOp_guard rfl rfl (yielded_of rfl rfl (by rw [RemC.size, hs0]; decide) (RemC.e10 hs0)) ?_
      simp only [List.getElem_toArray, List.getElem_cons_zero, List.getElem_cons_succ]
      refine op_val (v := (.pointer (some ⟨g, 0, none⟩))) ?_ (show RemC.J wr bl bh g h gs os n cs s nm lt sc kd pr z vT vB vD vI a0 _ _ _ from ⟨hB, b0, b1, b2, b3, b4, b5, b6, b7, b8, b9, true, true, b12, b13, b14, b15, b16, b17, b18, b19, b20, b21, b22, b23, b24, b25, b26, b27, b28, b29, b30, b31, b32, b33, rfl, RemC.p11 .., hinv⟩)
      simp only [execOp, RemC.f1, g1]
      have K0 := cell_on (W := wr) hinv hl
      have K1 := cell_on (W := wr) hinv hh
      have K2 := cell_on (W := wr) hinv hk
      have K3 := cell_on (W := wr) hinv hp
      go_simp
    · obtain rfl : b12 = false := by simpa using hlf
      simp [Region.binds] at haf
      obtain ⟨a0, a1⟩ := haf
      subst a0 a1
      refine wpOp_guard rfl rfl (yielded_of rfl rfl (by rw [RemC.size, hs0]; decide) (RemC.e10 hs0)) ?_
      simp only [List.getElem_toArray, List.getElem_cons_zero, List.getElem_cons_succ]
      have hF : Fr [] wr w' := hinv
      refine op_call (f := 28) rfl (vs := #[(.pointer (some ⟨g, 0, none⟩))]) (by simp [RemC.e11 hs0]) (fun w => enters_of Try.func28 (by kernel_rfl) rfl _ w) ?_
      refine (hc _ hF).mono ?_
      rintro e w3 ⟨rfl, hinv⟩
      exact ⟨_, rfl, (show RemC.J wr bl bh g h gs os n cs s nm lt sc kd pr z vT vB vD vI a0 _ _ _ from ⟨hB, b0, b1, b2, b3, b4, b5, b6, b7, b8, b9, true, true, true, b13, b14, b15, b16, b17, b18, b19, b20, b21, b22, b23, b24, b25, b26, b27, b28, b29, b30, b31, b32, b33, rfl, RemC.p12 .., hinv⟩)⟩
    · obtain rfl : b13 = false := by simpa using hlf
      simp [Region.binds] at haf
      obtain ⟨a0, a1⟩ := haf
      subst a0 a1
      refine wpOp_guard rfl rfl (yielded_of rfl rfl (by rw [RemC.size, hs0]; decide) (RemC.e10 hs0)) ?_
      simp only [List.getElem_toArray, List.getElem_cons_zero, List.getElem_cons_succ]
      refine op_val (v := (.slice (some ⟨gs, os, none⟩) n cs)) ?_ (show RemC.J wr bl bh g h gs os n cs s nm lt sc kd pr z vT vB vD vI a0 _ _ _ from ⟨hB, b0, b1, b2, b3, b4, b5, b6, b7, b8, b9, true, b11, true, true, b14, b15, b16, b17, b18, b19, b20, b21, b22, b23, b24, b25, b26, b27, b28, b29, b30, b31, b32, b33, rfl, RemC.p13 .., hinv⟩)
      simp only [execOp, RemC.e12 hs0]
      have K0 := cell_on (W := wr) hinv hl
      have K1 := cell_on (W := wr) hinv hh
      have K2 := cell_on (W := wr) hinv hk
      have K3 := cell_on (W := wr) hinv hp
      go_simp
    · obtain rfl : b14 = false := by simpa using hlf
      simp [Region.binds] at haf
      subst haf
      refine wpOp_guard rfl rfl (yielded_of rfl rfl (by rw [RemC.size, hs0]; decide) (RemC.e10 hs0)) ?_
      simp only [List.getElem_toArray, List.getElem_cons_zero, List.getElem_cons_succ]
      refine op_val (v := (.int .i64 s)) ?_ (show RemC.J wr bl bh g h gs os n cs s nm lt sc kd pr z vT vB vD vI a0 _ _ _ from ⟨hB, b0, b1, b2, b3, b4, b5, b6, b7, b8, b9, true, b11, b12, b13, true, b15, b16, b17, b18, b19, b20, b21, b22, b23, b24, b25, b26, b27, b28, b29, b30, b31, b32, b33, rfl, RemC.p14 .., hinv⟩)
      simp only [execOp, RemC.f0, g0]
      have K0 := cell_on (W := wr) hinv hl
      have K1 := cell_on (W := wr) hinv hh
      have K2 := cell_on (W := wr) hinv hk
      have K3 := cell_on (W := wr) hinv hp
      go_simp
    · obtain rfl : b15 = false := by simpa using hlf
      simp [Region.binds] at haf
      obtain ⟨a0, a1, a2⟩ := haf
      subst a0 a1 a2
      refine wpOp_guard rfl rfl (yielded_of rfl rfl (by rw [RemC.size, hs0]; decide) (RemC.e10 hs0)) ?_
      simp only [List.getElem_toArray, List.getElem_cons_zero, List.getElem_cons_succ]
      refine op_val (v := (.pointer (some ⟨gs, os + s * 13, none⟩))) ?_ (show RemC.J wr bl bh g h gs os n cs s nm lt sc kd pr z vT vB vD vI a0 _ _ _ from ⟨hB, b0, b1, b2, b3, b4, b5, b6, b7, b8, b9, true, b11, b12, true, true, true, b16, b17, b18, b19, b20, b21, b22, b23, b24, b25, b26, b27, b28, b29, b30, b31, b32, b33, rfl, RemC.p15 .., hinv⟩)
      simp only [execOp, RemC.e13 hs0, RemC.e14 hs0]
      have K0 := cell_on (W := wr) hinv hl
      have K1 := cell_on (W := wr) hinv hh
      have K2 := cell_on (W := wr) hinv hk
      have K3 := cell_on (W := wr) hinv hp
      go_simp
    · obtain rfl : b16 = false := by simpa using hlf
      simp [Region.binds] at haf
      obtain ⟨a0, a1⟩ := haf
      subst a0 a1
      refine wpOp_guard rfl rfl (yielded_of rfl rfl (by rw [RemC.size, hs0]; decide) (RemC.e10 hs0)) ?_
      simp only [List.getElem_toArray, List.getElem_cons_zero, List.getElem_cons_succ]
      refine op_val (v := (.pointer (some ⟨gs, os + s * 13 + 1, none⟩))) ?_ (show RemC.J wr bl bh g h gs os n cs s nm lt sc kd pr z vT vB vD vI a0 _ _ _ from ⟨hB, b0, b1, b2, b3, b4, b5, b6, b7, b8, b9, true, b11, b12, b13, b14, true, true, b17, b18, b19, b20, b21, b22, b23, b24, b25, b26, b27, b28, b29, b30, b31, b32, b33, rfl, RemC.p16 .., hinv⟩)
      simp only [execOp, RemC.e15 hs0]
      have K0 := cell_on (W := wr) hinv hl
      have K1 := cell_on (W := wr) hinv hh
      have K2 := cell_on (W := wr) hinv hk
      have K3 := cell_on (W := wr) hinv hp
      go_simp
    · obtain rfl : b17 = false := by simpa using hlf
      simp [Region.binds] at haf
      obtain ⟨a0, a1⟩ := haf
      subst a0 a1
      refine wpOp_guard rfl rfl (yielded_of rfl rfl (by rw [RemC.size, hs0]; decide) (RemC.e10 hs0)) ?_
      simp only [List.getElem_toArray, List.getElem_cons_zero, List.getElem_cons_succ]
      refine op_val (v := (.int .i64 kd)) ?_ (show RemC.J wr bl bh g h gs os n cs s nm lt sc kd pr z vT vB vD vI a0 _ _ _ from ⟨hB, b0, b1, b2, b3, b4, b5, b6, b7, b8, b9, true, b11, b12, b13, b14, b15, true, true, b18, b19, b20, b21, b22, b23, b24, b25, b26, b27, b28, b29, b30, b31, b32, b33, rfl, RemC.p17 .., hinv⟩)
      simp only [execOp, RemC.e16 hs0]
      have K0 := cell_on (W := wr) hinv hl
      have K1 := cell_on (W := wr) hinv hh
      have K2 := cell_on (W := wr) hinv hk
      have K3 := cell_on (W := wr) hinv hp
      go_simp
    · obtain rfl : b18 = false := by simpa using hlf
      simp [Region.binds] at haf
      obtain ⟨a0, a1⟩ := haf
      subst a0 a1
      refine wpOp_guard rfl rfl (yielded_of rfl rfl (by rw [RemC.size, hs0]; decide) (RemC.e10 hs0)) ?_
      simp only [List.getElem_toArray, List.getElem_cons_zero, List.getElem_cons_succ]
      refine op_val (v := (.bool true)) ?_ (show RemC.J wr bl bh g h gs os n cs s nm lt sc kd pr z vT vB vD vI a0 _ _ _ from ⟨hB, b0, b1, b2, b3, b4, b5, b6, b7, b8, b9, true, b11, b12, b13, b14, b15, b16, true, true, b19, b20, b21, b22, b23, b24, b25, b26, b27, b28, b29, b30, b31, b32, b33, rfl, RemC.p18 .., hinv⟩)
      simp only [execOp, RemC.e17 hs0]
      have K0 := cell_on (W := wr) hinv hl
      have K1 := cell_on (W := wr) hinv hh
      have K2 := cell_on (W := wr) hinv hk
      have K3 := cell_on (W := wr) hinv hp
      go_simp
    · obtain rfl : b19 = false := by simpa using hlf
      refine wpOp_at rfl rfl ?_
      simp only [List.getElem_toArray, List.getElem_cons_zero, List.getElem_cons_succ]
      simp [Region.binds] at haf
      obtain ⟨a0, a1⟩ := haf
      subst a0 a1
      refine op_val (v := (.bool true)) ?_ (show RemC.J wr bl bh g h gs os n cs s nm lt sc kd pr z vT vB vD vI a0 _ _ _ from ⟨hB, b0, b1, b2, b3, b4, b5, b6, b7, b8, b9, true, b11, b12, b13, b14, b15, b16, b17, true, true, b20, b21, b22, b23, b24, b25, b26, b27, b28, b29, b30, b31, b32, b33, rfl, RemC.p19 .., hinv⟩)
      simp only [execOp, RemC.e10 hs0, RemC.e18 hs0]
      have K0 := cell_on (W := wr) hinv hl
      have K1 := cell_on (W := wr) hinv hh
      have K2 := cell_on (W := wr) hinv hk
      have K3 := cell_on (W := wr) hinv hp
      go_simp
    · obtain rfl : b20 = false := by simpa using hlf
      refine wpOp_at rfl rfl ?_
      simp only [List.getElem_toArray, List.getElem_cons_zero, List.getElem_cons_succ]
      simp [Region.binds] at haf
      obtain ⟨a0, a1⟩ := haf
      subst a0 a1
      refine op_val (v := (.bool true)) ?_ (show RemC.J wr bl bh g h gs os n cs s nm lt sc kd pr z vT vB vD vI a0 _ _ _ from ⟨hB, b0, b1, b2, b3, b4, b5, b6, b7, b8, b9, b10, b11, true, b13, b14, b15, b16, b17, b18, true, true, b21, b22, b23, b24, b25, b26, b27, b28, b29, b30, b31, b32, b33, rfl, RemC.p20 .., hinv⟩)
      simp only [execOp, RemC.e19 hs0]
      have K0 := cell_on (W := wr) hinv hl
      have K1 := cell_on (W := wr) hinv hh
      have K2 := cell_on (W := wr) hinv hk
      have K3 := cell_on (W := wr) hinv hp
      go_simp
    · obtain rfl : b21 = false := by simpa using hlf
      simp [Region.binds] at haf
      subst haf
      refine wpOp_skip rfl rfl (yielded_of rfl rfl (by rw [RemC.size, hs0]; decide) (RemC.e20 hs0)) (by decide) ?_
      exact (show RemC.J wr bl bh g h gs os n cs s nm lt sc kd pr z vT vB vD vI a0 _ _ _ from ⟨hB, b0, b1, b2, b3, b4, b5, b6, b7, b8, b9, b10, b11, b12, b13, b14, b15, b16, b17, b18, b19, true, true, b22, b23, b24, b25, b26, b27, b28, b29, b30, b31, b32, b33, rfl, RemC.p21 .., hinv⟩)
    · obtain rfl : b22 = false := by simpa using hlf
      simp [Region.binds] at haf
      subst haf
      refine wpOp_skip rfl rfl (yielded_of rfl rfl (by rw [RemC.size, hs0]; decide) (RemC.e20 hs0)) (by decide) ?_
      exact (show RemC.J wr bl bh g h gs os n cs s nm lt sc kd pr z vT vB vD vI a0 _ _ _ from ⟨hB, b0, b1, b2, b3, b4, b5, b6, b7, b8, b9, b10, b11, b12, b13, b14, b15, b16, b17, b18, b19, true, b21, true, b23, b24, b25, b26, b27, b28, b29, b30, b31, b32, b33, rfl, RemC.p22 .., hinv⟩)
    · obtain rfl : b23 = false := by simpa using hlf
      simp [Region.binds] at haf
      subst haf
      refine wpOp_skip rfl rfl (yielded_of rfl rfl (by rw [RemC.size, hs0]; decide) (RemC.e20 hs0)) (by decide) ?_
      exact (show RemC.J wr bl bh g h gs os n cs s nm lt sc kd pr z vT vB vD vI a0 _ _ _ from ⟨hB, b0, b1, b2, b3, b4, b5, b6, b7, b8, b9, b10, b11, b12, b13, b14, b15, b16, b17, b18, b19, true, b21, b22, true, b24, b25, b26, b27, b28, b29, b30, b31, b32, b33, rfl, RemC.p23 .., hinv⟩)
    · obtain rfl : b24 = false := by simpa using hlf
      simp [Region.binds] at haf
      obtain ⟨a0, a1⟩ := haf
      subst a0 a1
      refine wpOp_skip rfl rfl (yielded_of rfl rfl (by rw [RemC.size, hs0]; decide) (RemC.e20 hs0)) (by decide) ?_
      exact (show RemC.J wr bl bh g h gs os n cs s nm lt sc kd pr z vT vB vD vI a0 _ _ _ from ⟨hB, b0, b1, b2, b3, b4, b5, b6, b7, b8, b9, b10, b11, b12, b13, b14, b15, b16, b17, b18, b19, true, b21, b22, true, true, b25, b26, b27, b28, b29, b30, b31, b32, b33, rfl, RemC.p24 .., hinv⟩)
    · obtain rfl : b25 = false := by simpa using hlf
      simp [Region.binds] at haf
      obtain ⟨a0, a1⟩ := haf
      subst a0 a1
      refine wpOp_skip rfl rfl (yielded_of rfl rfl (by rw [RemC.size, hs0]; decide) (RemC.e20 hs0)) (by decide) ?_
      exact (show RemC.J wr bl bh g h gs os n cs s nm lt sc kd pr z vT vB vD vI a0 _ _ _ from ⟨hB, b0, b1, b2, b3, b4, b5, b6, b7, b8, b9, b10, b11, b12, b13, b14, b15, b16, b17, b18, b19, true, b21, b22, b23, true, true, b26, b27, b28, b29, b30, b31, b32, b33, rfl, RemC.p25 .., hinv⟩)
    · obtain rfl : b26 = false := by simpa using hlf
      simp [Region.binds] at haf
      subst haf
      refine wpOp_skip rfl rfl (yielded_of rfl rfl (by rw [RemC.size, hs0]; decide) (RemC.e20 hs0)) (by decide) ?_
      exact (show RemC.J wr bl bh g h gs os n cs s nm lt sc kd pr z vT vB vD vI a0 _ _ _ from ⟨hB, b0, b1, b2, b3, b4, b5, b6, b7, b8, b9, b10, b11, b12, b13, b14, b15, b16, b17, b18, b19, true, b21, b22, b23, b24, b25, true, b27, b28, b29, b30, b31, b32, b33, rfl, RemC.p26 .., hinv⟩)
    · obtain rfl : b27 = false := by simpa using hlf
      simp [Region.binds] at haf
      obtain ⟨a0, a1, a2⟩ := haf
      subst a0 a1 a2
      refine wpOp_skip rfl rfl (yielded_of rfl rfl (by rw [RemC.size, hs0]; decide) (RemC.e20 hs0)) (by decide) ?_
      exact (show RemC.J wr bl bh g h gs os n cs s nm lt sc kd pr z vT vB vD vI a0 _ _ _ from ⟨hB, b0, b1, b2, b3, b4, b5, b6, b7, b8, b9, b10, b11, b12, b13, b14, b15, b16, b17, b18, b19, true, b21, b22, b23, b24, true, true, true, b28, b29, b30, b31, b32, b33, rfl, RemC.p27 .., hinv⟩)
    · obtain rfl : b28 = false := by simpa using hlf
      simp [Region.binds] at haf
      obtain ⟨a0, a1⟩ := haf
      subst a0 a1
      refine wpOp_skip rfl rfl (yielded_of rfl rfl (by rw [RemC.size, hs0]; decide) (RemC.e20 hs0)) (by decide) ?_
      exact (show RemC.J wr bl bh g h gs os n cs s nm lt sc kd pr z vT vB vD vI a0 _ _ _ from ⟨hB, b0, b1, b2, b3, b4, b5, b6, b7, b8, b9, b10, b11, b12, b13, b14, b15, b16, b17, b18, b19, true, b21, b22, b23, b24, b25, b26, true, true, b29, b30, b31, b32, b33, rfl, RemC.p28 .., hinv⟩)
    · obtain rfl : b29 = false := by simpa using hlf
      simp [Region.binds] at haf
      obtain ⟨a0, a1⟩ := haf
      subst a0 a1
      refine wpOp_skip rfl rfl (yielded_of rfl rfl (by rw [RemC.size, hs0]; decide) (RemC.e20 hs0)) (by decide) ?_
      exact (show RemC.J wr bl bh g h gs os n cs s nm lt sc kd pr z vT vB vD vI a0 _ _ _ from ⟨hB, b0, b1, b2, b3, b4, b5, b6, b7, b8, b9, b10, b11, b12, b13, b14, b15, b16, b17, b18, b19, true, b21, b22, b23, b24, b25, b26, b27, true, true, b30, b31, b32, b33, rfl, RemC.p29 .., hinv⟩)
    · obtain rfl : b30 = false := by simpa using hlf
      simp [Region.binds] at haf
      obtain ⟨a0, a1, a2, a3, a4⟩ := haf
      subst a0 a1 a2 a3 a4
      refine wpOp_skip rfl rfl (yielded_of rfl rfl (by rw [RemC.size, hs0]; decide) (RemC.e20 hs0)) (by decide) ?_
      exact (show RemC.J wr bl bh g h gs os n cs s nm lt sc kd pr z vT vB vD vI a0 _ _ _ from ⟨hB, b0, b1, b2, b3, b4, b5, b6, b7, b8, b9, b10, b11, b12, b13, b14, b15, b16, b17, b18, b19, true, true, true, b23, true, b25, b26, b27, b28, true, true, b31, b32, b33, rfl, RemC.p30 .., hinv⟩)
    · obtain rfl : b31 = false := by simpa using hlf
      simp [Region.binds] at haf
      obtain ⟨a0, a1⟩ := haf
      subst a0 a1
      refine wpOp_skip rfl rfl (yielded_of rfl rfl (by rw [RemC.size, hs0]; decide) (RemC.e20 hs0)) (by decide) ?_
      exact (show RemC.J wr bl bh g h gs os n cs s nm lt sc kd pr z vT vB vD vI a0 _ _ _ from ⟨hB, b0, b1, b2, b3, b4, b5, b6, b7, b8, b9, b10, b11, b12, b13, b14, b15, b16, b17, b18, b19, true, b21, b22, b23, b24, b25, b26, b27, b28, b29, true, true, b32, b33, rfl, RemC.p31 .., hinv⟩)
    · obtain rfl : b32 = false := by simpa using hlf
      refine wpOp_at rfl rfl ?_
      simp only [List.getElem_toArray, List.getElem_cons_zero, List.getElem_cons_succ]
      simp [Region.binds] at haf
      obtain ⟨a0, a1⟩ := haf
      subst a0 a1
      refine op_val (v := (.bool true)) ?_ (show RemC.J wr bl bh g h gs os n cs s nm lt sc kd pr z vT vB vD vI a0 _ _ _ from ⟨hB, b0, b1, b2, b3, b4, b5, b6, b7, b8, b9, b10, b11, b12, b13, b14, b15, b16, b17, b18, b19, true, b21, b22, b23, b24, b25, b26, b27, b28, b29, b30, true, true, b33, rfl, RemC.p32 .., hinv⟩)
      simp only [execOp, RemC.e20 hs0, RemC.e31 hs0]
      have K0 := cell_on (W := wr) hinv hl
      have K1 := cell_on (W := wr) hinv hh
      have K2 := cell_on (W := wr) hinv hk
      have K3 := cell_on (W := wr) hinv hp
      go_simp
    · obtain rfl : b33 = false := by simpa using hlf
      refine wpOp_at rfl rfl ?_
      simp only [List.getElem_toArray, List.getElem_cons_zero, List.getElem_cons_succ]
      simp [Region.binds] at haf
      obtain ⟨a0, a1, a2, a3, a4, a5, a6, a7, a8, a9, a10, a11, a12, a13, a14, a15, a16, a17, a18, a19, a20, a21, a22, a23, a24, a25, a26, a27, a28, a29, a30, a31, a32, a33, a34⟩ := haf
      subst a0 a1 a2 a3 a4 a5 a6 a7 a8 a9 a10 a11 a12 a13 a14 a15 a16 a17 a18 a19 a20 a21 a22 a23 a24 a25 a26 a27 a28 a29 a30 a31 a33
      refine op_val (v := (.bool true)) ?_ (show RemC.J wr bl bh g h gs os n cs s nm lt sc kd pr z vT vB vD vI a0 _ _ _ from ⟨hB, true, true, true, true, true, true, true, true, true, true, true, true, true, true, true, true, true, true, true, true, true, true, true, true, true, true, true, true, true, true, true, true, true, true, rfl, RemC.p33 .., hinv⟩)
      simp only [execOp, RemC.e32 hs0]
      have K0 := cell_on (W := wr) hinv hl
      have K1 := cell_on (W := wr) hinv hh
      have K2 := cell_on (W := wr) hinv hk
      have K3 := cell_on (W := wr) hinv hp
      go_simp
/-- The frame inside the region: what has come up lies in its slots. -/
def RemD.A (wr : World) (bl bh g h gs os n cs s : Nat) (nm : ByteArray) (lt : Bool) (sc kd pr : Int) (z : Bool) (vT vB vD vI : Value)  (b0 b1 b2 b3 b4 b5 b6 b7 b8 b9 b10 b11 b12 b13 b14 b15 b16 b17 b18 b19 b20 b21 b22 b23 b24 b25 b26 b27 b28 b29 b30 b31 b32 b33 : Bool) (a0 : Act) : Act := putIf b0 5 (.int .i64 s) (putIf b1 6 (.bool false) (putIf b2 7 (.bool false) (putIf b3 8 (.int .i64 s) (putIf b4 9 (.pointer (some ⟨g, 0, none⟩)) (putIf b5 10 (.agg #[.string nm, .bool lt, .int .i64 sc, .slice (some ⟨gs, os, none⟩) n cs, vT, vB, vD, vI]) (putIf b6 11 (.slice (some ⟨gs, os, none⟩) n cs) (putIf b7 12 (.int .i64 n) (putIf b8 13 (.bool false) (putIf b9 14 (.bool false) (putIf b10 15 (.bool false) (putIf b11 16 (.pointer (some ⟨g, 0, none⟩)) (putIf b12 17 (.agg #[.string nm, .bool lt, .int .i64 sc, .slice (some ⟨gs, os, none⟩) n cs, vT, vB, vD, vI]) (putIf b13 18 (.slice (some ⟨gs, os, none⟩) n cs) (putIf b14 19 (.int .i64 s) (putIf b15 20 (.pointer (some ⟨gs, os + s * 13, none⟩)) (putIf b16 21 (.pointer (some ⟨gs, os + s * 13 + 1, none⟩)) (putIf b17 22 (.int .i64 kd) (putIf b18 23 (.bool false) (putIf b19 24 (.bool false) (putIf b20 25 (.bool false) (putIf b21 26 (.pointer (some ⟨g, 0, none⟩)) (putIf b22 27 (.int .i64 s) (putIf b23 28 (.pointer (some ⟨g, 0, none⟩)) (putIf b24 29 (.agg #[.string nm, .bool lt, .int .i64 sc, .slice (some ⟨gs, os, none⟩) n cs, vT, vB, vD, vI]) (putIf b25 30 (.slice (some ⟨gs, os, none⟩) n cs) (putIf b26 31 (.int .i64 h) (putIf b27 32 (.pointer (some ⟨gs, os + h * 13, none⟩)) (putIf b28 33 (.pointer (some ⟨gs, os + h * 13 + 2, none⟩)) (putIf b29 34 (.int .i64 pr) (putIf b30 35 (.bool z) (putIf b31 36 (.bool !z) (putIf b32 37 (.bool !z) (putIf b33 4 (.bool !z) (a0))))))))))))))))))))))))))))))))))
theorem RemD.p0 (wr : World) (bl bh g h gs os n cs s : Nat) (nm : ByteArray) (lt : Bool) (sc kd pr : Int) (z : Bool) (vT vB vD vI : Value)   (b1 b2 b3 b4 b5 b6 b7 b8 b9 b10 b11 b12 b13 b14 b15 b16 b17 b18 b19 b20 b21 b22 b23 b24 b25 b26 b27 b28 b29 b30 b31 b32 b33 : Bool) (a0 : Act) :
    (RemD.A wr bl bh g h gs os n cs s nm lt sc kd pr z vT vB vD vI  false b1 b2 b3 b4 b5 b6 b7 b8 b9 b10 b11 b12 b13 b14 b15 b16 b17 b18 b19 b20 b21 b22 b23 b24 b25 b26 b27 b28 b29 b30 b31 b32 b33 a0).put (some 5) (.int .i64 s) = RemD.A wr bl bh g h gs os n cs s nm lt sc kd pr z vT vB vD vI  true b1 b2 b3 b4 b5 b6 b7 b8 b9 b10 b11 b12 b13 b14 b15 b16 b17 b18 b19 b20 b21 b22 b23 b24 b25 b26 b27 b28 b29 b30 b31 b32 b33 a0 := by
  simp only [RemD.A, putIf_put, ne_eq, Nat.reduceEqDiff, not_false_eq_true]
  rfl
theorem RemD.e0 {wr : World} {bl bh g h gs os n cs s : Nat} {nm : ByteArray} {lt : Bool} {sc kd pr : Int} {z : Bool} {vT vB vD vI : Value}  {b1 b2 b3 b4 b5 b6 b7 b8 b9 b10 b11 b12 b13 b14 b15 b16 b17 b18 b19 b20 b21 b22 b23 b24 b25 b26 b27 b28 b29 b30 b31 b32 b33 : Bool} {a0 : Act} (hs : a0.tmps.size = 38) : (RemD.A wr bl bh g h gs os n cs s nm lt sc kd pr z vT vB vD vI  true b1 b2 b3 b4 b5 b6 b7 b8 b9 b10 b11 b12 b13 b14 b15 b16 b17 b18 b19 b20 b21 b22 b23 b24 b25 b26 b27 b28 b29 b30 b31 b32 b33 a0).eval (.tmp 5) = (.int .i64 s) := by
  simp [RemD.A, eval_putIf, eval_put, size_putIf, hs]
theorem RemD.p1 (wr : World) (bl bh g h gs os n cs s : Nat) (nm : ByteArray) (lt : Bool) (sc kd pr : Int) (z : Bool) (vT vB vD vI : Value)   (b0 b2 b3 b4 b5 b6 b7 b8 b9 b10 b11 b12 b13 b14 b15 b16 b17 b18 b19 b20 b21 b22 b23 b24 b25 b26 b27 b28 b29 b30 b31 b32 b33 : Bool) (a0 : Act) :
    (RemD.A wr bl bh g h gs os n cs s nm lt sc kd pr z vT vB vD vI  b0 false b2 b3 b4 b5 b6 b7 b8 b9 b10 b11 b12 b13 b14 b15 b16 b17 b18 b19 b20 b21 b22 b23 b24 b25 b26 b27 b28 b29 b30 b31 b32 b33 a0).put (some 6) (.bool false) = RemD.A wr bl bh g h gs os n cs s nm lt sc kd pr z vT vB vD vI  b0 true b2 b3 b4 b5 b6 b7 b8 b9 b10 b11 b12 b13 b14 b15 b16 b17 b18 b19 b20 b21 b22 b23 b24 b25 b26 b27 b28 b29 b30 b31 b32 b33 a0 := by
  simp only [RemD.A, putIf_put, ne_eq, Nat.reduceEqDiff, not_false_eq_true]
  rfl
theorem RemD.e1 {wr : World} {bl bh g h gs os n cs s : Nat} {nm : ByteArray} {lt : Bool} {sc kd pr : Int} {z : Bool} {vT vB vD vI : Value}  {b0 b2 b3 b4 b5 b6 b7 b8 b9 b10 b11 b12 b13 b14 b15 b16 b17 b18 b19 b20 b21 b22 b23 b24 b25 b26 b27 b28 b29 b30 b31 b32 b33 : Bool} {a0 : Act} (hs : a0.tmps.size = 38) : (RemD.A wr bl bh g h gs os n cs s nm lt sc kd pr z vT vB vD vI  b0 true b2 b3 b4 b5 b6 b7 b8 b9 b10 b11 b12 b13 b14 b15 b16 b17 b18 b19 b20 b21 b22 b23 b24 b25 b26 b27 b28 b29 b30 b31 b32 b33 a0).eval (.tmp 6) = (.bool false) := by
  simp [RemD.A, eval_putIf, eval_put, size_putIf, hs]
theorem RemD.p2 (wr : World) (bl bh g h gs os n cs s : Nat) (nm : ByteArray) (lt : Bool) (sc kd pr : Int) (z : Bool) (vT vB vD vI : Value)   (b0 b1 b3 b4 b5 b6 b7 b8 b9 b10 b11 b12 b13 b14 b15 b16 b17 b18 b19 b20 b21 b22 b23 b24 b25 b26 b27 b28 b29 b30 b31 b32 b33 : Bool) (a0 : Act) :
    (RemD.A wr bl bh g h gs os n cs s nm lt sc kd pr z vT vB vD vI  b0 b1 false b3 b4 b5 b6 b7 b8 b9 b10 b11 b12 b13 b14 b15 b16 b17 b18 b19 b20 b21 b22 b23 b24 b25 b26 b27 b28 b29 b30 b31 b32 b33 a0).put (some 7) (.bool false) = RemD.A wr bl bh g h gs os n cs s nm lt sc kd pr z vT vB vD vI  b0 b1 true b3 b4 b5 b6 b7 b8 b9 b10 b11 b12 b13 b14 b15 b16 b17 b18 b19 b20 b21 b22 b23 b24 b25 b26 b27 b28 b29 b30 b31 b32 b33 a0 := by
  simp only [RemD.A, putIf_put, ne_eq, Nat.reduceEqDiff, not_false_eq_true]
  rfl
theorem RemD.e2 {wr : World} {bl bh g h gs os n cs s : Nat} {nm : ByteArray} {lt : Bool} {sc kd pr : Int} {z : Bool} {vT vB vD vI : Value}  {b0 b1 b3 b4 b5 b6 b7 b8 b9 b10 b11 b12 b13 b14 b15 b16 b17 b18 b19 b20 b21 b22 b23 b24 b25 b26 b27 b28 b29 b30 b31 b32 b33 : Bool} {a0 : Act} (hs : a0.tmps.size = 38) : (RemD.A wr bl bh g h gs os n cs s nm lt sc kd pr z vT vB vD vI  b0 b1 true b3 b4 b5 b6 b7 b8 b9 b10 b11 b12 b13 b14 b15 b16 b17 b18 b19 b20 b21 b22 b23 b24 b25 b26 b27 b28 b29 b30 b31 b32 b33 a0).eval (.tmp 7) = (.bool false) := by
  simp [RemD.A, eval_putIf, eval_put, size_putIf, hs]
theorem RemD.p3 (wr : World) (bl bh g h gs os n cs s : Nat) (nm : ByteArray) (lt : Bool) (sc kd pr : Int) (z : Bool) (vT vB vD vI : Value)   (b0 b1 b2 b4 b5 b6 b7 b8 b9 b10 b11 b12 b13 b14 b15 b16 b17 b18 b19 b20 b21 b22 b23 b24 b25 b26 b27 b28 b29 b30 b31 b32 b33 : Bool) (a0 : Act) :
    (RemD.A wr bl bh g h gs os n cs s nm lt sc kd pr z vT vB vD vI  b0 b1 b2 false b4 b5 b6 b7 b8 b9 b10 b11 b12 b13 b14 b15 b16 b17 b18 b19 b20 b21 b22 b23 b24 b25 b26 b27 b28 b29 b30 b31 b32 b33 a0).put (some 8) (.int .i64 s) = RemD.A wr bl bh g h gs os n cs s nm lt sc kd pr z vT vB vD vI  b0 b1 b2 true b4 b5 b6 b7 b8 b9 b10 b11 b12 b13 b14 b15 b16 b17 b18 b19 b20 b21 b22 b23 b24 b25 b26 b27 b28 b29 b30 b31 b32 b33 a0 := by
  simp only [RemD.A, putIf_put, ne_eq, Nat.reduceEqDiff, not_false_eq_true]
  rfl
theorem RemD.e3 {wr : World} {bl bh g h gs os n cs s : Nat} {nm : ByteArray} {lt : Bool} {sc kd pr : Int} {z : Bool} {vT vB vD vI : Value}  {b0 b1 b2 b4 b5 b6 b7 b8 b9 b10 b11 b12 b13 b14 b15 b16 b17 b18 b19 b20 b21 b22 b23 b24 b25 b26 b27 b28 b29 b30 b31 b32 b33 : Bool} {a0 : Act} (hs : a0.tmps.size = 38) : (RemD.A wr bl bh g h gs os n cs s nm lt sc kd pr z vT vB vD vI  b0 b1 b2 true b4 b5 b6 b7 b8 b9 b10 b11 b12 b13 b14 b15 b16 b17 b18 b19 b20 b21 b22 b23 b24 b25 b26 b27 b28 b29 b30 b31 b32 b33 a0).eval (.tmp 8) = (.int .i64 s) := by
  simp [RemD.A, eval_putIf, eval_put, size_putIf, hs]
theorem RemD.p4 (wr : World) (bl bh g h gs os n cs s : Nat) (nm : ByteArray) (lt : Bool) (sc kd pr : Int) (z : Bool) (vT vB vD vI : Value)   (b0 b1 b2 b3 b5 b6 b7 b8 b9 b10 b11 b12 b13 b14 b15 b16 b17 b18 b19 b20 b21 b22 b23 b24 b25 b26 b27 b28 b29 b30 b31 b32 b33 : Bool) (a0 : Act) :
    (RemD.A wr bl bh g h gs os n cs s nm lt sc kd pr z vT vB vD vI  b0 b1 b2 b3 false b5 b6 b7 b8 b9 b10 b11 b12 b13 b14 b15 b16 b17 b18 b19 b20 b21 b22 b23 b24 b25 b26 b27 b28 b29 b30 b31 b32 b33 a0).put (some 9) (.pointer (some ⟨g, 0, none⟩)) = RemD.A wr bl bh g h gs os n cs s nm lt sc kd pr z vT vB vD vI  b0 b1 b2 b3 true b5 b6 b7 b8 b9 b10 b11 b12 b13 b14 b15 b16 b17 b18 b19 b20 b21 b22 b23 b24 b25 b26 b27 b28 b29 b30 b31 b32 b33 a0 := by
  simp only [RemD.A, putIf_put, ne_eq, Nat.reduceEqDiff, not_false_eq_true]
  rfl
theorem RemD.e4 {wr : World} {bl bh g h gs os n cs s : Nat} {nm : ByteArray} {lt : Bool} {sc kd pr : Int} {z : Bool} {vT vB vD vI : Value}  {b0 b1 b2 b3 b5 b6 b7 b8 b9 b10 b11 b12 b13 b14 b15 b16 b17 b18 b19 b20 b21 b22 b23 b24 b25 b26 b27 b28 b29 b30 b31 b32 b33 : Bool} {a0 : Act} (hs : a0.tmps.size = 38) : (RemD.A wr bl bh g h gs os n cs s nm lt sc kd pr z vT vB vD vI  b0 b1 b2 b3 true b5 b6 b7 b8 b9 b10 b11 b12 b13 b14 b15 b16 b17 b18 b19 b20 b21 b22 b23 b24 b25 b26 b27 b28 b29 b30 b31 b32 b33 a0).eval (.tmp 9) = (.pointer (some ⟨g, 0, none⟩)) := by
  simp [RemD.A, eval_putIf, eval_put, size_putIf, hs]
theorem RemD.p5 (wr : World) (bl bh g h gs os n cs s : Nat) (nm : ByteArray) (lt : Bool) (sc kd pr : Int) (z : Bool) (vT vB vD vI : Value)   (b0 b1 b2 b3 b4 b6 b7 b8 b9 b10 b11 b12 b13 b14 b15 b16 b17 b18 b19 b20 b21 b22 b23 b24 b25 b26 b27 b28 b29 b30 b31 b32 b33 : Bool) (a0 : Act) :
    (RemD.A wr bl bh g h gs os n cs s nm lt sc kd pr z vT vB vD vI  b0 b1 b2 b3 b4 false b6 b7 b8 b9 b10 b11 b12 b13 b14 b15 b16 b17 b18 b19 b20 b21 b22 b23 b24 b25 b26 b27 b28 b29 b30 b31 b32 b33 a0).put (some 10) (.agg #[.string nm, .bool lt, .int .i64 sc, .slice (some ⟨gs, os, none⟩) n cs, vT, vB, vD, vI]) = RemD.A wr bl bh g h gs os n cs s nm lt sc kd pr z vT vB vD vI  b0 b1 b2 b3 b4 true b6 b7 b8 b9 b10 b11 b12 b13 b14 b15 b16 b17 b18 b19 b20 b21 b22 b23 b24 b25 b26 b27 b28 b29 b30 b31 b32 b33 a0 := by
  simp only [RemD.A, putIf_put, ne_eq, Nat.reduceEqDiff, not_false_eq_true]
  rfl
theorem RemD.e5 {wr : World} {bl bh g h gs os n cs s : Nat} {nm : ByteArray} {lt : Bool} {sc kd pr : Int} {z : Bool} {vT vB vD vI : Value}  {b0 b1 b2 b3 b4 b6 b7 b8 b9 b10 b11 b12 b13 b14 b15 b16 b17 b18 b19 b20 b21 b22 b23 b24 b25 b26 b27 b28 b29 b30 b31 b32 b33 : Bool} {a0 : Act} (hs : a0.tmps.size = 38) : (RemD.A wr bl bh g h gs os n cs s nm lt sc kd pr z vT vB vD vI  b0 b1 b2 b3 b4 true b6 b7 b8 b9 b10 b11 b12 b13 b14 b15 b16 b17 b18 b19 b20 b21 b22 b23 b24 b25 b26 b27 b28 b29 b30 b31 b32 b33 a0).eval (.tmp 10) = (.agg #[.string nm, .bool lt, .int .i64 sc, .slice (some ⟨gs, os, none⟩) n cs, vT, vB, vD, vI]) := by
  simp [RemD.A, eval_putIf, eval_put, size_putIf, hs]
theorem RemD.p6 (wr : World) (bl bh g h gs os n cs s : Nat) (nm : ByteArray) (lt : Bool) (sc kd pr : Int) (z : Bool) (vT vB vD vI : Value)   (b0 b1 b2 b3 b4 b5 b7 b8 b9 b10 b11 b12 b13 b14 b15 b16 b17 b18 b19 b20 b21 b22 b23 b24 b25 b26 b27 b28 b29 b30 b31 b32 b33 : Bool) (a0 : Act) :
    (RemD.A wr bl bh g h gs os n cs s nm lt sc kd pr z vT vB vD vI  b0 b1 b2 b3 b4 b5 false b7 b8 b9 b10 b11 b12 b13 b14 b15 b16 b17 b18 b19 b20 b21 b22 b23 b24 b25 b26 b27 b28 b29 b30 b31 b32 b33 a0).put (some 11) (.slice (some ⟨gs, os, none⟩) n cs) = RemD.A wr bl bh g h gs os n cs s nm lt sc kd pr z vT vB vD vI  b0 b1 b2 b3 b4 b5 true b7 b8 b9 b10 b11 b12 b13 b14 b15 b16 b17 b18 b19 b20 b21 b22 b23 b24 b25 b26 b27 b28 b29 b30 b31 b32 b33 a0 := by
  simp only [RemD.A, putIf_put, ne_eq, Nat.reduceEqDiff, not_false_eq_true]
  rfl
theorem RemD.e6 {wr : World} {bl bh g h gs os n cs s : Nat} {nm : ByteArray} {lt : Bool} {sc kd pr : Int} {z : Bool} {vT vB vD vI : Value}  {b0 b1 b2 b3 b4 b5 b7 b8 b9 b10 b11 b12 b13 b14 b15 b16 b17 b18 b19 b20 b21 b22 b23 b24 b25 b26 b27 b28 b29 b30 b31 b32 b33 : Bool} {a0 : Act} (hs : a0.tmps.size = 38) : (RemD.A wr bl bh g h gs os n cs s nm lt sc kd pr z vT vB vD vI  b0 b1 b2 b3 b4 b5 true b7 b8 b9 b10 b11 b12 b13 b14 b15 b16 b17 b18 b19 b20 b21 b22 b23 b24 b25 b26 b27 b28 b29 b30 b31 b32 b33 a0).eval (.tmp 11) = (.slice (some ⟨gs, os, none⟩) n cs) := by
  simp [RemD.A, eval_putIf, eval_put, size_putIf, hs]
theorem RemD.p7 (wr : World) (bl bh g h gs os n cs s : Nat) (nm : ByteArray) (lt : Bool) (sc kd pr : Int) (z : Bool) (vT vB vD vI : Value)   (b0 b1 b2 b3 b4 b5 b6 b8 b9 b10 b11 b12 b13 b14 b15 b16 b17 b18 b19 b20 b21 b22 b23 b24 b25 b26 b27 b28 b29 b30 b31 b32 b33 : Bool) (a0 : Act) :
    (RemD.A wr bl bh g h gs os n cs s nm lt sc kd pr z vT vB vD vI  b0 b1 b2 b3 b4 b5 b6 false b8 b9 b10 b11 b12 b13 b14 b15 b16 b17 b18 b19 b20 b21 b22 b23 b24 b25 b26 b27 b28 b29 b30 b31 b32 b33 a0).put (some 12) (.int .i64 n) = RemD.A wr bl bh g h gs os n cs s nm lt sc kd pr z vT vB vD vI  b0 b1 b2 b3 b4 b5 b6 true b8 b9 b10 b11 b12 b13 b14 b15 b16 b17 b18 b19 b20 b21 b22 b23 b24 b25 b26 b27 b28 b29 b30 b31 b32 b33 a0 := by
  simp only [RemD.A, putIf_put, ne_eq, Nat.reduceEqDiff, not_false_eq_true]
  rfl
theorem RemD.e7 {wr : World} {bl bh g h gs os n cs s : Nat} {nm : ByteArray} {lt : Bool} {sc kd pr : Int} {z : Bool} {vT vB vD vI : Value}  {b0 b1 b2 b3 b4 b5 b6 b8 b9 b10 b11 b12 b13 b14 b15 b16 b17 b18 b19 b20 b21 b22 b23 b24 b25 b26 b27 b28 b29 b30 b31 b32 b33 : Bool} {a0 : Act} (hs : a0.tmps.size = 38) : (RemD.A wr bl bh g h gs os n cs s nm lt sc kd pr z vT vB vD vI  b0 b1 b2 b3 b4 b5 b6 true b8 b9 b10 b11 b12 b13 b14 b15 b16 b17 b18 b19 b20 b21 b22 b23 b24 b25 b26 b27 b28 b29 b30 b31 b32 b33 a0).eval (.tmp 12) = (.int .i64 n) := by
  simp [RemD.A, eval_putIf, eval_put, size_putIf, hs]
theorem RemD.p8 (wr : World) (bl bh g h gs os n cs s : Nat) (nm : ByteArray) (lt : Bool) (sc kd pr : Int) (z : Bool) (vT vB vD vI : Value)   (b0 b1 b2 b3 b4 b5 b6 b7 b9 b10 b11 b12 b13 b14 b15 b16 b17 b18 b19 b20 b21 b22 b23 b24 b25 b26 b27 b28 b29 b30 b31 b32 b33 : Bool) (a0 : Act) :
    (RemD.A wr bl bh g h gs os n cs s nm lt sc kd pr z vT vB vD vI  b0 b1 b2 b3 b4 b5 b6 b7 false b9 b10 b11 b12 b13 b14 b15 b16 b17 b18 b19 b20 b21 b22 b23 b24 b25 b26 b27 b28 b29 b30 b31 b32 b33 a0).put (some 13) (.bool false) = RemD.A wr bl bh g h gs os n cs s nm lt sc kd pr z vT vB vD vI  b0 b1 b2 b3 b4 b5 b6 b7 true b9 b10 b11 b12 b13 b14 b15 b16 b17 b18 b19 b20 b21 b22 b23 b24 b25 b26 b27 b28 b29 b30 b31 b32 b33 a0 := by
  simp only [RemD.A, putIf_put, ne_eq, Nat.reduceEqDiff, not_false_eq_true]
  rfl
theorem RemD.e8 {wr : World} {bl bh g h gs os n cs s : Nat} {nm : ByteArray} {lt : Bool} {sc kd pr : Int} {z : Bool} {vT vB vD vI : Value}  {b0 b1 b2 b3 b4 b5 b6 b7 b9 b10 b11 b12 b13 b14 b15 b16 b17 b18 b19 b20 b21 b22 b23 b24 b25 b26 b27 b28 b29 b30 b31 b32 b33 : Bool} {a0 : Act} (hs : a0.tmps.size = 38) : (RemD.A wr bl bh g h gs os n cs s nm lt sc kd pr z vT vB vD vI  b0 b1 b2 b3 b4 b5 b6 b7 true b9 b10 b11 b12 b13 b14 b15 b16 b17 b18 b19 b20 b21 b22 b23 b24 b25 b26 b27 b28 b29 b30 b31 b32 b33 a0).eval (.tmp 13) = (.bool false) := by
  simp [RemD.A, eval_putIf, eval_put, size_putIf, hs]
theorem RemD.p9 (wr : World) (bl bh g h gs os n cs s : Nat) (nm : ByteArray) (lt : Bool) (sc kd pr : Int) (z : Bool) (vT vB vD vI : Value)   (b0 b1 b2 b3 b4 b5 b6 b7 b8 b10 b11 b12 b13 b14 b15 b16 b17 b18 b19 b20 b21 b22 b23 b24 b25 b26 b27 b28 b29 b30 b31 b32 b33 : Bool) (a0 : Act) :
    (RemD.A wr bl bh g h gs os n cs s nm lt sc kd pr z vT vB vD vI  b0 b1 b2 b3 b4 b5 b6 b7 b8 false b10 b11 b12 b13 b14 b15 b16 b17 b18 b19 b20 b21 b22 b23 b24 b25 b26 b27 b28 b29 b30 b31 b32 b33 a0).put (some 14) (.bool false) = RemD.A wr bl bh g h gs os n cs s nm lt sc kd pr z vT vB vD vI  b0 b1 b2 b3 b4 b5 b6 b7 b8 true b10 b11 b12 b13 b14 b15 b16 b17 b18 b19 b20 b21 b22 b23 b24 b25 b26 b27 b28 b29 b30 b31 b32 b33 a0 := by
  simp only [RemD.A, putIf_put, ne_eq, Nat.reduceEqDiff, not_false_eq_true]
  rfl
theorem RemD.e9 {wr : World} {bl bh g h gs os n cs s : Nat} {nm : ByteArray} {lt : Bool} {sc kd pr : Int} {z : Bool} {vT vB vD vI : Value}  {b0 b1 b2 b3 b4 b5 b6 b7 b8 b10 b11 b12 b13 b14 b15 b16 b17 b18 b19 b20 b21 b22 b23 b24 b25 b26 b27 b28 b29 b30 b31 b32 b33 : Bool} {a0 : Act} (hs : a0.tmps.size = 38) : (RemD.A wr bl bh g h gs os n cs s nm lt sc kd pr z vT vB vD vI  b0 b1 b2 b3 b4 b5 b6 b7 b8 true b10 b11 b12 b13 b14 b15 b16 b17 b18 b19 b20 b21 b22 b23 b24 b25 b26 b27 b28 b29 b30 b31 b32 b33 a0).eval (.tmp 14) = (.bool false) := by
  simp [RemD.A, eval_putIf, eval_put, size_putIf, hs]
theorem RemD.p10 (wr : World) (bl bh g h gs os n cs s : Nat) (nm : ByteArray) (lt : Bool) (sc kd pr : Int) (z : Bool) (vT vB vD vI : Value)   (b0 b1 b2 b3 b4 b5 b6 b7 b8 b9 b11 b12 b13 b14 b15 b16 b17 b18 b19 b20 b21 b22 b23 b24 b25 b26 b27 b28 b29 b30 b31 b32 b33 : Bool) (a0 : Act) :
    (RemD.A wr bl bh g h gs os n cs s nm lt sc kd pr z vT vB vD vI  b0 b1 b2 b3 b4 b5 b6 b7 b8 b9 false b11 b12 b13 b14 b15 b16 b17 b18 b19 b20 b21 b22 b23 b24 b25 b26 b27 b28 b29 b30 b31 b32 b33 a0).put (some 15) (.bool false) = RemD.A wr bl bh g h gs os n cs s nm lt sc kd pr z vT vB vD vI  b0 b1 b2 b3 b4 b5 b6 b7 b8 b9 true b11 b12 b13 b14 b15 b16 b17 b18 b19 b20 b21 b22 b23 b24 b25 b26 b27 b28 b29 b30 b31 b32 b33 a0 := by
  simp only [RemD.A, putIf_put, ne_eq, Nat.reduceEqDiff, not_false_eq_true]
  rfl
theorem RemD.e10 {wr : World} {bl bh g h gs os n cs s : Nat} {nm : ByteArray} {lt : Bool} {sc kd pr : Int} {z : Bool} {vT vB vD vI : Value}  {b0 b1 b2 b3 b4 b5 b6 b7 b8 b9 b11 b12 b13 b14 b15 b16 b17 b18 b19 b20 b21 b22 b23 b24 b25 b26 b27 b28 b29 b30 b31 b32 b33 : Bool} {a0 : Act} (hs : a0.tmps.size = 38) : (RemD.A wr bl bh g h gs os n cs s nm lt sc kd pr z vT vB vD vI  b0 b1 b2 b3 b4 b5 b6 b7 b8 b9 true b11 b12 b13 b14 b15 b16 b17 b18 b19 b20 b21 b22 b23 b24 b25 b26 b27 b28 b29 b30 b31 b32 b33 a0).eval (.tmp 15) = (.bool false) := by
  simp [RemD.A, eval_putIf, eval_put, size_putIf, hs]
theorem RemD.p11 (wr : World) (bl bh g h gs os n cs s : Nat) (nm : ByteArray) (lt : Bool) (sc kd pr : Int) (z : Bool) (vT vB vD vI : Value)   (b0 b1 b2 b3 b4 b5 b6 b7 b8 b9 b10 b12 b13 b14 b15 b16 b17 b18 b19 b20 b21 b22 b23 b24 b25 b26 b27 b28 b29 b30 b31 b32 b33 : Bool) (a0 : Act) :
    (RemD.A wr bl bh g h gs os n cs s nm lt sc kd pr z vT vB vD vI  b0 b1 b2 b3 b4 b5 b6 b7 b8 b9 b10 false b12 b13 b14 b15 b16 b17 b18 b19 b20 b21 b22 b23 b24 b25 b26 b27 b28 b29 b30 b31 b32 b33 a0).put (some 16) (.pointer (some ⟨g, 0, none⟩)) = RemD.A wr bl bh g h gs os n cs s nm lt sc kd pr z vT vB vD vI  b0 b1 b2 b3 b4 b5 b6 b7 b8 b9 b10 true b12 b13 b14 b15 b16 b17 b18 b19 b20 b21 b22 b23 b24 b25 b26 b27 b28 b29 b30 b31 b32 b33 a0 := by
  simp only [RemD.A, putIf_put, ne_eq, Nat.reduceEqDiff, not_false_eq_true]
  rfl
theorem RemD.e11 {wr : World} {bl bh g h gs os n cs s : Nat} {nm : ByteArray} {lt : Bool} {sc kd pr : Int} {z : Bool} {vT vB vD vI : Value}  {b0 b1 b2 b3 b4 b5 b6 b7 b8 b9 b10 b12 b13 b14 b15 b16 b17 b18 b19 b20 b21 b22 b23 b24 b25 b26 b27 b28 b29 b30 b31 b32 b33 : Bool} {a0 : Act} (hs : a0.tmps.size = 38) : (RemD.A wr bl bh g h gs os n cs s nm lt sc kd pr z vT vB vD vI  b0 b1 b2 b3 b4 b5 b6 b7 b8 b9 b10 true b12 b13 b14 b15 b16 b17 b18 b19 b20 b21 b22 b23 b24 b25 b26 b27 b28 b29 b30 b31 b32 b33 a0).eval (.tmp 16) = (.pointer (some ⟨g, 0, none⟩)) := by
  simp [RemD.A, eval_putIf, eval_put, size_putIf, hs]
theorem RemD.p12 (wr : World) (bl bh g h gs os n cs s : Nat) (nm : ByteArray) (lt : Bool) (sc kd pr : Int) (z : Bool) (vT vB vD vI : Value)   (b0 b1 b2 b3 b4 b5 b6 b7 b8 b9 b10 b11 b13 b14 b15 b16 b17 b18 b19 b20 b21 b22 b23 b24 b25 b26 b27 b28 b29 b30 b31 b32 b33 : Bool) (a0 : Act) :
    (RemD.A wr bl bh g h gs os n cs s nm lt sc kd pr z vT vB vD vI  b0 b1 b2 b3 b4 b5 b6 b7 b8 b9 b10 b11 false b13 b14 b15 b16 b17 b18 b19 b20 b21 b22 b23 b24 b25 b26 b27 b28 b29 b30 b31 b32 b33 a0).put (some 17) (.agg #[.string nm, .bool lt, .int .i64 sc, .slice (some ⟨gs, os, none⟩) n cs, vT, vB, vD, vI]) = RemD.A wr bl bh g h gs os n cs s nm lt sc kd pr z vT vB vD vI  b0 b1 b2 b3 b4 b5 b6 b7 b8 b9 b10 b11 true b13 b14 b15 b16 b17 b18 b19 b20 b21 b22 b23 b24 b25 b26 b27 b28 b29 b30 b31 b32 b33 a0 := by
  simp only [RemD.A, putIf_put, ne_eq, Nat.reduceEqDiff, not_false_eq_true]
  rfl
theorem RemD.e12 {wr : World} {bl bh g h gs os n cs s : Nat} {nm : ByteArray} {lt : Bool} {sc kd pr : Int} {z : Bool} {vT vB vD vI : Value}  {b0 b1 b2 b3 b4 b5 b6 b7 b8 b9 b10 b11 b13 b14 b15 b16 b17 b18 b19 b20 b21 b22 b23 b24 b25 b26 b27 b28 b29 b30 b31 b32 b33 : Bool} {a0 : Act} (hs : a0.tmps.size = 38) : (RemD.A wr bl bh g h gs os n cs s nm lt sc kd pr z vT vB vD vI  b0 b1 b2 b3 b4 b5 b6 b7 b8 b9 b10 b11 true b13 b14 b15 b16 b17 b18 b19 b20 b21 b22 b23 b24 b25 b26 b27 b28 b29 b30 b31 b32 b33 a0).eval (.tmp 17) = (.agg #[.string nm, .bool lt, .int .i64 sc, .slice (some ⟨gs, os, none⟩) n cs, vT, vB, vD, vI]) := by
  simp [RemD.A, eval_putIf, eval_put, size_putIf, hs]
theorem RemD.p13 (wr : World) (bl bh g h gs os n cs s : Nat) (nm : ByteArray) (lt : Bool) (sc kd pr : Int) (z : Bool) (vT vB vD vI : Value)   (b0 b1 b2 b3 b4 b5 b6 b7 b8 b9 b10 b11 b12 b14 b15 b16 b17 b18 b19 b20 b21 b22 b23 b24 b25 b26 b27 b28 b29 b30 b31 b32 b33 : Bool) (a0 : Act) :
    (RemD.A wr bl bh g h gs os n cs s nm lt sc kd pr z vT vB vD vI  b0 b1 b2 b3 b4 b5 b6 b7 b8 b9 b10 b11 b12 false b14 b15 b16 b17 b18 b19 b20 b21 b22 b23 b24 b25 b26 b27 b28 b29 b30 b31 b32 b33 a0).put (some 18) (.slice (some ⟨gs, os, none⟩) n cs) = RemD.A wr bl bh g h gs os n cs s nm lt sc kd pr z vT vB vD vI  b0 b1 b2 b3 b4 b5 b6 b7 b8 b9 b10 b11 b12 true b14 b15 b16 b17 b18 b19 b20 b21 b22 b23 b24 b25 b26 b27 b28 b29 b30 b31 b32 b33 a0 := by
  simp only [RemD.A, putIf_put, ne_eq, Nat.reduceEqDiff, not_false_eq_true]
  rfl
theorem RemD.e13 {wr : World} {bl bh g h gs os n cs s : Nat} {nm : ByteArray} {lt : Bool} {sc kd pr : Int} {z : Bool} {vT vB vD vI : Value}  {b0 b1 b2 b3 b4 b5 b6 b7 b8 b9 b10 b11 b12 b14 b15 b16 b17 b18 b19 b20 b21 b22 b23 b24 b25 b26 b27 b28 b29 b30 b31 b32 b33 : Bool} {a0 : Act} (hs : a0.tmps.size = 38) : (RemD.A wr bl bh g h gs os n cs s nm lt sc kd pr z vT vB vD vI  b0 b1 b2 b3 b4 b5 b6 b7 b8 b9 b10 b11 b12 true b14 b15 b16 b17 b18 b19 b20 b21 b22 b23 b24 b25 b26 b27 b28 b29 b30 b31 b32 b33 a0).eval (.tmp 18) = (.slice (some ⟨gs, os, none⟩) n cs) := by
  simp [RemD.A, eval_putIf, eval_put, size_putIf, hs]
theorem RemD.p14 (wr : World) (bl bh g h gs os n cs s : Nat) (nm : ByteArray) (lt : Bool) (sc kd pr : Int) (z : Bool) (vT vB vD vI : Value)   (b0 b1 b2 b3 b4 b5 b6 b7 b8 b9 b10 b11 b12 b13 b15 b16 b17 b18 b19 b20 b21 b22 b23 b24 b25 b26 b27 b28 b29 b30 b31 b32 b33 : Bool) (a0 : Act) :
    (RemD.A wr bl bh g h gs os n cs s nm lt sc kd pr z vT vB vD vI  b0 b1 b2 b3 b4 b5 b6 b7 b8 b9 b10 b11 b12 b13 false b15 b16 b17 b18 b19 b20 b21 b22 b23 b24 b25 b26 b27 b28 b29 b30 b31 b32 b33 a0).put (some 19) (.int .i64 s) = RemD.A wr bl bh g h gs os n cs s nm lt sc kd pr z vT vB vD vI  b0 b1 b2 b3 b4 b5 b6 b7 b8 b9 b10 b11 b12 b13 true b15 b16 b17 b18 b19 b20 b21 b22 b23 b24 b25 b26 b27 b28 b29 b30 b31 b32 b33 a0 := by
  simp only [RemD.A, putIf_put, ne_eq, Nat.reduceEqDiff, not_false_eq_true]
  rfl
theorem RemD.e14 {wr : World} {bl bh g h gs os n cs s : Nat} {nm : ByteArray} {lt : Bool} {sc kd pr : Int} {z : Bool} {vT vB vD vI : Value}  {b0 b1 b2 b3 b4 b5 b6 b7 b8 b9 b10 b11 b12 b13 b15 b16 b17 b18 b19 b20 b21 b22 b23 b24 b25 b26 b27 b28 b29 b30 b31 b32 b33 : Bool} {a0 : Act} (hs : a0.tmps.size = 38) : (RemD.A wr bl bh g h gs os n cs s nm lt sc kd pr z vT vB vD vI  b0 b1 b2 b3 b4 b5 b6 b7 b8 b9 b10 b11 b12 b13 true b15 b16 b17 b18 b19 b20 b21 b22 b23 b24 b25 b26 b27 b28 b29 b30 b31 b32 b33 a0).eval (.tmp 19) = (.int .i64 s) := by
  simp [RemD.A, eval_putIf, eval_put, size_putIf, hs]
theorem RemD.p15 (wr : World) (bl bh g h gs os n cs s : Nat) (nm : ByteArray) (lt : Bool) (sc kd pr : Int) (z : Bool) (vT vB vD vI : Value)   (b0 b1 b2 b3 b4 b5 b6 b7 b8 b9 b10 b11 b12 b13 b14 b16 b17 b18 b19 b20 b21 b22 b23 b24 b25 b26 b27 b28 b29 b30 b31 b32 b33 : Bool) (a0 : Act) :
    (RemD.A wr bl bh g h gs os n cs s nm lt sc kd pr z vT vB vD vI  b0 b1 b2 b3 b4 b5 b6 b7 b8 b9 b10 b11 b12 b13 b14 false b16 b17 b18 b19 b20 b21 b22 b23 b24 b25 b26 b27 b28 b29 b30 b31 b32 b33 a0).put (some 20) (.pointer (some ⟨gs, os + s * 13, none⟩)) = RemD.A wr bl bh g h gs os n cs s nm lt sc kd pr z vT vB vD vI  b0 b1 b2 b3 b4 b5 b6 b7 b8 b9 b10 b11 b12 b13 b14 true b16 b17 b18 b19 b20 b21 b22 b23 b24 b25 b26 b27 b28 b29 b30 b31 b32 b33 a0 := by
  simp only [RemD.A, putIf_put, ne_eq, Nat.reduceEqDiff, not_false_eq_true]
  rfl
theorem RemD.e15 {wr : World} {bl bh g h gs os n cs s : Nat} {nm : ByteArray} {lt : Bool} {sc kd pr : Int} {z : Bool} {vT vB vD vI : Value}  {b0 b1 b2 b3 b4 b5 b6 b7 b8 b9 b10 b11 b12 b13 b14 b16 b17 b18 b19 b20 b21 b22 b23 b24 b25 b26 b27 b28 b29 b30 b31 b32 b33 : Bool} {a0 : Act} (hs : a0.tmps.size = 38) : (RemD.A wr bl bh g h gs os n cs s nm lt sc kd pr z vT vB vD vI  b0 b1 b2 b3 b4 b5 b6 b7 b8 b9 b10 b11 b12 b13 b14 true b16 b17 b18 b19 b20 b21 b22 b23 b24 b25 b26 b27 b28 b29 b30 b31 b32 b33 a0).eval (.tmp 20) = (.pointer (some ⟨gs, os + s * 13, none⟩)) := by
  simp [RemD.A, eval_putIf, eval_put, size_putIf, hs]
theorem RemD.p16 (wr : World) (bl bh g h gs os n cs s : Nat) (nm : ByteArray) (lt : Bool) (sc kd pr : Int) (z : Bool) (vT vB vD vI : Value)   (b0 b1 b2 b3 b4 b5 b6 b7 b8 b9 b10 b11 b12 b13 b14 b15 b17 b18 b19 b20 b21 b22 b23 b24 b25 b26 b27 b28 b29 b30 b31 b32 b33 : Bool) (a0 : Act) :
    (RemD.A wr bl bh g h gs os n cs s nm lt sc kd pr z vT vB vD vI  b0 b1 b2 b3 b4 b5 b6 b7 b8 b9 b10 b11 b12 b13 b14 b15 false b17 b18 b19 b20 b21 b22 b23 b24 b25 b26 b27 b28 b29 b30 b31 b32 b33 a0).put (some 21) (.pointer (some ⟨gs, os + s * 13 + 1, none⟩)) = RemD.A wr bl bh g h gs os n cs s nm lt sc kd pr z vT vB vD vI  b0 b1 b2 b3 b4 b5 b6 b7 b8 b9 b10 b11 b12 b13 b14 b15 true b17 b18 b19 b20 b21 b22 b23 b24 b25 b26 b27 b28 b29 b30 b31 b32 b33 a0 := by
  simp only [RemD.A, putIf_put, ne_eq, Nat.reduceEqDiff, not_false_eq_true]
  rfl
theorem RemD.e16 {wr : World} {bl bh g h gs os n cs s : Nat} {nm : ByteArray} {lt : Bool} {sc kd pr : Int} {z : Bool} {vT vB vD vI : Value}  {b0 b1 b2 b3 b4 b5 b6 b7 b8 b9 b10 b11 b12 b13 b14 b15 b17 b18 b19 b20 b21 b22 b23 b24 b25 b26 b27 b28 b29 b30 b31 b32 b33 : Bool} {a0 : Act} (hs : a0.tmps.size = 38) : (RemD.A wr bl bh g h gs os n cs s nm lt sc kd pr z vT vB vD vI  b0 b1 b2 b3 b4 b5 b6 b7 b8 b9 b10 b11 b12 b13 b14 b15 true b17 b18 b19 b20 b21 b22 b23 b24 b25 b26 b27 b28 b29 b30 b31 b32 b33 a0).eval (.tmp 21) = (.pointer (some ⟨gs, os + s * 13 + 1, none⟩)) := by
  simp [RemD.A, eval_putIf, eval_put, size_putIf, hs]
theorem RemD.p17 (wr : World) (bl bh g h gs os n cs s : Nat) (nm : ByteArray) (lt : Bool) (sc kd pr : Int) (z : Bool) (vT vB vD vI : Value)   (b0 b1 b2 b3 b4 b5 b6 b7 b8 b9 b10 b11 b12 b13 b14 b15 b16 b18 b19 b20 b21 b22 b23 b24 b25 b26 b27 b28 b29 b30 b31 b32 b33 : Bool) (a0 : Act) :
    (RemD.A wr bl bh g h gs os n cs s nm lt sc kd pr z vT vB vD vI  b0 b1 b2 b3 b4 b5 b6 b7 b8 b9 b10 b11 b12 b13 b14 b15 b16 false b18 b19 b20 b21 b22 b23 b24 b25 b26 b27 b28 b29 b30 b31 b32 b33 a0).put (some 22) (.int .i64 kd) = RemD.A wr bl bh g h gs os n cs s nm lt sc kd pr z vT vB vD vI  b0 b1 b2 b3 b4 b5 b6 b7 b8 b9 b10 b11 b12 b13 b14 b15 b16 true b18 b19 b20 b21 b22 b23 b24 b25 b26 b27 b28 b29 b30 b31 b32 b33 a0 := by
  simp only [RemD.A, putIf_put, ne_eq, Nat.reduceEqDiff, not_false_eq_true]
  rfl
theorem RemD.e17 {wr : World} {bl bh g h gs os n cs s : Nat} {nm : ByteArray} {lt : Bool} {sc kd pr : Int} {z : Bool} {vT vB vD vI : Value}  {b0 b1 b2 b3 b4 b5 b6 b7 b8 b9 b10 b11 b12 b13 b14 b15 b16 b18 b19 b20 b21 b22 b23 b24 b25 b26 b27 b28 b29 b30 b31 b32 b33 : Bool} {a0 : Act} (hs : a0.tmps.size = 38) : (RemD.A wr bl bh g h gs os n cs s nm lt sc kd pr z vT vB vD vI  b0 b1 b2 b3 b4 b5 b6 b7 b8 b9 b10 b11 b12 b13 b14 b15 b16 true b18 b19 b20 b21 b22 b23 b24 b25 b26 b27 b28 b29 b30 b31 b32 b33 a0).eval (.tmp 22) = (.int .i64 kd) := by
  simp [RemD.A, eval_putIf, eval_put, size_putIf, hs]
theorem RemD.p18 (wr : World) (bl bh g h gs os n cs s : Nat) (nm : ByteArray) (lt : Bool) (sc kd pr : Int) (z : Bool) (vT vB vD vI : Value)   (b0 b1 b2 b3 b4 b5 b6 b7 b8 b9 b10 b11 b12 b13 b14 b15 b16 b17 b19 b20 b21 b22 b23 b24 b25 b26 b27 b28 b29 b30 b31 b32 b33 : Bool) (a0 : Act) :
    (RemD.A wr bl bh g h gs os n cs s nm lt sc kd pr z vT vB vD vI  b0 b1 b2 b3 b4 b5 b6 b7 b8 b9 b10 b11 b12 b13 b14 b15 b16 b17 false b19 b20 b21 b22 b23 b24 b25 b26 b27 b28 b29 b30 b31 b32 b33 a0).put (some 23) (.bool false) = RemD.A wr bl bh g h gs os n cs s nm lt sc kd pr z vT vB vD vI  b0 b1 b2 b3 b4 b5 b6 b7 b8 b9 b10 b11 b12 b13 b14 b15 b16 b17 true b19 b20 b21 b22 b23 b24 b25 b26 b27 b28 b29 b30 b31 b32 b33 a0 := by
  simp only [RemD.A, putIf_put, ne_eq, Nat.reduceEqDiff, not_false_eq_true]
  rfl
theorem RemD.e18 {wr : World} {bl bh g h gs os n cs s : Nat} {nm : ByteArray} {lt : Bool} {sc kd pr : Int} {z : Bool} {vT vB vD vI : Value}  {b0 b1 b2 b3 b4 b5 b6 b7 b8 b9 b10 b11 b12 b13 b14 b15 b16 b17 b19 b20 b21 b22 b23 b24 b25 b26 b27 b28 b29 b30 b31 b32 b33 : Bool} {a0 : Act} (hs : a0.tmps.size = 38) : (RemD.A wr bl bh g h gs os n cs s nm lt sc kd pr z vT vB vD vI  b0 b1 b2 b3 b4 b5 b6 b7 b8 b9 b10 b11 b12 b13 b14 b15 b16 b17 true b19 b20 b21 b22 b23 b24 b25 b26 b27 b28 b29 b30 b31 b32 b33 a0).eval (.tmp 23) = (.bool false) := by
  simp [RemD.A, eval_putIf, eval_put, size_putIf, hs]
theorem RemD.p19 (wr : World) (bl bh g h gs os n cs s : Nat) (nm : ByteArray) (lt : Bool) (sc kd pr : Int) (z : Bool) (vT vB vD vI : Value)   (b0 b1 b2 b3 b4 b5 b6 b7 b8 b9 b10 b11 b12 b13 b14 b15 b16 b17 b18 b20 b21 b22 b23 b24 b25 b26 b27 b28 b29 b30 b31 b32 b33 : Bool) (a0 : Act) :
    (RemD.A wr bl bh g h gs os n cs s nm lt sc kd pr z vT vB vD vI  b0 b1 b2 b3 b4 b5 b6 b7 b8 b9 b10 b11 b12 b13 b14 b15 b16 b17 b18 false b20 b21 b22 b23 b24 b25 b26 b27 b28 b29 b30 b31 b32 b33 a0).put (some 24) (.bool false) = RemD.A wr bl bh g h gs os n cs s nm lt sc kd pr z vT vB vD vI  b0 b1 b2 b3 b4 b5 b6 b7 b8 b9 b10 b11 b12 b13 b14 b15 b16 b17 b18 true b20 b21 b22 b23 b24 b25 b26 b27 b28 b29 b30 b31 b32 b33 a0 := by
  simp only [RemD.A, putIf_put, ne_eq, Nat.reduceEqDiff, not_false_eq_true]
  rfl
theorem RemD.e19 {wr : World} {bl bh g h gs os n cs s : Nat} {nm : ByteArray} {lt : Bool} {sc kd pr : Int} {z : Bool} {vT vB vD vI : Value}  {b0 b1 b2 b3 b4 b5 b6 b7 b8 b9 b10 b11 b12 b13 b14 b15 b16 b17 b18 b20 b21 b22 b23 b24 b25 b26 b27 b28 b29 b30 b31 b32 b33 : Bool} {a0 : Act} (hs : a0.tmps.size = 38) : (RemD.A wr bl bh g h gs os n cs s nm lt sc kd pr z vT vB vD vI  b0 b1 b2 b3 b4 b5 b6 b7 b8 b9 b10 b11 b12 b13 b14 b15 b16 b17 b18 true b20 b21 b22 b23 b24 b25 b26 b27 b28 b29 b30 b31 b32 b33 a0).eval (.tmp 24) = (.bool false) := by
  simp [RemD.A, eval_putIf, eval_put, size_putIf, hs]
theorem RemD.p20 (wr : World) (bl bh g h gs os n cs s : Nat) (nm : ByteArray) (lt : Bool) (sc kd pr : Int) (z : Bool) (vT vB vD vI : Value)   (b0 b1 b2 b3 b4 b5 b6 b7 b8 b9 b10 b11 b12 b13 b14 b15 b16 b17 b18 b19 b21 b22 b23 b24 b25 b26 b27 b28 b29 b30 b31 b32 b33 : Bool) (a0 : Act) :
    (RemD.A wr bl bh g h gs os n cs s nm lt sc kd pr z vT vB vD vI  b0 b1 b2 b3 b4 b5 b6 b7 b8 b9 b10 b11 b12 b13 b14 b15 b16 b17 b18 b19 false b21 b22 b23 b24 b25 b26 b27 b28 b29 b30 b31 b32 b33 a0).put (some 25) (.bool false) = RemD.A wr bl bh g h gs os n cs s nm lt sc kd pr z vT vB vD vI  b0 b1 b2 b3 b4 b5 b6 b7 b8 b9 b10 b11 b12 b13 b14 b15 b16 b17 b18 b19 true b21 b22 b23 b24 b25 b26 b27 b28 b29 b30 b31 b32 b33 a0 := by
  simp only [RemD.A, putIf_put, ne_eq, Nat.reduceEqDiff, not_false_eq_true]
  rfl
theorem RemD.e20 {wr : World} {bl bh g h gs os n cs s : Nat} {nm : ByteArray} {lt : Bool} {sc kd pr : Int} {z : Bool} {vT vB vD vI : Value}  {b0 b1 b2 b3 b4 b5 b6 b7 b8 b9 b10 b11 b12 b13 b14 b15 b16 b17 b18 b19 b21 b22 b23 b24 b25 b26 b27 b28 b29 b30 b31 b32 b33 : Bool} {a0 : Act} (hs : a0.tmps.size = 38) : (RemD.A wr bl bh g h gs os n cs s nm lt sc kd pr z vT vB vD vI  b0 b1 b2 b3 b4 b5 b6 b7 b8 b9 b10 b11 b12 b13 b14 b15 b16 b17 b18 b19 true b21 b22 b23 b24 b25 b26 b27 b28 b29 b30 b31 b32 b33 a0).eval (.tmp 25) = (.bool false) := by
  simp [RemD.A, eval_putIf, eval_put, size_putIf, hs]
theorem RemD.p21 (wr : World) (bl bh g h gs os n cs s : Nat) (nm : ByteArray) (lt : Bool) (sc kd pr : Int) (z : Bool) (vT vB vD vI : Value)   (b0 b1 b2 b3 b4 b5 b6 b7 b8 b9 b10 b11 b12 b13 b14 b15 b16 b17 b18 b19 b20 b22 b23 b24 b25 b26 b27 b28 b29 b30 b31 b32 b33 : Bool) (a0 : Act) :
    (RemD.A wr bl bh g h gs os n cs s nm lt sc kd pr z vT vB vD vI  b0 b1 b2 b3 b4 b5 b6 b7 b8 b9 b10 b11 b12 b13 b14 b15 b16 b17 b18 b19 b20 false b22 b23 b24 b25 b26 b27 b28 b29 b30 b31 b32 b33 a0).put (some 26) (.pointer (some ⟨g, 0, none⟩)) = RemD.A wr bl bh g h gs os n cs s nm lt sc kd pr z vT vB vD vI  b0 b1 b2 b3 b4 b5 b6 b7 b8 b9 b10 b11 b12 b13 b14 b15 b16 b17 b18 b19 b20 true b22 b23 b24 b25 b26 b27 b28 b29 b30 b31 b32 b33 a0 := by
  simp only [RemD.A, putIf_put, ne_eq, Nat.reduceEqDiff, not_false_eq_true]
  rfl
theorem RemD.e21 {wr : World} {bl bh g h gs os n cs s : Nat} {nm : ByteArray} {lt : Bool} {sc kd pr : Int} {z : Bool} {vT vB vD vI : Value}  {b0 b1 b2 b3 b4 b5 b6 b7 b8 b9 b10 b11 b12 b13 b14 b15 b16 b17 b18 b19 b20 b22 b23 b24 b25 b26 b27 b28 b29 b30 b31 b32 b33 : Bool} {a0 : Act} (hs : a0.tmps.size = 38) : (RemD.A wr bl bh g h gs os n cs s nm lt sc kd pr z vT vB vD vI  b0 b1 b2 b3 b4 b5 b6 b7 b8 b9 b10 b11 b12 b13 b14 b15 b16 b17 b18 b19 b20 true b22 b23 b24 b25 b26 b27 b28 b29 b30 b31 b32 b33 a0).eval (.tmp 26) = (.pointer (some ⟨g, 0, none⟩)) := by
  simp [RemD.A, eval_putIf, eval_put, size_putIf, hs]
theorem RemD.p22 (wr : World) (bl bh g h gs os n cs s : Nat) (nm : ByteArray) (lt : Bool) (sc kd pr : Int) (z : Bool) (vT vB vD vI : Value)   (b0 b1 b2 b3 b4 b5 b6 b7 b8 b9 b10 b11 b12 b13 b14 b15 b16 b17 b18 b19 b20 b21 b23 b24 b25 b26 b27 b28 b29 b30 b31 b32 b33 : Bool) (a0 : Act) :
    (RemD.A wr bl bh g h gs os n cs s nm lt sc kd pr z vT vB vD vI  b0 b1 b2 b3 b4 b5 b6 b7 b8 b9 b10 b11 b12 b13 b14 b15 b16 b17 b18 b19 b20 b21 false b23 b24 b25 b26 b27 b28 b29 b30 b31 b32 b33 a0).put (some 27) (.int .i64 s) = RemD.A wr bl bh g h gs os n cs s nm lt sc kd pr z vT vB vD vI  b0 b1 b2 b3 b4 b5 b6 b7 b8 b9 b10 b11 b12 b13 b14 b15 b16 b17 b18 b19 b20 b21 true b23 b24 b25 b26 b27 b28 b29 b30 b31 b32 b33 a0 := by
  simp only [RemD.A, putIf_put, ne_eq, Nat.reduceEqDiff, not_false_eq_true]
  rfl
theorem RemD.e22 {wr : World} {bl bh g h gs os n cs s : Nat} {nm : ByteArray} {lt : Bool} {sc kd pr : Int} {z : Bool} {vT vB vD vI : Value}  {b0 b1 b2 b3 b4 b5 b6 b7 b8 b9 b10 b11 b12 b13 b14 b15 b16 b17 b18 b19 b20 b21 b23 b24 b25 b26 b27 b28 b29 b30 b31 b32 b33 : Bool} {a0 : Act} (hs : a0.tmps.size = 38) : (RemD.A wr bl bh g h gs os n cs s nm lt sc kd pr z vT vB vD vI  b0 b1 b2 b3 b4 b5 b6 b7 b8 b9 b10 b11 b12 b13 b14 b15 b16 b17 b18 b19 b20 b21 true b23 b24 b25 b26 b27 b28 b29 b30 b31 b32 b33 a0).eval (.tmp 27) = (.int .i64 s) := by
  simp [RemD.A, eval_putIf, eval_put, size_putIf, hs]
theorem RemD.p23 (wr : World) (bl bh g h gs os n cs s : Nat) (nm : ByteArray) (lt : Bool) (sc kd pr : Int) (z : Bool) (vT vB vD vI : Value)   (b0 b1 b2 b3 b4 b5 b6 b7 b8 b9 b10 b11 b12 b13 b14 b15 b16 b17 b18 b19 b20 b21 b22 b24 b25 b26 b27 b28 b29 b30 b31 b32 b33 : Bool) (a0 : Act) :
    (RemD.A wr bl bh g h gs os n cs s nm lt sc kd pr z vT vB vD vI  b0 b1 b2 b3 b4 b5 b6 b7 b8 b9 b10 b11 b12 b13 b14 b15 b16 b17 b18 b19 b20 b21 b22 false b24 b25 b26 b27 b28 b29 b30 b31 b32 b33 a0).put (some 28) (.pointer (some ⟨g, 0, none⟩)) = RemD.A wr bl bh g h gs os n cs s nm lt sc kd pr z vT vB vD vI  b0 b1 b2 b3 b4 b5 b6 b7 b8 b9 b10 b11 b12 b13 b14 b15 b16 b17 b18 b19 b20 b21 b22 true b24 b25 b26 b27 b28 b29 b30 b31 b32 b33 a0 := by
  simp only [RemD.A, putIf_put, ne_eq, Nat.reduceEqDiff, not_false_eq_true]
  rfl
theorem RemD.e23 {wr : World} {bl bh g h gs os n cs s : Nat} {nm : ByteArray} {lt : Bool} {sc kd pr : Int} {z : Bool} {vT vB vD vI : Value}  {b0 b1 b2 b3 b4 b5 b6 b7 b8 b9 b10 b11 b12 b13 b14 b15 b16 b17 b18 b19 b20 b21 b22 b24 b25 b26 b27 b28 b29 b30 b31 b32 b33 : Bool} {a0 : Act} (hs : a0.tmps.size = 38) : (RemD.A wr bl bh g h gs os n cs s nm lt sc kd pr z vT vB vD vI  b0 b1 b2 b3 b4 b5 b6 b7 b8 b9 b10 b11 b12 b13 b14 b15 b16 b17 b18 b19 b20 b21 b22 true b24 b25 b26 b27 b28 b29 b30 b31 b32 b33 a0).eval (.tmp 28) = (.pointer (some ⟨g, 0, none⟩)) := by
  simp [RemD.A, eval_putIf, eval_put, size_putIf, hs]
theorem RemD.p24 (wr : World) (bl bh g h gs os n cs s : Nat) (nm : ByteArray) (lt : Bool) (sc kd pr : Int) (z : Bool) (vT vB vD vI : Value)   (b0 b1 b2 b3 b4 b5 b6 b7 b8 b9 b10 b11 b12 b13 b14 b15 b16 b17 b18 b19 b20 b21 b22 b23 b25 b26 b27 b28 b29 b30 b31 b32 b33 : Bool) (a0 : Act) :
    (RemD.A wr bl bh g h gs os n cs s nm lt sc kd pr z vT vB vD vI  b0 b1 b2 b3 b4 b5 b6 b7 b8 b9 b10 b11 b12 b13 b14 b15 b16 b17 b18 b19 b20 b21 b22 b23 false b25 b26 b27 b28 b29 b30 b31 b32 b33 a0).put (some 29) (.agg #[.string nm, .bool lt, .int .i64 sc, .slice (some ⟨gs, os, none⟩) n cs, vT, vB, vD, vI]) = RemD.A wr bl bh g h gs os n cs s nm lt sc kd pr z vT vB vD vI  b0 b1 b2 b3 b4 b5 b6 b7 b8 b9 b10 b11 b12 b13 b14 b15 b16 b17 b18 b19 b20 b21 b22 b23 true b25 b26 b27 b28 b29 b30 b31 b32 b33 a0 := by
  simp only [RemD.A, putIf_put, ne_eq, Nat.reduceEqDiff, not_false_eq_true]
  rfl
theorem RemD.e24 {wr : World} {bl bh g h gs os n cs s : Nat} {nm : ByteArray} {lt : Bool} {sc kd pr : Int} {z : Bool} {vT vB vD vI : Value}  {b0 b1 b2 b3 b4 b5 b6 b7 b8 b9 b10 b11 b12 b13 b14 b15 b16 b17 b18 b19 b20 b21 b22 b23 b25 b26 b27 b28 b29 b30 b31 b32 b33 : Bool} {a0 : Act} (hs : a0.tmps.size = 38) : (RemD.A wr bl bh g h gs os n cs s nm lt sc kd pr z vT vB vD vI  b0 b1 b2 b3 b4 b5 b6 b7 b8 b9 b10 b11 b12 b13 b14 b15 b16 b17 b18 b19 b20 b21 b22 b23 true b25 b26 b27 b28 b29 b30 b31 b32 b33 a0).eval (.tmp 29) = (.agg #[.string nm, .bool lt, .int .i64 sc, .slice (some ⟨gs, os, none⟩) n cs, vT, vB, vD, vI]) := by
  simp [RemD.A, eval_putIf, eval_put, size_putIf, hs]
theorem RemD.p25 (wr : World) (bl bh g h gs os n cs s : Nat) (nm : ByteArray) (lt : Bool) (sc kd pr : Int) (z : Bool) (vT vB vD vI : Value)   (b0 b1 b2 b3 b4 b5 b6 b7 b8 b9 b10 b11 b12 b13 b14 b15 b16 b17 b18 b19 b20 b21 b22 b23 b24 b26 b27 b28 b29 b30 b31 b32 b33 : Bool) (a0 : Act) :
    (RemD.A wr bl bh g h gs os n cs s nm lt sc kd pr z vT vB vD vI  b0 b1 b2 b3 b4 b5 b6 b7 b8 b9 b10 b11 b12 b13 b14 b15 b16 b17 b18 b19 b20 b21 b22 b23 b24 false b26 b27 b28 b29 b30 b31 b32 b33 a0).put (some 30) (.slice (some ⟨gs, os, none⟩) n cs) = RemD.A wr bl bh g h gs os n cs s nm lt sc kd pr z vT vB vD vI  b0 b1 b2 b3 b4 b5 b6 b7 b8 b9 b10 b11 b12 b13 b14 b15 b16 b17 b18 b19 b20 b21 b22 b23 b24 true b26 b27 b28 b29 b30 b31 b32 b33 a0 := by
  simp only [RemD.A, putIf_put, ne_eq, Nat.reduceEqDiff, not_false_eq_true]
  rfl
theorem RemD.e25 {wr : World} {bl bh g h gs os n cs s : Nat} {nm : ByteArray} {lt : Bool} {sc kd pr : Int} {z : Bool} {vT vB vD vI : Value}  {b0 b1 b2 b3 b4 b5 b6 b7 b8 b9 b10 b11 b12 b13 b14 b15 b16 b17 b18 b19 b20 b21 b22 b23 b24 b26 b27 b28 b29 b30 b31 b32 b33 : Bool} {a0 : Act} (hs : a0.tmps.size = 38) : (RemD.A wr bl bh g h gs os n cs s nm lt sc kd pr z vT vB vD vI  b0 b1 b2 b3 b4 b5 b6 b7 b8 b9 b10 b11 b12 b13 b14 b15 b16 b17 b18 b19 b20 b21 b22 b23 b24 true b26 b27 b28 b29 b30 b31 b32 b33 a0).eval (.tmp 30) = (.slice (some ⟨gs, os, none⟩) n cs) := by
  simp [RemD.A, eval_putIf, eval_put, size_putIf, hs]
theorem RemD.p26 (wr : World) (bl bh g h gs os n cs s : Nat) (nm : ByteArray) (lt : Bool) (sc kd pr : Int) (z : Bool) (vT vB vD vI : Value)   (b0 b1 b2 b3 b4 b5 b6 b7 b8 b9 b10 b11 b12 b13 b14 b15 b16 b17 b18 b19 b20 b21 b22 b23 b24 b25 b27 b28 b29 b30 b31 b32 b33 : Bool) (a0 : Act) :
    (RemD.A wr bl bh g h gs os n cs s nm lt sc kd pr z vT vB vD vI  b0 b1 b2 b3 b4 b5 b6 b7 b8 b9 b10 b11 b12 b13 b14 b15 b16 b17 b18 b19 b20 b21 b22 b23 b24 b25 false b27 b28 b29 b30 b31 b32 b33 a0).put (some 31) (.int .i64 h) = RemD.A wr bl bh g h gs os n cs s nm lt sc kd pr z vT vB vD vI  b0 b1 b2 b3 b4 b5 b6 b7 b8 b9 b10 b11 b12 b13 b14 b15 b16 b17 b18 b19 b20 b21 b22 b23 b24 b25 true b27 b28 b29 b30 b31 b32 b33 a0 := by
  simp only [RemD.A, putIf_put, ne_eq, Nat.reduceEqDiff, not_false_eq_true]
  rfl
theorem RemD.e26 {wr : World} {bl bh g h gs os n cs s : Nat} {nm : ByteArray} {lt : Bool} {sc kd pr : Int} {z : Bool} {vT vB vD vI : Value}  {b0 b1 b2 b3 b4 b5 b6 b7 b8 b9 b10 b11 b12 b13 b14 b15 b16 b17 b18 b19 b20 b21 b22 b23 b24 b25 b27 b28 b29 b30 b31 b32 b33 : Bool} {a0 : Act} (hs : a0.tmps.size = 38) : (RemD.A wr bl bh g h gs os n cs s nm lt sc kd pr z vT vB vD vI  b0 b1 b2 b3 b4 b5 b6 b7 b8 b9 b10 b11 b12 b13 b14 b15 b16 b17 b18 b19 b20 b21 b22 b23 b24 b25 true b27 b28 b29 b30 b31 b32 b33 a0).eval (.tmp 31) = (.int .i64 h) := by
  simp [RemD.A, eval_putIf, eval_put, size_putIf, hs]
theorem RemD.p27 (wr : World) (bl bh g h gs os n cs s : Nat) (nm : ByteArray) (lt : Bool) (sc kd pr : Int) (z : Bool) (vT vB vD vI : Value)   (b0 b1 b2 b3 b4 b5 b6 b7 b8 b9 b10 b11 b12 b13 b14 b15 b16 b17 b18 b19 b20 b21 b22 b23 b24 b25 b26 b28 b29 b30 b31 b32 b33 : Bool) (a0 : Act) :
    (RemD.A wr bl bh g h gs os n cs s nm lt sc kd pr z vT vB vD vI  b0 b1 b2 b3 b4 b5 b6 b7 b8 b9 b10 b11 b12 b13 b14 b15 b16 b17 b18 b19 b20 b21 b22 b23 b24 b25 b26 false b28 b29 b30 b31 b32 b33 a0).put (some 32) (.pointer (some ⟨gs, os + h * 13, none⟩)) = RemD.A wr bl bh g h gs os n cs s nm lt sc kd pr z vT vB vD vI  b0 b1 b2 b3 b4 b5 b6 b7 b8 b9 b10 b11 b12 b13 b14 b15 b16 b17 b18 b19 b20 b21 b22 b23 b24 b25 b26 true b28 b29 b30 b31 b32 b33 a0 := by
  simp only [RemD.A, putIf_put, ne_eq, Nat.reduceEqDiff, not_false_eq_true]
  rfl
theorem RemD.e27 {wr : World} {bl bh g h gs os n cs s : Nat} {nm : ByteArray} {lt : Bool} {sc kd pr : Int} {z : Bool} {vT vB vD vI : Value}  {b0 b1 b2 b3 b4 b5 b6 b7 b8 b9 b10 b11 b12 b13 b14 b15 b16 b17 b18 b19 b20 b21 b22 b23 b24 b25 b26 b28 b29 b30 b31 b32 b33 : Bool} {a0 : Act} (hs : a0.tmps.size = 38) : (RemD.A wr bl bh g h gs os n cs s nm lt sc kd pr z vT vB vD vI  b0 b1 b2 b3 b4 b5 b6 b7 b8 b9 b10 b11 b12 b13 b14 b15 b16 b17 b18 b19 b20 b21 b22 b23 b24 b25 b26 true b28 b29 b30 b31 b32 b33 a0).eval (.tmp 32) = (.pointer (some ⟨gs, os + h * 13, none⟩)) := by
  simp [RemD.A, eval_putIf, eval_put, size_putIf, hs]
theorem RemD.p28 (wr : World) (bl bh g h gs os n cs s : Nat) (nm : ByteArray) (lt : Bool) (sc kd pr : Int) (z : Bool) (vT vB vD vI : Value)   (b0 b1 b2 b3 b4 b5 b6 b7 b8 b9 b10 b11 b12 b13 b14 b15 b16 b17 b18 b19 b20 b21 b22 b23 b24 b25 b26 b27 b29 b30 b31 b32 b33 : Bool) (a0 : Act) :
    (RemD.A wr bl bh g h gs os n cs s nm lt sc kd pr z vT vB vD vI  b0 b1 b2 b3 b4 b5 b6 b7 b8 b9 b10 b11 b12 b13 b14 b15 b16 b17 b18 b19 b20 b21 b22 b23 b24 b25 b26 b27 false b29 b30 b31 b32 b33 a0).put (some 33) (.pointer (some ⟨gs, os + h * 13 + 2, none⟩)) = RemD.A wr bl bh g h gs os n cs s nm lt sc kd pr z vT vB vD vI  b0 b1 b2 b3 b4 b5 b6 b7 b8 b9 b10 b11 b12 b13 b14 b15 b16 b17 b18 b19 b20 b21 b22 b23 b24 b25 b26 b27 true b29 b30 b31 b32 b33 a0 := by
  simp only [RemD.A, putIf_put, ne_eq, Nat.reduceEqDiff, not_false_eq_true]
  rfl
theorem RemD.e28 {wr : World} {bl bh g h gs os n cs s : Nat} {nm : ByteArray} {lt : Bool} {sc kd pr : Int} {z : Bool} {vT vB vD vI : Value}  {b0 b1 b2 b3 b4 b5 b6 b7 b8 b9 b10 b11 b12 b13 b14 b15 b16 b17 b18 b19 b20 b21 b22 b23 b24 b25 b26 b27 b29 b30 b31 b32 b33 : Bool} {a0 : Act} (hs : a0.tmps.size = 38) : (RemD.A wr bl bh g h gs os n cs s nm lt sc kd pr z vT vB vD vI  b0 b1 b2 b3 b4 b5 b6 b7 b8 b9 b10 b11 b12 b13 b14 b15 b16 b17 b18 b19 b20 b21 b22 b23 b24 b25 b26 b27 true b29 b30 b31 b32 b33 a0).eval (.tmp 33) = (.pointer (some ⟨gs, os + h * 13 + 2, none⟩)) := by
  simp [RemD.A, eval_putIf, eval_put, size_putIf, hs]
theorem RemD.p29 (wr : World) (bl bh g h gs os n cs s : Nat) (nm : ByteArray) (lt : Bool) (sc kd pr : Int) (z : Bool) (vT vB vD vI : Value)   (b0 b1 b2 b3 b4 b5 b6 b7 b8 b9 b10 b11 b12 b13 b14 b15 b16 b17 b18 b19 b20 b21 b22 b23 b24 b25 b26 b27 b28 b30 b31 b32 b33 : Bool) (a0 : Act) :
    (RemD.A wr bl bh g h gs os n cs s nm lt sc kd pr z vT vB vD vI  b0 b1 b2 b3 b4 b5 b6 b7 b8 b9 b10 b11 b12 b13 b14 b15 b16 b17 b18 b19 b20 b21 b22 b23 b24 b25 b26 b27 b28 false b30 b31 b32 b33 a0).put (some 34) (.int .i64 pr) = RemD.A wr bl bh g h gs os n cs s nm lt sc kd pr z vT vB vD vI  b0 b1 b2 b3 b4 b5 b6 b7 b8 b9 b10 b11 b12 b13 b14 b15 b16 b17 b18 b19 b20 b21 b22 b23 b24 b25 b26 b27 b28 true b30 b31 b32 b33 a0 := by
  simp only [RemD.A, putIf_put, ne_eq, Nat.reduceEqDiff, not_false_eq_true]
  rfl
theorem RemD.e29 {wr : World} {bl bh g h gs os n cs s : Nat} {nm : ByteArray} {lt : Bool} {sc kd pr : Int} {z : Bool} {vT vB vD vI : Value}  {b0 b1 b2 b3 b4 b5 b6 b7 b8 b9 b10 b11 b12 b13 b14 b15 b16 b17 b18 b19 b20 b21 b22 b23 b24 b25 b26 b27 b28 b30 b31 b32 b33 : Bool} {a0 : Act} (hs : a0.tmps.size = 38) : (RemD.A wr bl bh g h gs os n cs s nm lt sc kd pr z vT vB vD vI  b0 b1 b2 b3 b4 b5 b6 b7 b8 b9 b10 b11 b12 b13 b14 b15 b16 b17 b18 b19 b20 b21 b22 b23 b24 b25 b26 b27 b28 true b30 b31 b32 b33 a0).eval (.tmp 34) = (.int .i64 pr) := by
  simp [RemD.A, eval_putIf, eval_put, size_putIf, hs]
theorem RemD.p30 (wr : World) (bl bh g h gs os n cs s : Nat) (nm : ByteArray) (lt : Bool) (sc kd pr : Int) (z : Bool) (vT vB vD vI : Value)   (b0 b1 b2 b3 b4 b5 b6 b7 b8 b9 b10 b11 b12 b13 b14 b15 b16 b17 b18 b19 b20 b21 b22 b23 b24 b25 b26 b27 b28 b29 b31 b32 b33 : Bool) (a0 : Act) :
    (RemD.A wr bl bh g h gs os n cs s nm lt sc kd pr z vT vB vD vI  b0 b1 b2 b3 b4 b5 b6 b7 b8 b9 b10 b11 b12 b13 b14 b15 b16 b17 b18 b19 b20 b21 b22 b23 b24 b25 b26 b27 b28 b29 false b31 b32 b33 a0).put (some 35) (.bool z) = RemD.A wr bl bh g h gs os n cs s nm lt sc kd pr z vT vB vD vI  b0 b1 b2 b3 b4 b5 b6 b7 b8 b9 b10 b11 b12 b13 b14 b15 b16 b17 b18 b19 b20 b21 b22 b23 b24 b25 b26 b27 b28 b29 true b31 b32 b33 a0 := by
  simp only [RemD.A, putIf_put, ne_eq, Nat.reduceEqDiff, not_false_eq_true]
  rfl
theorem RemD.e30 {wr : World} {bl bh g h gs os n cs s : Nat} {nm : ByteArray} {lt : Bool} {sc kd pr : Int} {z : Bool} {vT vB vD vI : Value}  {b0 b1 b2 b3 b4 b5 b6 b7 b8 b9 b10 b11 b12 b13 b14 b15 b16 b17 b18 b19 b20 b21 b22 b23 b24 b25 b26 b27 b28 b29 b31 b32 b33 : Bool} {a0 : Act} (hs : a0.tmps.size = 38) : (RemD.A wr bl bh g h gs os n cs s nm lt sc kd pr z vT vB vD vI  b0 b1 b2 b3 b4 b5 b6 b7 b8 b9 b10 b11 b12 b13 b14 b15 b16 b17 b18 b19 b20 b21 b22 b23 b24 b25 b26 b27 b28 b29 true b31 b32 b33 a0).eval (.tmp 35) = (.bool z) := by
  simp [RemD.A, eval_putIf, eval_put, size_putIf, hs]
theorem RemD.p31 (wr : World) (bl bh g h gs os n cs s : Nat) (nm : ByteArray) (lt : Bool) (sc kd pr : Int) (z : Bool) (vT vB vD vI : Value)   (b0 b1 b2 b3 b4 b5 b6 b7 b8 b9 b10 b11 b12 b13 b14 b15 b16 b17 b18 b19 b20 b21 b22 b23 b24 b25 b26 b27 b28 b29 b30 b32 b33 : Bool) (a0 : Act) :
    (RemD.A wr bl bh g h gs os n cs s nm lt sc kd pr z vT vB vD vI  b0 b1 b2 b3 b4 b5 b6 b7 b8 b9 b10 b11 b12 b13 b14 b15 b16 b17 b18 b19 b20 b21 b22 b23 b24 b25 b26 b27 b28 b29 b30 false b32 b33 a0).put (some 36) (.bool !z) = RemD.A wr bl bh g h gs os n cs s nm lt sc kd pr z vT vB vD vI  b0 b1 b2 b3 b4 b5 b6 b7 b8 b9 b10 b11 b12 b13 b14 b15 b16 b17 b18 b19 b20 b21 b22 b23 b24 b25 b26 b27 b28 b29 b30 true b32 b33 a0 := by
  simp only [RemD.A, putIf_put, ne_eq, Nat.reduceEqDiff, not_false_eq_true]
  rfl
theorem RemD.e31 {wr : World} {bl bh g h gs os n cs s : Nat} {nm : ByteArray} {lt : Bool} {sc kd pr : Int} {z : Bool} {vT vB vD vI : Value}  {b0 b1 b2 b3 b4 b5 b6 b7 b8 b9 b10 b11 b12 b13 b14 b15 b16 b17 b18 b19 b20 b21 b22 b23 b24 b25 b26 b27 b28 b29 b30 b32 b33 : Bool} {a0 : Act} (hs : a0.tmps.size = 38) : (RemD.A wr bl bh g h gs os n cs s nm lt sc kd pr z vT vB vD vI  b0 b1 b2 b3 b4 b5 b6 b7 b8 b9 b10 b11 b12 b13 b14 b15 b16 b17 b18 b19 b20 b21 b22 b23 b24 b25 b26 b27 b28 b29 b30 true b32 b33 a0).eval (.tmp 36) = (.bool !z) := by
  simp [RemD.A, eval_putIf, eval_put, size_putIf, hs]
theorem RemD.p32 (wr : World) (bl bh g h gs os n cs s : Nat) (nm : ByteArray) (lt : Bool) (sc kd pr : Int) (z : Bool) (vT vB vD vI : Value)   (b0 b1 b2 b3 b4 b5 b6 b7 b8 b9 b10 b11 b12 b13 b14 b15 b16 b17 b18 b19 b20 b21 b22 b23 b24 b25 b26 b27 b28 b29 b30 b31 b33 : Bool) (a0 : Act) :
    (RemD.A wr bl bh g h gs os n cs s nm lt sc kd pr z vT vB vD vI  b0 b1 b2 b3 b4 b5 b6 b7 b8 b9 b10 b11 b12 b13 b14 b15 b16 b17 b18 b19 b20 b21 b22 b23 b24 b25 b26 b27 b28 b29 b30 b31 false b33 a0).put (some 37) (.bool !z) = RemD.A wr bl bh g h gs os n cs s nm lt sc kd pr z vT vB vD vI  b0 b1 b2 b3 b4 b5 b6 b7 b8 b9 b10 b11 b12 b13 b14 b15 b16 b17 b18 b19 b20 b21 b22 b23 b24 b25 b26 b27 b28 b29 b30 b31 true b33 a0 := by
  simp only [RemD.A, putIf_put, ne_eq, Nat.reduceEqDiff, not_false_eq_true]
  rfl
theorem RemD.e32 {wr : World} {bl bh g h gs os n cs s : Nat} {nm : ByteArray} {lt : Bool} {sc kd pr : Int} {z : Bool} {vT vB vD vI : Value}  {b0 b1 b2 b3 b4 b5 b6 b7 b8 b9 b10 b11 b12 b13 b14 b15 b16 b17 b18 b19 b20 b21 b22 b23 b24 b25 b26 b27 b28 b29 b30 b31 b33 : Bool} {a0 : Act} (hs : a0.tmps.size = 38) : (RemD.A wr bl bh g h gs os n cs s nm lt sc kd pr z vT vB vD vI  b0 b1 b2 b3 b4 b5 b6 b7 b8 b9 b10 b11 b12 b13 b14 b15 b16 b17 b18 b19 b20 b21 b22 b23 b24 b25 b26 b27 b28 b29 b30 b31 true b33 a0).eval (.tmp 37) = (.bool !z) := by
  simp [RemD.A, eval_putIf, eval_put, size_putIf, hs]
theorem RemD.p33 (wr : World) (bl bh g h gs os n cs s : Nat) (nm : ByteArray) (lt : Bool) (sc kd pr : Int) (z : Bool) (vT vB vD vI : Value)   (b0 b1 b2 b3 b4 b5 b6 b7 b8 b9 b10 b11 b12 b13 b14 b15 b16 b17 b18 b19 b20 b21 b22 b23 b24 b25 b26 b27 b28 b29 b30 b31 b32 : Bool) (a0 : Act) :
    (RemD.A wr bl bh g h gs os n cs s nm lt sc kd pr z vT vB vD vI  b0 b1 b2 b3 b4 b5 b6 b7 b8 b9 b10 b11 b12 b13 b14 b15 b16 b17 b18 b19 b20 b21 b22 b23 b24 b25 b26 b27 b28 b29 b30 b31 b32 false a0).put (some 4) (.bool !z) = RemD.A wr bl bh g h gs os n cs s nm lt sc kd pr z vT vB vD vI  b0 b1 b2 b3 b4 b5 b6 b7 b8 b9 b10 b11 b12 b13 b14 b15 b16 b17 b18 b19 b20 b21 b22 b23 b24 b25 b26 b27 b28 b29 b30 b31 b32 true a0 := by
  simp only [RemD.A, putIf_put, ne_eq, Nat.reduceEqDiff, not_false_eq_true]
  rfl
theorem RemD.e33 {wr : World} {bl bh g h gs os n cs s : Nat} {nm : ByteArray} {lt : Bool} {sc kd pr : Int} {z : Bool} {vT vB vD vI : Value}  {b0 b1 b2 b3 b4 b5 b6 b7 b8 b9 b10 b11 b12 b13 b14 b15 b16 b17 b18 b19 b20 b21 b22 b23 b24 b25 b26 b27 b28 b29 b30 b31 b32 : Bool} {a0 : Act} (hs : a0.tmps.size = 38) : (RemD.A wr bl bh g h gs os n cs s nm lt sc kd pr z vT vB vD vI  b0 b1 b2 b3 b4 b5 b6 b7 b8 b9 b10 b11 b12 b13 b14 b15 b16 b17 b18 b19 b20 b21 b22 b23 b24 b25 b26 b27 b28 b29 b30 b31 b32 true a0).eval (.tmp 4) = (.bool !z) := by
  simp [RemD.A, eval_putIf, eval_put, size_putIf, hs]
theorem RemD.z (wr : World) (bl bh g h gs os n cs s : Nat) (nm : ByteArray) (lt : Bool) (sc kd pr : Int) (z : Bool) (vT vB vD vI : Value)  (a0 : Act) : a0 = RemD.A wr bl bh g h gs os n cs s nm lt sc kd pr z vT vB vD vI  false false false false false false false false false false false false false false false false false false false false false false false false false false false false false false false false false false a0 := rfl
theorem RemD.size {wr : World} {bl bh g h gs os n cs s : Nat} {nm : ByteArray} {lt : Bool} {sc kd pr : Int} {z : Bool} {vT vB vD vI : Value}  {b0 b1 b2 b3 b4 b5 b6 b7 b8 b9 b10 b11 b12 b13 b14 b15 b16 b17 b18 b19 b20 b21 b22 b23 b24 b25 b26 b27 b28 b29 b30 b31 b32 b33 : Bool} {a0 : Act} : (RemD.A wr bl bh g h gs os n cs s nm lt sc kd pr z vT vB vD vI  b0 b1 b2 b3 b4 b5 b6 b7 b8 b9 b10 b11 b12 b13 b14 b15 b16 b17 b18 b19 b20 b21 b22 b23 b24 b25 b26 b27 b28 b29 b30 b31 b32 b33 a0).tmps.size = a0.tmps.size := by
  simp [RemD.A, size_putIf]
theorem RemD.f0 {wr : World} {bl bh g h gs os n cs s : Nat} {nm : ByteArray} {lt : Bool} {sc kd pr : Int} {z : Bool} {vT vB vD vI : Value}  {b0 b1 b2 b3 b4 b5 b6 b7 b8 b9 b10 b11 b12 b13 b14 b15 b16 b17 b18 b19 b20 b21 b22 b23 b24 b25 b26 b27 b28 b29 b30 b31 b32 b33 : Bool} {a0 : Act} : (RemD.A wr bl bh g h gs os n cs s nm lt sc kd pr z vT vB vD vI  b0 b1 b2 b3 b4 b5 b6 b7 b8 b9 b10 b11 b12 b13 b14 b15 b16 b17 b18 b19 b20 b21 b22 b23 b24 b25 b26 b27 b28 b29 b30 b31 b32 b33 a0).eval (.tmp 0) = a0.eval (.tmp 0) := by
  simp [RemD.A, eval_putIf]
theorem RemD.f1 {wr : World} {bl bh g h gs os n cs s : Nat} {nm : ByteArray} {lt : Bool} {sc kd pr : Int} {z : Bool} {vT vB vD vI : Value}  {b0 b1 b2 b3 b4 b5 b6 b7 b8 b9 b10 b11 b12 b13 b14 b15 b16 b17 b18 b19 b20 b21 b22 b23 b24 b25 b26 b27 b28 b29 b30 b31 b32 b33 : Bool} {a0 : Act} : (RemD.A wr bl bh g h gs os n cs s nm lt sc kd pr z vT vB vD vI  b0 b1 b2 b3 b4 b5 b6 b7 b8 b9 b10 b11 b12 b13 b14 b15 b16 b17 b18 b19 b20 b21 b22 b23 b24 b25 b26 b27 b28 b29 b30 b31 b32 b33 a0).eval (.tmp 1) = a0.eval (.tmp 1) := by
  simp [RemD.A, eval_putIf]
theorem RemD.f2 {wr : World} {bl bh g h gs os n cs s : Nat} {nm : ByteArray} {lt : Bool} {sc kd pr : Int} {z : Bool} {vT vB vD vI : Value}  {b0 b1 b2 b3 b4 b5 b6 b7 b8 b9 b10 b11 b12 b13 b14 b15 b16 b17 b18 b19 b20 b21 b22 b23 b24 b25 b26 b27 b28 b29 b30 b31 b32 b33 : Bool} {a0 : Act} : (RemD.A wr bl bh g h gs os n cs s nm lt sc kd pr z vT vB vD vI  b0 b1 b2 b3 b4 b5 b6 b7 b8 b9 b10 b11 b12 b13 b14 b15 b16 b17 b18 b19 b20 b21 b22 b23 b24 b25 b26 b27 b28 b29 b30 b31 b32 b33 a0).eval (.tmp 2) = a0.eval (.tmp 2) := by
  simp [RemD.A, eval_putIf]
def RemD.B (wr : World) (bl bh g h gs os n cs s : Nat) (nm : ByteArray) (lt : Bool) (sc kd pr : Int) (z : Bool) (vT vB vD vI : Value) (a0 : Act) : Prop := a0.tmps.size = 38 ∧ a0.eval (.tmp 0) = (.int .i64 s) ∧ a0.eval (.tmp 1) = (.pointer (some ⟨bl, 0, none⟩)) ∧ a0.eval (.tmp 2) = (.pointer (some ⟨bh, 0, none⟩))
def RemD.I (wr : World) (bl bh g h gs os n cs s : Nat) (nm : ByteArray) (lt : Bool) (sc kd pr : Int) (z : Bool) (vT vB vD vI : Value)  (b0 b1 b2 b3 b4 b5 b6 b7 b8 b9 b10 b11 b12 b13 b14 b15 b16 b17 b18 b19 b20 b21 b22 b23 b24 b25 b26 b27 b28 b29 b30 b31 b32 b33 : Bool) (w : World) : Prop := Fr [] wr w
/-- What stays true inside the region, whatever has come up. -/
def RemD.J (wr : World) (bl bh g h gs os n cs s : Nat) (nm : ByteArray) (lt : Bool) (sc kd pr : Int) (z : Bool) (vT vB vD vI : Value) (a0 : Act) (l : Array Bool) (a : Act) (w : World) : Prop :=
  RemD.B wr bl bh g h gs os n cs s nm lt sc kd pr z vT vB vD vI a0 ∧ ∃ b0 b1 b2 b3 b4 b5 b6 b7 b8 b9 b10 b11 b12 b13 b14 b15 b16 b17 b18 b19 b20 b21 b22 b23 b24 b25 b26 b27 b28 b29 b30 b31 b32 b33, l = #[b0, b1, b2, b3, b4, b5, b6, b7, b8, b9, b10, b11, b12, b13, b14, b15, b16, b17, b18, b19, b20, b21, b22, b23, b24, b25, b26, b27, b28, b29, b30, b31, b32, b33] ∧ a = RemD.A wr bl bh g h gs os n cs s nm lt sc kd pr z vT vB vD vI  b0 b1 b2 b3 b4 b5 b6 b7 b8 b9 b10 b11 b12 b13 b14 b15 b16 b17 b18 b19 b20 b21 b22 b23 b24 b25 b26 b27 b28 b29 b30 b31 b32 b33 a0 ∧ RemD.I wr bl bh g h gs os n cs s nm lt sc kd pr z vT vB vD vI  b0 b1 b2 b3 b4 b5 b6 b7 b8 b9 b10 b11 b12 b13 b14 b15 b16 b17 b18 b19 b20 b21 b22 b23 b24 b25 b26 b27 b28 b29 b30 b31 b32 b33 w
attribute [irreducible] RemD.A

set_option maxRecDepth 100000 in
set_option maxHeartbeats 8000000 in
theorem rem_d {Q : Exit → Act → World → Prop} {t3 t4 t5 t6 t7 t8 t9 t10 t11 t12 t13 t14 t15 t16 t17 t18 t19 t20 t21 t22 t23 t24 t25 t26 t27 t28 t29 t30 t31 t32 t33 t34 t35 t36 t37 : Value} {wr : World} {bl bh g h gs os n cs s : Nat} {nm : ByteArray} {lt : Bool} {sc kd pr : Int} {z : Bool} {vT vB vD vI : Value} (hl : wr.cell? ⟨bl, 0, none⟩ = some (.pointer (some ⟨g, 0, none⟩))) (hh : wr.cell? ⟨bh, 0, none⟩ = some (.int .i64 h)) (hc : ∀ w, Fr [] wr w → Calls Try.prog 28 #[.pointer (some ⟨g, 0, none⟩)] w fun e w' => e = .returned (.agg #[.string nm, .bool lt, .int .i64 sc, .slice (some ⟨gs, os, none⟩) n cs, vT, vB, vD, vI]) ∧ Fr [] wr w') (hk : wr.cell? ⟨gs, os + s * 13 + 1, none⟩ = some (.int .i64 kd)) (hp : wr.cell? ⟨gs, os + h * 13 + 2, none⟩ = some (.int .i64 pr)) (hi : ∀ w, Fr [] wr w → Calls Try.prog 29 #[.pointer (some ⟨g, 0, none⟩), .int .i64 s, .int .i64 pr] w fun e w' => e = .returned (.bool z) ∧ Fr [] wr w') (hs0 : 1 ≤ s) (hsn : s < n) (hhn : h < n) (hk4 : ¬ 4 ≤ kd)
    (hQ : ∀ (u4 u5 u6 u7 u8 u9 u10 u11 u12 u13 u14 u15 u16 u17 u18 u19 u20 u21 u22 u23 u24 u25 u26 u27 u28 u29 u30 u31 u32 u33 u34 u35 u36 u37 : Value) (wx : World), (Fr [] wr wx ∧ u4 = .bool (!z)) → Q .normal ⟨#[(.int .i64 s), (.pointer (some ⟨bl, 0, none⟩)), (.pointer (some ⟨bh, 0, none⟩)), t3, u4, u5, u6, u7, u8, u9, u10, u11, u12, u13, u14, u15, u16, u17, u18, u19, u20, u21, u22, u23, u24, u25, u26, u27, u28, u29, u30, u31, u32, u33, u34, u35, u36, u37], []⟩ wx) :
    (regAt Try.f122 1).wp Try.prog Q ⟨#[(.int .i64 s), (.pointer (some ⟨bl, 0, none⟩)), (.pointer (some ⟨bh, 0, none⟩)), t3, t4, t5, t6, t7, t8, t9, t10, t11, t12, t13, t14, t15, t16, t17, t18, t19, t20, t21, t22, t23, t24, t25, t26, t27, t28, t29, t30, t31, t32, t33, t34, t35, t36, t37], []⟩ wr := by
  have p0 : (0 : Int) ≤ (s : Int) := by omega
  have p1 : (s : Int) < (n : Int) := by omega
  have p2 : (0 : Int) ≤ (h : Int) := by omega
  have p3 : (h : Int) < (n : Int) := by omega
  have p4 : ¬ (s : Int) < 1 := by omega
  have p5 : ¬ (n : Int) ≤ (s : Int) := by omega
  have fd := fun w => run_field28_3 (.string nm) (.bool lt) (.int .i64 sc) (.slice (some ⟨gs, os, none⟩) n cs) vT vB vD vI w
  have hkd : decide (4 ≤ kd) = false := by simpa using hk4
  refine Code.wp_mono (Q := OnlyN (fun a w => Q .normal a w)) onlyN_imp ?_
  conv => arg 2; whnf
  dsimp only
  refine region_inv (by kernel_rfl) (fun a0 l a w => RemD.J wr bl bh g h gs os n cs s nm lt sc kd pr z vT vB vD vI a0 l a w) ?_ ?_ ?_
  · exact ⟨⟨rfl, rfl, rfl, rfl⟩, false, false, false, false, false, false, false, false, false, false, false, false, false, false, false, false, false, false, false, false, false, false, false, false, false, false, false, false, false, false, false, false, false, false, rfl, RemD.z .., (Fr.refl _ _).drew⟩
  · intro l a' w' hJ hi
    obtain ⟨-, b0, b1, b2, b3, b4, b5, b6, b7, b8, b9, b10, b11, b12, b13, b14, b15, b16, b17, b18, b19, b20, b21, b22, b23, b24, b25, b26, b27, b28, b29, b30, b31, b32, b33, rfl, rfl, hinv⟩ := hJ
    have t0 : b0 = true := ready_nil hi 0 (by decide) (by simp [Region.binds])
    have t1 : b1 = true := ready_nil hi 1 (by decide) (by simp [Region.binds, t0])
    have t2 : b2 = true := ready_nil hi 2 (by decide) (by simp [Region.binds, t1])
    have t3 : b3 = true := ready_nil hi 3 (by decide) (by simp [Region.binds, t2])
    have t4 : b4 = true := ready_nil hi 4 (by decide) (by simp [Region.binds, t2])
    have t5 : b5 = true := ready_nil hi 5 (by decide) (by simp [Region.binds, t2, t4])
    have t6 : b6 = true := ready_nil hi 6 (by decide) (by simp [Region.binds, t2, t5])
    have t7 : b7 = true := ready_nil hi 7 (by decide) (by simp [Region.binds, t2, t6])
    have t8 : b8 = true := ready_nil hi 8 (by decide) (by simp [Region.binds, t2, t3, t7])
    have t9 : b9 = true := ready_nil hi 9 (by decide) (by simp [Region.binds, t2, t8])
    have t10 : b10 = true := ready_nil hi 10 (by decide) (by simp [Region.binds, t5, t9])
    have t11 : b11 = true := ready_nil hi 11 (by decide) (by simp [Region.binds, t10])
    have t12 : b12 = true := ready_nil hi 12 (by decide) (by simp [Region.binds, t10, t11])
    have t13 : b13 = true := ready_nil hi 13 (by decide) (by simp [Region.binds, t10, t12])
    have t14 : b14 = true := ready_nil hi 14 (by decide) (by simp [Region.binds, t10])
    have t15 : b15 = true := ready_nil hi 15 (by decide) (by simp [Region.binds, t10, t13, t14])
    have t16 : b16 = true := ready_nil hi 16 (by decide) (by simp [Region.binds, t10, t15])
    have t17 : b17 = true := ready_nil hi 17 (by decide) (by simp [Region.binds, t10, t16])
    have t18 : b18 = true := ready_nil hi 18 (by decide) (by simp [Region.binds, t10, t17])
    have t19 : b19 = true := ready_nil hi 19 (by decide) (by simp [Region.binds, t10, t18])
    have t20 : b20 = true := ready_nil hi 20 (by decide) (by simp [Region.binds, t12, t19])
    have t21 : b21 = true := ready_nil hi 21 (by decide) (by simp [Region.binds, t20])
    have t22 : b22 = true := ready_nil hi 22 (by decide) (by simp [Region.binds, t20])
    have t23 : b23 = true := ready_nil hi 23 (by decide) (by simp [Region.binds, t20])
    have t24 : b24 = true := ready_nil hi 24 (by decide) (by simp [Region.binds, t20, t23])
    have t25 : b25 = true := ready_nil hi 25 (by decide) (by simp [Region.binds, t20, t24])
    have t26 : b26 = true := ready_nil hi 26 (by decide) (by simp [Region.binds, t20])
    have t27 : b27 = true := ready_nil hi 27 (by decide) (by simp [Region.binds, t20, t25, t26])
    have t28 : b28 = true := ready_nil hi 28 (by decide) (by simp [Region.binds, t20, t27])
    have t29 : b29 = true := ready_nil hi 29 (by decide) (by simp [Region.binds, t20, t28])
    have t30 : b30 = true := ready_nil hi 30 (by decide) (by simp [Region.binds, t20, t21, t22, t24, t29])
    have t31 : b31 = true := ready_nil hi 31 (by decide) (by simp [Region.binds, t20, t30])
    have t32 : b32 = true := ready_nil hi 32 (by decide) (by simp [Region.binds, t20, t31])
    have t33 : b33 = true := ready_nil hi 33 (by decide) (by simp [Region.binds, t0, t1, t2, t3, t4, t5, t6, t7, t8, t9, t10, t11, t12, t13, t14, t15, t16, t17, t18, t19, t20, t21, t22, t23, t24, t25, t26, t27, t28, t29, t30, t31, t32])
    subst t0 t1 t2 t3 t4 t5 t6 t7 t8 t9 t10 t11 t12 t13 t14 t15 t16 t17 t18 t19 t20 t21 t22 t23 t24 t25 t26 t27 t28 t29 t30 t31 t32 t33
    clear hi
    simp only [OnlyN, RemD.A, putIf_true, Act.put, List.setIfInBounds_toArray, List.set_cons_zero, List.set_cons_succ]
    exact hQ _ _ _ _ _ _ _ _ _ _ _ _ _ _ _ _ _ _ _ _ _ _ _ _ _ _ _ _ _ _ _ _ _ _ _ ⟨hinv, rfl⟩
  · intro a0 l a' w' i hJ hi
    obtain ⟨hB, b0, b1, b2, b3, b4, b5, b6, b7, b8, b9, b10, b11, b12, b13, b14, b15, b16, b17, b18, b19, b20, b21, b22, b23, b24, b25, b26, b27, b28, b29, b30, b31, b32, b33, rfl, rfl, hinv⟩ := hJ
    have hBB := hB
    obtain ⟨hs0, g0, g1, g2⟩ := hBB
    obtain ⟨h10, hlf, haf⟩ := mem_ready hi
    clear hi
    have hc : i = 0 ∨ i = 1 ∨ i = 2 ∨ i = 3 ∨ i = 4 ∨ i = 5 ∨ i = 6 ∨ i = 7 ∨ i = 8 ∨ i = 9 ∨ i = 10 ∨ i = 11 ∨ i = 12 ∨ i = 13 ∨ i = 14 ∨ i = 15 ∨ i = 16 ∨ i = 17 ∨ i = 18 ∨ i = 19 ∨ i = 20 ∨ i = 21 ∨ i = 22 ∨ i = 23 ∨ i = 24 ∨ i = 25 ∨ i = 26 ∨ i = 27 ∨ i = 28 ∨ i = 29 ∨ i = 30 ∨ i = 31 ∨ i = 32 ∨ i = 33 := by
      have : i < 34 := h10
      omega
    clear h10
    rcases hc with rfl | rfl | rfl | rfl | rfl | rfl | rfl | rfl | rfl | rfl | rfl | rfl | rfl | rfl | rfl | rfl | rfl | rfl | rfl | rfl | rfl | rfl | rfl | rfl | rfl | rfl | rfl | rfl | rfl | rfl | rfl | rfl | rfl | rfl
    · obtain rfl : b0 = false := by simpa using hlf
      refine wpOp_at rfl rfl ?_
      simp only [List.getElem_toArray, List.getElem_cons_zero, List.getElem_cons_succ]
      refine op_val (v := (.int .i64 s)) ?_ (show RemD.J wr bl bh g h gs os n cs s nm lt sc kd pr z vT vB vD vI a0 _ _ _ from ⟨hB, true, b1, b2, b3, b4, b5, b6, b7, b8, b9, b10, b11, b12, b13, b14, b15, b16, b17, b18, b19, b20, b21, b22, b23, b24, b25, b26, b27, b28, b29, b30, b31, b32, b33, rfl, RemD.p0 .., hinv⟩)
      simp only [execOp, RemD.f0, g0]
      have K0 := cell_on (W := wr) hinv hl
      have K1 := cell_on (W := wr) hinv hh
      have K2 := cell_on (W := wr) hinv hk
      have K3 := cell_on (W := wr) hinv hp
      go_simp
    · obtain rfl : b1 = false := by simpa using hlf
      refine wpOp_at rfl rfl ?_
      simp only [List.getElem_toArray, List.getElem_cons_zero, List.getElem_cons_succ]
      simp [Region.binds] at haf
      subst haf
      refine op_val (v := (.bool false)) ?_ (show RemD.J wr bl bh g h gs os n cs s nm lt sc kd pr z vT vB vD vI a0 _ _ _ from ⟨hB, true, true, b2, b3, b4, b5, b6, b7, b8, b9, b10, b11, b12, b13, b14, b15, b16, b17, b18, b19, b20, b21, b22, b23, b24, b25, b26, b27, b28, b29, b30, b31, b32, b33, rfl, RemD.p1 .., hinv⟩)
      simp only [execOp, RemD.e0 hs0]
      have K0 := cell_on (W := wr) hinv hl
      have K1 := cell_on (W := wr) hinv hh
      have K2 := cell_on (W := wr) hinv hk
      have K3 := cell_on (W := wr) hinv hp
      go_simp
    · obtain rfl : b2 = false := by simpa using hlf
      refine wpOp_at rfl rfl ?_
      simp only [List.getElem_toArray, List.getElem_cons_zero, List.getElem_cons_succ]
      simp [Region.binds] at haf
      subst haf
      refine op_val (v := (.bool false)) ?_ (show RemD.J wr bl bh g h gs os n cs s nm lt sc kd pr z vT vB vD vI a0 _ _ _ from ⟨hB, b0, true, true, b3, b4, b5, b6, b7, b8, b9, b10, b11, b12, b13, b14, b15, b16, b17, b18, b19, b20, b21, b22, b23, b24, b25, b26, b27, b28, b29, b30, b31, b32, b33, rfl, RemD.p2 .., hinv⟩)
      simp only [execOp, RemD.e1 hs0]
      have K0 := cell_on (W := wr) hinv hl
      have K1 := cell_on (W := wr) hinv hh
      have K2 := cell_on (W := wr) hinv hk
      have K3 := cell_on (W := wr) hinv hp
      go_simp
    · obtain rfl : b3 = false := by simpa using hlf
      simp [Region.binds] at haf
      subst haf
      refine wpOp_guard rfl rfl (yielded_of rfl rfl (by rw [RemD.size, hs0]; decide) (RemD.e2 hs0)) ?_
      simp only [List.getElem_toArray, List.getElem_cons_zero, List.getElem_cons_succ]
      refine op_val (v := (.int .i64 s)) ?_ (show RemD.J wr bl bh g h gs os n cs s nm lt sc kd pr z vT vB vD vI a0 _ _ _ from ⟨hB, b0, b1, true, true, b4, b5, b6, b7, b8, b9, b10, b11, b12, b13, b14, b15, b16, b17, b18, b19, b20, b21, b22, b23, b24, b25, b26, b27, b28, b29, b30, b31, b32, b33, rfl, RemD.p3 .., hinv⟩)
      simp only [execOp, RemD.f0, g0]
      have K0 := cell_on (W := wr) hinv hl
      have K1 := cell_on (W := wr) hinv hh
      have K2 := cell_on (W := wr) hinv hk
      have K3 := cell_on (W := wr) hinv hp
      go_simp
    · obtain rfl : b4 = false := by simpa using hlf
      simp [Region.binds] at haf
      subst haf
      refine wpOp_guard rfl rfl (yielded_of rfl rfl (by rw [RemD.size, hs0]; decide) (RemD.e2 hs0)) ?_
      simp only [List.getElem_toArray, List.getElem_cons_zero, List.getElem_cons_succ]
      refine op_val (v := (.pointer (some ⟨g, 0, none⟩))) ?_ (show RemD.J wr bl bh g h gs os n cs s nm lt sc kd pr z vT vB vD vI a0 _ _ _ from ⟨hB, b0, b1, true, b3, true, b5, b6, b7, b8, b9, b10, b11, b12, b13, b14, b15, b16, b17, b18, b19, b20, b21, b22, b23, b24, b25, b26, b27, b28, b29, b30, b31, b32, b33, rfl, RemD.p4 .., hinv⟩)
      simp only [execOp, RemD.f1, g1]
      have K0 := cell_on (W := wr) hinv hl
      have K1 := cell_on (W := wr) hinv hh
      have K2 := cell_on (W := wr) hinv hk
      have K3 := cell_on (W := wr) hinv hp
      go_simp
    · obtain rfl : b5 = false := by simpa using hlf
      simp [Region.binds] at haf
      obtain ⟨a0, a1⟩ := haf
      subst a0 a1
      refine wpOp_guard rfl rfl (yielded_of rfl rfl (by rw [RemD.size, hs0]; decide) (RemD.e2 hs0)) ?_
      simp only [List.getElem_toArray, List.getElem_cons_zero, List.getElem_cons_succ]
      have hF : Fr [] wr w' := hinv
      refine op_call (f := 28) rfl (vs := #[(.pointer (some ⟨g, 0, none⟩))]) (by simp [RemD.e4 hs0]) (fun w => enters_of Try.func28 (by kernel_rfl) rfl _ w) ?_
      refine (hc _ hF).mono ?_
      rintro e w3 ⟨rfl, hinv⟩
      exact ⟨_, rfl, (show RemD.J wr bl bh g h gs os n cs s nm lt sc kd pr z vT vB vD vI a0 _ _ _ from ⟨hB, b0, b1, true, b3, true, true, b6, b7, b8, b9, b10, b11, b12, b13, b14, b15, b16, b17, b18, b19, b20, b21, b22, b23, b24, b25, b26, b27, b28, b29, b30, b31, b32, b33, rfl, RemD.p5 .., hinv⟩)⟩
    · obtain rfl : b6 = false := by simpa using hlf
      simp [Region.binds] at haf
      obtain ⟨a0, a1⟩ := haf
      subst a0 a1
      refine wpOp_guard rfl rfl (yielded_of rfl rfl (by rw [RemD.size, hs0]; decide) (RemD.e2 hs0)) ?_
      simp only [List.getElem_toArray, List.getElem_cons_zero, List.getElem_cons_succ]
      refine op_val (v := (.slice (some ⟨gs, os, none⟩) n cs)) ?_ (show RemD.J wr bl bh g h gs os n cs s nm lt sc kd pr z vT vB vD vI a0 _ _ _ from ⟨hB, b0, b1, true, b3, b4, true, true, b7, b8, b9, b10, b11, b12, b13, b14, b15, b16, b17, b18, b19, b20, b21, b22, b23, b24, b25, b26, b27, b28, b29, b30, b31, b32, b33, rfl, RemD.p6 .., hinv⟩)
      simp only [execOp, RemD.e5 hs0]
      have K0 := cell_on (W := wr) hinv hl
      have K1 := cell_on (W := wr) hinv hh
      have K2 := cell_on (W := wr) hinv hk
      have K3 := cell_on (W := wr) hinv hp
      go_simp
    · obtain rfl : b7 = false := by simpa using hlf
      simp [Region.binds] at haf
      obtain ⟨a0, a1⟩ := haf
      subst a0 a1
      refine wpOp_guard rfl rfl (yielded_of rfl rfl (by rw [RemD.size, hs0]; decide) (RemD.e2 hs0)) ?_
      simp only [List.getElem_toArray, List.getElem_cons_zero, List.getElem_cons_succ]
      refine op_val (v := (.int .i64 n)) ?_ (show RemD.J wr bl bh g h gs os n cs s nm lt sc kd pr z vT vB vD vI a0 _ _ _ from ⟨hB, b0, b1, true, b3, b4, b5, true, true, b8, b9, b10, b11, b12, b13, b14, b15, b16, b17, b18, b19, b20, b21, b22, b23, b24, b25, b26, b27, b28, b29, b30, b31, b32, b33, rfl, RemD.p7 .., hinv⟩)
      simp only [execOp, RemD.e6 hs0]
      have K0 := cell_on (W := wr) hinv hl
      have K1 := cell_on (W := wr) hinv hh
      have K2 := cell_on (W := wr) hinv hk
      have K3 := cell_on (W := wr) hinv hp
      go_simp
      rw [show ∀ a : Act, a.tmps[11]?.getD undef = a.eval (.tmp 11) from fun _ => by simp [Act.eval], RemD.e6 hs0]
      go_simp
    · obtain rfl : b8 = false := by simpa using hlf
      simp [Region.binds] at haf
      obtain ⟨a0, a1, a2⟩ := haf
      subst a0 a1 a2
      refine wpOp_guard rfl rfl (yielded_of rfl rfl (by rw [RemD.size, hs0]; decide) (RemD.e2 hs0)) ?_
      simp only [List.getElem_toArray, List.getElem_cons_zero, List.getElem_cons_succ]
      refine op_val (v := (.bool false)) ?_ (show RemD.J wr bl bh g h gs os n cs s nm lt sc kd pr z vT vB vD vI a0 _ _ _ from ⟨hB, b0, b1, true, true, b4, b5, b6, true, true, b9, b10, b11, b12, b13, b14, b15, b16, b17, b18, b19, b20, b21, b22, b23, b24, b25, b26, b27, b28, b29, b30, b31, b32, b33, rfl, RemD.p8 .., hinv⟩)
      simp only [execOp, RemD.e3 hs0, RemD.e7 hs0]
      have K0 := cell_on (W := wr) hinv hl
      have K1 := cell_on (W := wr) hinv hh
      have K2 := cell_on (W := wr) hinv hk
      have K3 := cell_on (W := wr) hinv hp
      go_simp
    · obtain rfl : b9 = false := by simpa using hlf
      refine wpOp_at rfl rfl ?_
      simp only [List.getElem_toArray, List.getElem_cons_zero, List.getElem_cons_succ]
      simp [Region.binds] at haf
      obtain ⟨a0, a1⟩ := haf
      subst a0 a1
      refine op_val (v := (.bool false)) ?_ (show RemD.J wr bl bh g h gs os n cs s nm lt sc kd pr z vT vB vD vI a0 _ _ _ from ⟨hB, b0, b1, true, b3, b4, b5, b6, b7, true, true, b10, b11, b12, b13, b14, b15, b16, b17, b18, b19, b20, b21, b22, b23, b24, b25, b26, b27, b28, b29, b30, b31, b32, b33, rfl, RemD.p9 .., hinv⟩)
      simp only [execOp, RemD.e2 hs0, RemD.e8 hs0]
      have K0 := cell_on (W := wr) hinv hl
      have K1 := cell_on (W := wr) hinv hh
      have K2 := cell_on (W := wr) hinv hk
      have K3 := cell_on (W := wr) hinv hp
      go_simp
    · obtain rfl : b10 = false := by simpa using hlf
      refine wpOp_at rfl rfl ?_
      simp only [List.getElem_toArray, List.getElem_cons_zero, List.getElem_cons_succ]
      simp [Region.binds] at haf
      obtain ⟨a0, a1⟩ := haf
      subst a0 a1
      refine op_val (v := (.bool false)) ?_ (show RemD.J wr bl bh g h gs os n cs s nm lt sc kd pr z vT vB vD vI a0 _ _ _ from ⟨hB, b0, b1, b2, b3, b4, true, b6, b7, b8, true, true, b11, b12, b13, b14, b15, b16, b17, b18, b19, b20, b21, b22, b23, b24, b25, b26, b27, b28, b29, b30, b31, b32, b33, rfl, RemD.p10 .., hinv⟩)
      simp only [execOp, RemD.e9 hs0]
      have K0 := cell_on (W := wr) hinv hl
      have K1 := cell_on (W := wr) hinv hh
      have K2 := cell_on (W := wr) hinv hk
      have K3 := cell_on (W := wr) hinv hp
      go_simp
    · obtain rfl : b11 = false := by simpa using hlf
      simp [Region.binds] at haf
      subst haf
      refine wpOp_guard rfl rfl (yielded_of rfl rfl (by rw [RemD.size, hs0]; decide) (RemD.e10 hs0)) ?_
      simp only [List.getElem_toArray, List.getElem_cons_zero, List.getElem_cons_succ]
      refine op_val (v := (.pointer (some ⟨g, 0, none⟩))) ?_ (show RemD.J wr bl bh g h gs os n cs s nm lt sc kd pr z vT vB vD vI a0 _ _ _ from ⟨hB, b0, b1, b2, b3, b4, b5, b6, b7, b8, b9, true, true, b12, b13, b14, b15, b16, b17, b18, b19, b20, b21, b22, b23, b24, b25, b26, b27, b28, b29, b30, b31, b32, b33, rfl, RemD.p11 .., hinv⟩)
      simp only [execOp, RemD.f1, g1]
      have K0 := cell_on (W := wr) hinv hl
      have K1 := cell_on (W := wr) hinv hh
      have K2 := cell_on (W := wr) hinv hk
      have K3 := cell_on (W := wr) hinv hp
      go_simp
    · obtain rfl : b12 = false := by simpa using hlf
      simp [Region.binds] at haf
      obtain ⟨a0, a1⟩ := haf
      subst a0 a1
      refine wpOp_guard rfl rfl (yielded_of rfl rfl (by rw [RemD.size, hs0]; decide) (RemD.e10 hs0)) ?_
      simp only [List.getElem_toArray, List.getElem_cons_zero, List.getElem_cons_succ]
      have hF : Fr [] wr w' := hinv
      refine op_call (f := 28) rfl (vs := #[(.pointer (some ⟨g, 0, none⟩))]) (by simp [RemD.e11 hs0]) (fun w => enters_of Try.func28 (by kernel_rfl) rfl _ w) ?_
      refine (hc _ hF).mono ?_
      rintro e w3 ⟨rfl, hinv⟩
      exact ⟨_, rfl, (show RemD.J wr bl bh g h gs os n cs s nm lt sc kd pr z vT vB vD vI a0 _ _ _ from ⟨hB, b0, b1, b2, b3, b4, b5, b6, b7, b8, b9, true, true, true, b13, b14, b15, b16, b17, b18, b19, b20, b21, b22, b23, b24, b25, b26, b27, b28, b29, b30, b31, b32, b33, rfl, RemD.p12 .., hinv⟩)⟩
    · obtain rfl : b13 = false := by simpa using hlf
      simp [Region.binds] at haf
      obtain ⟨a0, a1⟩ := haf
      subst a0 a1
      refine wpOp_guard rfl rfl (yielded_of rfl rfl (by rw [RemD.size, hs0]; decide) (RemD.e10 hs0)) ?_
      simp only [List.getElem_toArray, List.getElem_cons_zero, List.getElem_cons_succ]
      refine op_val (v := (.slice (some ⟨gs, os, none⟩) n cs)) ?_ (show RemD.J wr bl bh g h gs os n cs s nm lt sc kd pr z vT vB vD vI a0 _ _ _ from ⟨hB, b0, b1, b2, b3, b4, b5, b6, b7, b8, b9, true, b11, true, true, b14, b15, b16, b17, b18, b19, b20, b21, b22, b23, b24, b25, b26, b27, b28, b29, b30, b31, b32, b33, rfl, RemD.p13 .., hinv⟩)
      simp only [execOp, RemD.e12 hs0]
      have K0 := cell_on (W := wr) hinv hl
      have K1 := cell_on (W := wr) hinv hh
      have K2 := cell_on (W := wr) hinv hk
      have K3 := cell_on (W := wr) hinv hp
      go_simp
    · obtain rfl : b14 = false := by simpa using hlf
      simp [Region.binds] at haf
      subst haf
      refine wpOp_guard rfl rfl (yielded_of rfl rfl (by rw [RemD.size, hs0]; decide) (RemD.e10 hs0)) ?_
      simp only [List.getElem_toArray, List.getElem_cons_zero, List.getElem_cons_succ]
      refine op_val (v := (.int .i64 s)) ?_ (show RemD.J wr bl bh g h gs os n cs s nm lt sc kd pr z vT vB vD vI a0 _ _ _ from ⟨hB, b0, b1, b2, b3, b4, b5, b6, b7, b8, b9, true, b11, b12, b13, true, b15, b16, b17, b18, b19, b20, b21, b22, b23, b24, b25, b26, b27, b28, b29, b30, b31, b32, b33, rfl, RemD.p14 .., hinv⟩)
      simp only [execOp, RemD.f0, g0]
      have K0 := cell_on (W := wr) hinv hl
      have K1 := cell_on (W := wr) hinv hh
      have K2 := cell_on (W := wr) hinv hk
      have K3 := cell_on (W := wr) hinv hp
      go_simp
    · obtain rfl : b15 = false := by simpa using hlf
      simp [Region.binds] at haf
      obtain ⟨a0, a1, a2⟩ := haf
      subst a0 a1 a2
      refine wpOp_guard rfl rfl (yielded_of rfl rfl (by rw [RemD.size, hs0]; decide) (RemD.e10 hs0)) ?_
      simp only [List.getElem_toArray, List.getElem_cons_zero, List.getElem_cons_succ]
      refine op_val (v := (.pointer (some ⟨gs, os + s * 13, none⟩))) ?_ (show RemD.J wr bl bh g h gs os n cs s nm lt sc kd pr z vT vB vD vI a0 _ _ _ from ⟨hB, b0, b1, b2, b3, b4, b5, b6, b7, b8, b9, true, b11, b12, true, true, true, b16, b17, b18, b19, b20, b21, b22, b23, b24, b25, b26, b27, b28, b29, b30, b31, b32, b33, rfl, RemD.p15 .., hinv⟩)
      simp only [execOp, RemD.e13 hs0, RemD.e14 hs0]
      have K0 := cell_on (W := wr) hinv hl
      have K1 := cell_on (W := wr) hinv hh
      have K2 := cell_on (W := wr) hinv hk
      have K3 := cell_on (W := wr) hinv hp
      go_simp
    · obtain rfl : b16 = false := by simpa using hlf
      simp [Region.binds] at haf
      obtain ⟨a0, a1⟩ := haf
      subst a0 a1
      refine wpOp_guard rfl rfl (yielded_of rfl rfl (by rw [RemD.size, hs0]; decide) (RemD.e10 hs0)) ?_
      simp only [List.getElem_toArray, List.getElem_cons_zero, List.getElem_cons_succ]
      refine op_val (v := (.pointer (some ⟨gs, os + s * 13 + 1, none⟩))) ?_ (show RemD.J wr bl bh g h gs os n cs s nm lt sc kd pr z vT vB vD vI a0 _ _ _ from ⟨hB, b0, b1, b2, b3, b4, b5, b6, b7, b8, b9, true, b11, b12, b13, b14, true, true, b17, b18, b19, b20, b21, b22, b23, b24, b25, b26, b27, b28, b29, b30, b31, b32, b33, rfl, RemD.p16 .., hinv⟩)
      simp only [execOp, RemD.e15 hs0]
      have K0 := cell_on (W := wr) hinv hl
      have K1 := cell_on (W := wr) hinv hh
      have K2 := cell_on (W := wr) hinv hk
      have K3 := cell_on (W := wr) hinv hp
      go_simp
    · obtain rfl : b17 = false := by simpa using hlf
      simp [Region.binds] at haf
      obtain ⟨a0, a1⟩ := haf
      subst a0 a1
      refine wpOp_guard rfl rfl (yielded_of rfl rfl (by rw [RemD.size, hs0]; decide) (RemD.e10 hs0)) ?_
      simp only [List.getElem_toArray, List.getElem_cons_zero, List.getElem_cons_succ]
      refine op_val (v := (.int .i64 kd)) ?_ (show RemD.J wr bl bh g h gs os n cs s nm lt sc kd pr z vT vB vD vI a0 _ _ _ from ⟨hB, b0, b1, b2, b3, b4, b5, b6, b7, b8, b9, true, b11, b12, b13, b14, b15, true, true, b18, b19, b20, b21, b22, b23, b24, b25, b26, b27, b28, b29, b30, b31, b32, b33, rfl, RemD.p17 .., hinv⟩)
      simp only [execOp, RemD.e16 hs0]
      have K0 := cell_on (W := wr) hinv hl
      have K1 := cell_on (W := wr) hinv hh
      have K2 := cell_on (W := wr) hinv hk
      have K3 := cell_on (W := wr) hinv hp
      go_simp
    · obtain rfl : b18 = false := by simpa using hlf
      simp [Region.binds] at haf
      obtain ⟨a0, a1⟩ := haf
      subst a0 a1
      refine wpOp_guard rfl rfl (yielded_of rfl rfl (by rw [RemD.size, hs0]; decide) (RemD.e10 hs0)) ?_
      simp only [List.getElem_toArray, List.getElem_cons_zero, List.getElem_cons_succ]
      refine op_val (v := (.bool false)) ?_ (show RemD.J wr bl bh g h gs os n cs s nm lt sc kd pr z vT vB vD vI a0 _ _ _ from ⟨hB, b0, b1, b2, b3, b4, b5, b6, b7, b8, b9, true, b11, b12, b13, b14, b15, b16, true, true, b19, b20, b21, b22, b23, b24, b25, b26, b27, b28, b29, b30, b31, b32, b33, rfl, RemD.p18 .., hinv⟩)
      simp only [execOp, RemD.e17 hs0]
      have K0 := cell_on (W := wr) hinv hl
      have K1 := cell_on (W := wr) hinv hh
      have K2 := cell_on (W := wr) hinv hk
      have K3 := cell_on (W := wr) hinv hp
      go_simp
    · obtain rfl : b19 = false := by simpa using hlf
      refine wpOp_at rfl rfl ?_
      simp only [List.getElem_toArray, List.getElem_cons_zero, List.getElem_cons_succ]
      simp [Region.binds] at haf
      obtain ⟨a0, a1⟩ := haf
      subst a0 a1
      refine op_val (v := (.bool false)) ?_ (show RemD.J wr bl bh g h gs os n cs s nm lt sc kd pr z vT vB vD vI a0 _ _ _ from ⟨hB, b0, b1, b2, b3, b4, b5, b6, b7, b8, b9, true, b11, b12, b13, b14, b15, b16, b17, true, true, b20, b21, b22, b23, b24, b25, b26, b27, b28, b29, b30, b31, b32, b33, rfl, RemD.p19 .., hinv⟩)
      simp only [execOp, RemD.e10 hs0, RemD.e18 hs0]
      have K0 := cell_on (W := wr) hinv hl
      have K1 := cell_on (W := wr) hinv hh
      have K2 := cell_on (W := wr) hinv hk
      have K3 := cell_on (W := wr) hinv hp
      go_simp
    · obtain rfl : b20 = false := by simpa using hlf
      refine wpOp_at rfl rfl ?_
      simp only [List.getElem_toArray, List.getElem_cons_zero, List.getElem_cons_succ]
      simp [Region.binds] at haf
      obtain ⟨a0, a1⟩ := haf
      subst a0 a1
      refine op_val (v := (.bool false)) ?_ (show RemD.J wr bl bh g h gs os n cs s nm lt sc kd pr z vT vB vD vI a0 _ _ _ from ⟨hB, b0, b1, b2, b3, b4, b5, b6, b7, b8, b9, b10, b11, true, b13, b14, b15, b16, b17, b18, true, true, b21, b22, b23, b24, b25, b26, b27, b28, b29, b30, b31, b32, b33, rfl, RemD.p20 .., hinv⟩)
      simp only [execOp, RemD.e19 hs0]
      have K0 := cell_on (W := wr) hinv hl
      have K1 := cell_on (W := wr) hinv hh
      have K2 := cell_on (W := wr) hinv hk
      have K3 := cell_on (W := wr) hinv hp
      go_simp
    · obtain rfl : b21 = false := by simpa using hlf
      simp [Region.binds] at haf
      subst haf
      refine wpOp_guard rfl rfl (yielded_of rfl rfl (by rw [RemD.size, hs0]; decide) (RemD.e20 hs0)) ?_
      simp only [List.getElem_toArray, List.getElem_cons_zero, List.getElem_cons_succ]
      refine op_val (v := (.pointer (some ⟨g, 0, none⟩))) ?_ (show RemD.J wr bl bh g h gs os n cs s nm lt sc kd pr z vT vB vD vI a0 _ _ _ from ⟨hB, b0, b1, b2, b3, b4, b5, b6, b7, b8, b9, b10, b11, b12, b13, b14, b15, b16, b17, b18, b19, true, true, b22, b23, b24, b25, b26, b27, b28, b29, b30, b31, b32, b33, rfl, RemD.p21 .., hinv⟩)
      simp only [execOp, RemD.f1, g1]
      have K0 := cell_on (W := wr) hinv hl
      have K1 := cell_on (W := wr) hinv hh
      have K2 := cell_on (W := wr) hinv hk
      have K3 := cell_on (W := wr) hinv hp
      go_simp
    · obtain rfl : b22 = false := by simpa using hlf
      simp [Region.binds] at haf
      subst haf
      refine wpOp_guard rfl rfl (yielded_of rfl rfl (by rw [RemD.size, hs0]; decide) (RemD.e20 hs0)) ?_
      simp only [List.getElem_toArray, List.getElem_cons_zero, List.getElem_cons_succ]
      refine op_val (v := (.int .i64 s)) ?_ (show RemD.J wr bl bh g h gs os n cs s nm lt sc kd pr z vT vB vD vI a0 _ _ _ from ⟨hB, b0, b1, b2, b3, b4, b5, b6, b7, b8, b9, b10, b11, b12, b13, b14, b15, b16, b17, b18, b19, true, b21, true, b23, b24, b25, b26, b27, b28, b29, b30, b31, b32, b33, rfl, RemD.p22 .., hinv⟩)
      simp only [execOp, RemD.f0, g0]
      have K0 := cell_on (W := wr) hinv hl
      have K1 := cell_on (W := wr) hinv hh
      have K2 := cell_on (W := wr) hinv hk
      have K3 := cell_on (W := wr) hinv hp
      go_simp
    · obtain rfl : b23 = false := by simpa using hlf
      simp [Region.binds] at haf
      subst haf
      refine wpOp_guard rfl rfl (yielded_of rfl rfl (by rw [RemD.size, hs0]; decide) (RemD.e20 hs0)) ?_
      simp only [List.getElem_toArray, List.getElem_cons_zero, List.getElem_cons_succ]
      refine op_val (v := (.pointer (some ⟨g, 0, none⟩))) ?_ (show RemD.J wr bl bh g h gs os n cs s nm lt sc kd pr z vT vB vD vI a0 _ _ _ from ⟨hB, b0, b1, b2, b3, b4, b5, b6, b7, b8, b9, b10, b11, b12, b13, b14, b15, b16, b17, b18, b19, true, b21, b22, true, b24, b25, b26, b27, b28, b29, b30, b31, b32, b33, rfl, RemD.p23 .., hinv⟩)
      simp only [execOp, RemD.f1, g1]
      have K0 := cell_on (W := wr) hinv hl
      have K1 := cell_on (W := wr) hinv hh
      have K2 := cell_on (W := wr) hinv hk
      have K3 := cell_on (W := wr) hinv hp
      go_simp
    · obtain rfl : b24 = false := by simpa using hlf
      simp [Region.binds] at haf
      obtain ⟨a0, a1⟩ := haf
      subst a0 a1
      refine wpOp_guard rfl rfl (yielded_of rfl rfl (by rw [RemD.size, hs0]; decide) (RemD.e20 hs0)) ?_
      simp only [List.getElem_toArray, List.getElem_cons_zero, List.getElem_cons_succ]
      have hF : Fr [] wr w' := hinv
      refine op_call (f := 28) rfl (vs := #[(.pointer (some ⟨g, 0, none⟩))]) (by simp [RemD.e23 hs0]) (fun w => enters_of Try.func28 (by kernel_rfl) rfl _ w) ?_
      refine (hc _ hF).mono ?_
      rintro e w3 ⟨rfl, hinv⟩
      exact ⟨_, rfl, (show RemD.J wr bl bh g h gs os n cs s nm lt sc kd pr z vT vB vD vI a0 _ _ _ from ⟨hB, b0, b1, b2, b3, b4, b5, b6, b7, b8, b9, b10, b11, b12, b13, b14, b15, b16, b17, b18, b19, true, b21, b22, true, true, b25, b26, b27, b28, b29, b30, b31, b32, b33, rfl, RemD.p24 .., hinv⟩)⟩
    · obtain rfl : b25 = false := by simpa using hlf
      simp [Region.binds] at haf
      obtain ⟨a0, a1⟩ := haf
      subst a0 a1
      refine wpOp_guard rfl rfl (yielded_of rfl rfl (by rw [RemD.size, hs0]; decide) (RemD.e20 hs0)) ?_
      simp only [List.getElem_toArray, List.getElem_cons_zero, List.getElem_cons_succ]
      refine op_val (v := (.slice (some ⟨gs, os, none⟩) n cs)) ?_ (show RemD.J wr bl bh g h gs os n cs s nm lt sc kd pr z vT vB vD vI a0 _ _ _ from ⟨hB, b0, b1, b2, b3, b4, b5, b6, b7, b8, b9, b10, b11, b12, b13, b14, b15, b16, b17, b18, b19, true, b21, b22, b23, true, true, b26, b27, b28, b29, b30, b31, b32, b33, rfl, RemD.p25 .., hinv⟩)
      simp only [execOp, RemD.e24 hs0]
      have K0 := cell_on (W := wr) hinv hl
      have K1 := cell_on (W := wr) hinv hh
      have K2 := cell_on (W := wr) hinv hk
      have K3 := cell_on (W := wr) hinv hp
      go_simp
    · obtain rfl : b26 = false := by simpa using hlf
      simp [Region.binds] at haf
      subst haf
      refine wpOp_guard rfl rfl (yielded_of rfl rfl (by rw [RemD.size, hs0]; decide) (RemD.e20 hs0)) ?_
      simp only [List.getElem_toArray, List.getElem_cons_zero, List.getElem_cons_succ]
      refine op_val (v := (.int .i64 h)) ?_ (show RemD.J wr bl bh g h gs os n cs s nm lt sc kd pr z vT vB vD vI a0 _ _ _ from ⟨hB, b0, b1, b2, b3, b4, b5, b6, b7, b8, b9, b10, b11, b12, b13, b14, b15, b16, b17, b18, b19, true, b21, b22, b23, b24, b25, true, b27, b28, b29, b30, b31, b32, b33, rfl, RemD.p26 .., hinv⟩)
      simp only [execOp, RemD.f2, g2]
      have K0 := cell_on (W := wr) hinv hl
      have K1 := cell_on (W := wr) hinv hh
      have K2 := cell_on (W := wr) hinv hk
      have K3 := cell_on (W := wr) hinv hp
      go_simp
    · obtain rfl : b27 = false := by simpa using hlf
      simp [Region.binds] at haf
      obtain ⟨a0, a1, a2⟩ := haf
      subst a0 a1 a2
      refine wpOp_guard rfl rfl (yielded_of rfl rfl (by rw [RemD.size, hs0]; decide) (RemD.e20 hs0)) ?_
      simp only [List.getElem_toArray, List.getElem_cons_zero, List.getElem_cons_succ]
      refine op_val (v := (.pointer (some ⟨gs, os + h * 13, none⟩))) ?_ (show RemD.J wr bl bh g h gs os n cs s nm lt sc kd pr z vT vB vD vI a0 _ _ _ from ⟨hB, b0, b1, b2, b3, b4, b5, b6, b7, b8, b9, b10, b11, b12, b13, b14, b15, b16, b17, b18, b19, true, b21, b22, b23, b24, true, true, true, b28, b29, b30, b31, b32, b33, rfl, RemD.p27 .., hinv⟩)
      simp only [execOp, RemD.e25 hs0, RemD.e26 hs0]
      have K0 := cell_on (W := wr) hinv hl
      have K1 := cell_on (W := wr) hinv hh
      have K2 := cell_on (W := wr) hinv hk
      have K3 := cell_on (W := wr) hinv hp
      go_simp
    · obtain rfl : b28 = false := by simpa using hlf
      simp [Region.binds] at haf
      obtain ⟨a0, a1⟩ := haf
      subst a0 a1
      refine wpOp_guard rfl rfl (yielded_of rfl rfl (by rw [RemD.size, hs0]; decide) (RemD.e20 hs0)) ?_
      simp only [List.getElem_toArray, List.getElem_cons_zero, List.getElem_cons_succ]
      refine op_val (v := (.pointer (some ⟨gs, os + h * 13 + 2, none⟩))) ?_ (show RemD.J wr bl bh g h gs os n cs s nm lt sc kd pr z vT vB vD vI a0 _ _ _ from ⟨hB, b0, b1, b2, b3, b4, b5, b6, b7, b8, b9, b10, b11, b12, b13, b14, b15, b16, b17, b18, b19, true, b21, b22, b23, b24, b25, b26, true, true, b29, b30, b31, b32, b33, rfl, RemD.p28 .., hinv⟩)
      simp only [execOp, RemD.e27 hs0]
      have K0 := cell_on (W := wr) hinv hl
      have K1 := cell_on (W := wr) hinv hh
      have K2 := cell_on (W := wr) hinv hk
      have K3 := cell_on (W := wr) hinv hp
      go_simp
    · obtain rfl : b29 = false := by simpa using hlf
      simp [Region.binds] at haf
      obtain ⟨a0, a1⟩ := haf
      subst a0 a1
      refine wpOp_guard rfl rfl (yielded_of rfl rfl (by rw [RemD.size, hs0]; decide) (RemD.e20 hs0)) ?_
      simp only [List.getElem_toArray, List.getElem_cons_zero, List.getElem_cons_succ]
      refine op_val (v := (.int .i64 pr)) ?_ (show RemD.J wr bl bh g h gs os n cs s nm lt sc kd pr z vT vB vD vI a0 _ _ _ from ⟨hB, b0, b1, b2, b3, b4, b5, b6, b7, b8, b9, b10, b11, b12, b13, b14, b15, b16, b17, b18, b19, true, b21, b22, b23, b24, b25, b26, b27, true, true, b30, b31, b32, b33, rfl, RemD.p29 .., hinv⟩)
      simp only [execOp, RemD.e28 hs0]
      have K0 := cell_on (W := wr) hinv hl
      have K1 := cell_on (W := wr) hinv hh
      have K2 := cell_on (W := wr) hinv hk
      have K3 := cell_on (W := wr) hinv hp
      go_simp
    · obtain rfl : b30 = false := by simpa using hlf
      simp [Region.binds] at haf
      obtain ⟨a0, a1, a2, a3, a4⟩ := haf
      subst a0 a1 a2 a3 a4
      refine wpOp_guard rfl rfl (yielded_of rfl rfl (by rw [RemD.size, hs0]; decide) (RemD.e20 hs0)) ?_
      simp only [List.getElem_toArray, List.getElem_cons_zero, List.getElem_cons_succ]
      have hF : Fr [] wr w' := hinv
      refine op_call (f := 29) rfl (vs := #[(.pointer (some ⟨g, 0, none⟩)), (.int .i64 s), (.int .i64 pr)]) (by simp [RemD.e21 hs0, RemD.e22 hs0, RemD.e29 hs0]) (fun w => enters_of Try.func29 (by kernel_rfl) rfl _ w) ?_
      refine (hi _ hF).mono ?_
      rintro e w3 ⟨rfl, hinv⟩
      exact ⟨_, rfl, (show RemD.J wr bl bh g h gs os n cs s nm lt sc kd pr z vT vB vD vI a0 _ _ _ from ⟨hB, b0, b1, b2, b3, b4, b5, b6, b7, b8, b9, b10, b11, b12, b13, b14, b15, b16, b17, b18, b19, true, true, true, b23, true, b25, b26, b27, b28, true, true, b31, b32, b33, rfl, RemD.p30 .., hinv⟩)⟩
    · obtain rfl : b31 = false := by simpa using hlf
      simp [Region.binds] at haf
      obtain ⟨a0, a1⟩ := haf
      subst a0 a1
      refine wpOp_guard rfl rfl (yielded_of rfl rfl (by rw [RemD.size, hs0]; decide) (RemD.e20 hs0)) ?_
      simp only [List.getElem_toArray, List.getElem_cons_zero, List.getElem_cons_succ]
      refine op_val (v := (.bool !z)) ?_ (show RemD.J wr bl bh g h gs os n cs s nm lt sc kd pr z vT vB vD vI a0 _ _ _ from ⟨hB, b0, b1, b2, b3, b4, b5, b6, b7, b8, b9, b10, b11, b12, b13, b14, b15, b16, b17, b18, b19, true, b21, b22, b23, b24, b25, b26, b27, b28, b29, true, true, b32, b33, rfl, RemD.p31 .., hinv⟩)
      simp only [execOp, RemD.e30 hs0]
      have K0 := cell_on (W := wr) hinv hl
      have K1 := cell_on (W := wr) hinv hh
      have K2 := cell_on (W := wr) hinv hk
      have K3 := cell_on (W := wr) hinv hp
      go_simp
    · obtain rfl : b32 = false := by simpa using hlf
      refine wpOp_at rfl rfl ?_
      simp only [List.getElem_toArray, List.getElem_cons_zero, List.getElem_cons_succ]
      simp [Region.binds] at haf
      obtain ⟨a0, a1⟩ := haf
      subst a0 a1
      refine op_val (v := (.bool !z)) ?_ (show RemD.J wr bl bh g h gs os n cs s nm lt sc kd pr z vT vB vD vI a0 _ _ _ from ⟨hB, b0, b1, b2, b3, b4, b5, b6, b7, b8, b9, b10, b11, b12, b13, b14, b15, b16, b17, b18, b19, true, b21, b22, b23, b24, b25, b26, b27, b28, b29, b30, true, true, b33, rfl, RemD.p32 .., hinv⟩)
      simp only [execOp, RemD.e20 hs0, RemD.e31 hs0]
      have K0 := cell_on (W := wr) hinv hl
      have K1 := cell_on (W := wr) hinv hh
      have K2 := cell_on (W := wr) hinv hk
      have K3 := cell_on (W := wr) hinv hp
      go_simp
    · obtain rfl : b33 = false := by simpa using hlf
      refine wpOp_at rfl rfl ?_
      simp only [List.getElem_toArray, List.getElem_cons_zero, List.getElem_cons_succ]
      simp [Region.binds] at haf
      obtain ⟨a0, a1, a2, a3, a4, a5, a6, a7, a8, a9, a10, a11, a12, a13, a14, a15, a16, a17, a18, a19, a20, a21, a22, a23, a24, a25, a26, a27, a28, a29, a30, a31, a32, a33, a34⟩ := haf
      subst a0 a1 a2 a3 a4 a5 a6 a7 a8 a9 a10 a11 a12 a13 a14 a15 a16 a17 a18 a19 a20 a21 a22 a23 a24 a25 a26 a27 a28 a29 a30 a31 a33
      refine op_val (v := (.bool !z)) ?_ (show RemD.J wr bl bh g h gs os n cs s nm lt sc kd pr z vT vB vD vI a0 _ _ _ from ⟨hB, true, true, true, true, true, true, true, true, true, true, true, true, true, true, true, true, true, true, true, true, true, true, true, true, true, true, true, true, true, true, true, true, true, true, rfl, RemD.p33 .., hinv⟩)
      simp only [execOp, RemD.e32 hs0]
      have K0 := cell_on (W := wr) hinv hl
      have K1 := cell_on (W := wr) hinv hh
      have K2 := cell_on (W := wr) hinv hk
      have K3 := cell_on (W := wr) hinv hp
      go_simp
/-- The frame inside the region: what has come up lies in its slots. -/
def RemB.A (wr : World) (bl bh g n cs : Nat) (s : Int) (nm : ByteArray) (lt : Bool) (sc : Int) (As : Option Addr) (vT vB vD vI : Value)  (b0 b1 b2 b3 b4 b5 b6 b7 b8 b9 b10 b11 b12 b13 b14 b15 b16 b17 b18 b19 b20 b21 b22 b23 b24 b25 b26 b27 b28 b29 b30 b31 b32 b33 : Bool) (a0 : Act) : Act := putIf b0 5 (.int .i64 s) (putIf b1 6 (.bool false) (putIf b2 7 (.bool false) (putIf b3 8 (.int .i64 s) (putIf b4 9 (.pointer (some ⟨g, 0, none⟩)) (putIf b5 10 (.agg #[.string nm, .bool lt, .int .i64 sc, .slice As n cs, vT, vB, vD, vI]) (putIf b6 11 (.slice As n cs) (putIf b7 12 (.int .i64 n) (putIf b8 13 (.bool true) (putIf b9 14 (.bool true) (putIf b10 15 (.bool true) (putIf b11 16 undef (putIf b12 17 undef (putIf b13 18 undef (putIf b14 19 undef (putIf b15 20 undef (putIf b16 21 undef (putIf b17 22 undef (putIf b18 23 undef (putIf b19 24 (.bool true) (putIf b20 25 (.bool true) (putIf b21 26 undef (putIf b22 27 undef (putIf b23 28 undef (putIf b24 29 undef (putIf b25 30 undef (putIf b26 31 undef (putIf b27 32 undef (putIf b28 33 undef (putIf b29 34 undef (putIf b30 35 undef (putIf b31 36 undef (putIf b32 37 (.bool true) (putIf b33 4 (.bool true) (a0))))))))))))))))))))))))))))))))))
theorem RemB.p0 (wr : World) (bl bh g n cs : Nat) (s : Int) (nm : ByteArray) (lt : Bool) (sc : Int) (As : Option Addr) (vT vB vD vI : Value)   (b1 b2 b3 b4 b5 b6 b7 b8 b9 b10 b11 b12 b13 b14 b15 b16 b17 b18 b19 b20 b21 b22 b23 b24 b25 b26 b27 b28 b29 b30 b31 b32 b33 : Bool) (a0 : Act) :
    (RemB.A wr bl bh g n cs s nm lt sc As vT vB vD vI  false b1 b2 b3 b4 b5 b6 b7 b8 b9 b10 b11 b12 b13 b14 b15 b16 b17 b18 b19 b20 b21 b22 b23 b24 b25 b26 b27 b28 b29 b30 b31 b32 b33 a0).put (some 5) (.int .i64 s) = RemB.A wr bl bh g n cs s nm lt sc As vT vB vD vI  true b1 b2 b3 b4 b5 b6 b7 b8 b9 b10 b11 b12 b13 b14 b15 b16 b17 b18 b19 b20 b21 b22 b23 b24 b25 b26 b27 b28 b29 b30 b31 b32 b33 a0 := by
  simp only [RemB.A, putIf_put, ne_eq, Nat.reduceEqDiff, not_false_eq_true]
  rfl
theorem RemB.e0 {wr : World} {bl bh g n cs : Nat} {s : Int} {nm : ByteArray} {lt : Bool} {sc : Int} {As : Option Addr} {vT vB vD vI : Value}  {b1 b2 b3 b4 b5 b6 b7 b8 b9 b10 b11 b12 b13 b14 b15 b16 b17 b18 b19 b20 b21 b22 b23 b24 b25 b26 b27 b28 b29 b30 b31 b32 b33 : Bool} {a0 : Act} (hs : a0.tmps.size = 38) : (RemB.A wr bl bh g n cs s nm lt sc As vT vB vD vI  true b1 b2 b3 b4 b5 b6 b7 b8 b9 b10 b11 b12 b13 b14 b15 b16 b17 b18 b19 b20 b21 b22 b23 b24 b25 b26 b27 b28 b29 b30 b31 b32 b33 a0).eval (.tmp 5) = (.int .i64 s) := by
  simp [RemB.A, eval_putIf, eval_put, size_putIf, hs]
theorem RemB.p1 (wr : World) (bl bh g n cs : Nat) (s : Int) (nm : ByteArray) (lt : Bool) (sc : Int) (As : Option Addr) (vT vB vD vI : Value)   (b0 b2 b3 b4 b5 b6 b7 b8 b9 b10 b11 b12 b13 b14 b15 b16 b17 b18 b19 b20 b21 b22 b23 b24 b25 b26 b27 b28 b29 b30 b31 b32 b33 : Bool) (a0 : Act) :
    (RemB.A wr bl bh g n cs s nm lt sc As vT vB vD vI  b0 false b2 b3 b4 b5 b6 b7 b8 b9 b10 b11 b12 b13 b14 b15 b16 b17 b18 b19 b20 b21 b22 b23 b24 b25 b26 b27 b28 b29 b30 b31 b32 b33 a0).put (some 6) (.bool false) = RemB.A wr bl bh g n cs s nm lt sc As vT vB vD vI  b0 true b2 b3 b4 b5 b6 b7 b8 b9 b10 b11 b12 b13 b14 b15 b16 b17 b18 b19 b20 b21 b22 b23 b24 b25 b26 b27 b28 b29 b30 b31 b32 b33 a0 := by
  simp only [RemB.A, putIf_put, ne_eq, Nat.reduceEqDiff, not_false_eq_true]
  rfl
theorem RemB.e1 {wr : World} {bl bh g n cs : Nat} {s : Int} {nm : ByteArray} {lt : Bool} {sc : Int} {As : Option Addr} {vT vB vD vI : Value}  {b0 b2 b3 b4 b5 b6 b7 b8 b9 b10 b11 b12 b13 b14 b15 b16 b17 b18 b19 b20 b21 b22 b23 b24 b25 b26 b27 b28 b29 b30 b31 b32 b33 : Bool} {a0 : Act} (hs : a0.tmps.size = 38) : (RemB.A wr bl bh g n cs s nm lt sc As vT vB vD vI  b0 true b2 b3 b4 b5 b6 b7 b8 b9 b10 b11 b12 b13 b14 b15 b16 b17 b18 b19 b20 b21 b22 b23 b24 b25 b26 b27 b28 b29 b30 b31 b32 b33 a0).eval (.tmp 6) = (.bool false) := by
  simp [RemB.A, eval_putIf, eval_put, size_putIf, hs]
theorem RemB.p2 (wr : World) (bl bh g n cs : Nat) (s : Int) (nm : ByteArray) (lt : Bool) (sc : Int) (As : Option Addr) (vT vB vD vI : Value)   (b0 b1 b3 b4 b5 b6 b7 b8 b9 b10 b11 b12 b13 b14 b15 b16 b17 b18 b19 b20 b21 b22 b23 b24 b25 b26 b27 b28 b29 b30 b31 b32 b33 : Bool) (a0 : Act) :
    (RemB.A wr bl bh g n cs s nm lt sc As vT vB vD vI  b0 b1 false b3 b4 b5 b6 b7 b8 b9 b10 b11 b12 b13 b14 b15 b16 b17 b18 b19 b20 b21 b22 b23 b24 b25 b26 b27 b28 b29 b30 b31 b32 b33 a0).put (some 7) (.bool false) = RemB.A wr bl bh g n cs s nm lt sc As vT vB vD vI  b0 b1 true b3 b4 b5 b6 b7 b8 b9 b10 b11 b12 b13 b14 b15 b16 b17 b18 b19 b20 b21 b22 b23 b24 b25 b26 b27 b28 b29 b30 b31 b32 b33 a0 := by
  simp only [RemB.A, putIf_put, ne_eq, Nat.reduceEqDiff, not_false_eq_true]
  rfl
theorem RemB.e2 {wr : World} {bl bh g n cs : Nat} {s : Int} {nm : ByteArray} {lt : Bool} {sc : Int} {As : Option Addr} {vT vB vD vI : Value}  {b0 b1 b3 b4 b5 b6 b7 b8 b9 b10 b11 b12 b13 b14 b15 b16 b17 b18 b19 b20 b21 b22 b23 b24 b25 b26 b27 b28 b29 b30 b31 b32 b33 : Bool} {a0 : Act} (hs : a0.tmps.size = 38) : (RemB.A wr bl bh g n cs s nm lt sc As vT vB vD vI  b0 b1 true b3 b4 b5 b6 b7 b8 b9 b10 b11 b12 b13 b14 b15 b16 b17 b18 b19 b20 b21 b22 b23 b24 b25 b26 b27 b28 b29 b30 b31 b32 b33 a0).eval (.tmp 7) = (.bool false) := by
  simp [RemB.A, eval_putIf, eval_put, size_putIf, hs]
theorem RemB.p3 (wr : World) (bl bh g n cs : Nat) (s : Int) (nm : ByteArray) (lt : Bool) (sc : Int) (As : Option Addr) (vT vB vD vI : Value)   (b0 b1 b2 b4 b5 b6 b7 b8 b9 b10 b11 b12 b13 b14 b15 b16 b17 b18 b19 b20 b21 b22 b23 b24 b25 b26 b27 b28 b29 b30 b31 b32 b33 : Bool) (a0 : Act) :
    (RemB.A wr bl bh g n cs s nm lt sc As vT vB vD vI  b0 b1 b2 false b4 b5 b6 b7 b8 b9 b10 b11 b12 b13 b14 b15 b16 b17 b18 b19 b20 b21 b22 b23 b24 b25 b26 b27 b28 b29 b30 b31 b32 b33 a0).put (some 8) (.int .i64 s) = RemB.A wr bl bh g n cs s nm lt sc As vT vB vD vI  b0 b1 b2 true b4 b5 b6 b7 b8 b9 b10 b11 b12 b13 b14 b15 b16 b17 b18 b19 b20 b21 b22 b23 b24 b25 b26 b27 b28 b29 b30 b31 b32 b33 a0 := by
  simp only [RemB.A, putIf_put, ne_eq, Nat.reduceEqDiff, not_false_eq_true]
  rfl
theorem RemB.e3 {wr : World} {bl bh g n cs : Nat} {s : Int} {nm : ByteArray} {lt : Bool} {sc : Int} {As : Option Addr} {vT vB vD vI : Value}  {b0 b1 b2 b4 b5 b6 b7 b8 b9 b10 b11 b12 b13 b14 b15 b16 b17 b18 b19 b20 b21 b22 b23 b24 b25 b26 b27 b28 b29 b30 b31 b32 b33 : Bool} {a0 : Act} (hs : a0.tmps.size = 38) : (RemB.A wr bl bh g n cs s nm lt sc As vT vB vD vI  b0 b1 b2 true b4 b5 b6 b7 b8 b9 b10 b11 b12 b13 b14 b15 b16 b17 b18 b19 b20 b21 b22 b23 b24 b25 b26 b27 b28 b29 b30 b31 b32 b33 a0).eval (.tmp 8) = (.int .i64 s) := by
  simp [RemB.A, eval_putIf, eval_put, size_putIf, hs]
theorem RemB.p4 (wr : World) (bl bh g n cs : Nat) (s : Int) (nm : ByteArray) (lt : Bool) (sc : Int) (As : Option Addr) (vT vB vD vI : Value)   (b0 b1 b2 b3 b5 b6 b7 b8 b9 b10 b11 b12 b13 b14 b15 b16 b17 b18 b19 b20 b21 b22 b23 b24 b25 b26 b27 b28 b29 b30 b31 b32 b33 : Bool) (a0 : Act) :
    (RemB.A wr bl bh g n cs s nm lt sc As vT vB vD vI  b0 b1 b2 b3 false b5 b6 b7 b8 b9 b10 b11 b12 b13 b14 b15 b16 b17 b18 b19 b20 b21 b22 b23 b24 b25 b26 b27 b28 b29 b30 b31 b32 b33 a0).put (some 9) (.pointer (some ⟨g, 0, none⟩)) = RemB.A wr bl bh g n cs s nm lt sc As vT vB vD vI  b0 b1 b2 b3 true b5 b6 b7 b8 b9 b10 b11 b12 b13 b14 b15 b16 b17 b18 b19 b20 b21 b22 b23 b24 b25 b26 b27 b28 b29 b30 b31 b32 b33 a0 := by
  simp only [RemB.A, putIf_put, ne_eq, Nat.reduceEqDiff, not_false_eq_true]
  rfl
theorem RemB.e4 {wr : World} {bl bh g n cs : Nat} {s : Int} {nm : ByteArray} {lt : Bool} {sc : Int} {As : Option Addr} {vT vB vD vI : Value}  {b0 b1 b2 b3 b5 b6 b7 b8 b9 b10 b11 b12 b13 b14 b15 b16 b17 b18 b19 b20 b21 b22 b23 b24 b25 b26 b27 b28 b29 b30 b31 b32 b33 : Bool} {a0 : Act} (hs : a0.tmps.size = 38) : (RemB.A wr bl bh g n cs s nm lt sc As vT vB vD vI  b0 b1 b2 b3 true b5 b6 b7 b8 b9 b10 b11 b12 b13 b14 b15 b16 b17 b18 b19 b20 b21 b22 b23 b24 b25 b26 b27 b28 b29 b30 b31 b32 b33 a0).eval (.tmp 9) = (.pointer (some ⟨g, 0, none⟩)) := by
  simp [RemB.A, eval_putIf, eval_put, size_putIf, hs]
theorem RemB.p5 (wr : World) (bl bh g n cs : Nat) (s : Int) (nm : ByteArray) (lt : Bool) (sc : Int) (As : Option Addr) (vT vB vD vI : Value)   (b0 b1 b2 b3 b4 b6 b7 b8 b9 b10 b11 b12 b13 b14 b15 b16 b17 b18 b19 b20 b21 b22 b23 b24 b25 b26 b27 b28 b29 b30 b31 b32 b33 : Bool) (a0 : Act) :
    (RemB.A wr bl bh g n cs s nm lt sc As vT vB vD vI  b0 b1 b2 b3 b4 false b6 b7 b8 b9 b10 b11 b12 b13 b14 b15 b16 b17 b18 b19 b20 b21 b22 b23 b24 b25 b26 b27 b28 b29 b30 b31 b32 b33 a0).put (some 10) (.agg #[.string nm, .bool lt, .int .i64 sc, .slice As n cs, vT, vB, vD, vI]) = RemB.A wr bl bh g n cs s nm lt sc As vT vB vD vI  b0 b1 b2 b3 b4 true b6 b7 b8 b9 b10 b11 b12 b13 b14 b15 b16 b17 b18 b19 b20 b21 b22 b23 b24 b25 b26 b27 b28 b29 b30 b31 b32 b33 a0 := by
  simp only [RemB.A, putIf_put, ne_eq, Nat.reduceEqDiff, not_false_eq_true]
  rfl
theorem RemB.e5 {wr : World} {bl bh g n cs : Nat} {s : Int} {nm : ByteArray} {lt : Bool} {sc : Int} {As : Option Addr} {vT vB vD vI : Value}  {b0 b1 b2 b3 b4 b6 b7 b8 b9 b10 b11 b12 b13 b14 b15 b16 b17 b18 b19 b20 b21 b22 b23 b24 b25 b26 b27 b28 b29 b30 b31 b32 b33 : Bool} {a0 : Act} (hs : a0.tmps.size = 38) : (RemB.A wr bl bh g n cs s nm lt sc As vT vB vD vI  b0 b1 b2 b3 b4 true b6 b7 b8 b9 b10 b11 b12 b13 b14 b15 b16 b17 b18 b19 b20 b21 b22 b23 b24 b25 b26 b27 b28 b29 b30 b31 b32 b33 a0).eval (.tmp 10) = (.agg #[.string nm, .bool lt, .int .i64 sc, .slice As n cs, vT, vB, vD, vI]) := by
  simp [RemB.A, eval_putIf, eval_put, size_putIf, hs]
theorem RemB.p6 (wr : World) (bl bh g n cs : Nat) (s : Int) (nm : ByteArray) (lt : Bool) (sc : Int) (As : Option Addr) (vT vB vD vI : Value)   (b0 b1 b2 b3 b4 b5 b7 b8 b9 b10 b11 b12 b13 b14 b15 b16 b17 b18 b19 b20 b21 b22 b23 b24 b25 b26 b27 b28 b29 b30 b31 b32 b33 : Bool) (a0 : Act) :
    (RemB.A wr bl bh g n cs s nm lt sc As vT vB vD vI  b0 b1 b2 b3 b4 b5 false b7 b8 b9 b10 b11 b12 b13 b14 b15 b16 b17 b18 b19 b20 b21 b22 b23 b24 b25 b26 b27 b28 b29 b30 b31 b32 b33 a0).put (some 11) (.slice As n cs) = RemB.A wr bl bh g n cs s nm lt sc As vT vB vD vI  b0 b1 b2 b3 b4 b5 true b7 b8 b9 b10 b11 b12 b13 b14 b15 b16 b17 b18 b19 b20 b21 b22 b23 b24 b25 b26 b27 b28 b29 b30 b31 b32 b33 a0 := by
  simp only [RemB.A, putIf_put, ne_eq, Nat.reduceEqDiff, not_false_eq_true]
  rfl
theorem RemB.e6 {wr : World} {bl bh g n cs : Nat} {s : Int} {nm : ByteArray} {lt : Bool} {sc : Int} {As : Option Addr} {vT vB vD vI : Value}  {b0 b1 b2 b3 b4 b5 b7 b8 b9 b10 b11 b12 b13 b14 b15 b16 b17 b18 b19 b20 b21 b22 b23 b24 b25 b26 b27 b28 b29 b30 b31 b32 b33 : Bool} {a0 : Act} (hs : a0.tmps.size = 38) : (RemB.A wr bl bh g n cs s nm lt sc As vT vB vD vI  b0 b1 b2 b3 b4 b5 true b7 b8 b9 b10 b11 b12 b13 b14 b15 b16 b17 b18 b19 b20 b21 b22 b23 b24 b25 b26 b27 b28 b29 b30 b31 b32 b33 a0).eval (.tmp 11) = (.slice As n cs) := by
  simp [RemB.A, eval_putIf, eval_put, size_putIf, hs]
theorem RemB.p7 (wr : World) (bl bh g n cs : Nat) (s : Int) (nm : ByteArray) (lt : Bool) (sc : Int) (As : Option Addr) (vT vB vD vI : Value)   (b0 b1 b2 b3 b4 b5 b6 b8 b9 b10 b11 b12 b13 b14 b15 b16 b17 b18 b19 b20 b21 b22 b23 b24 b25 b26 b27 b28 b29 b30 b31 b32 b33 : Bool) (a0 : Act) :
    (RemB.A wr bl bh g n cs s nm lt sc As vT vB vD vI  b0 b1 b2 b3 b4 b5 b6 false b8 b9 b10 b11 b12 b13 b14 b15 b16 b17 b18 b19 b20 b21 b22 b23 b24 b25 b26 b27 b28 b29 b30 b31 b32 b33 a0).put (some 12) (.int .i64 n) = RemB.A wr bl bh g n cs s nm lt sc As vT vB vD vI  b0 b1 b2 b3 b4 b5 b6 true b8 b9 b10 b11 b12 b13 b14 b15 b16 b17 b18 b19 b20 b21 b22 b23 b24 b25 b26 b27 b28 b29 b30 b31 b32 b33 a0 := by
  simp only [RemB.A, putIf_put, ne_eq, Nat.reduceEqDiff, not_false_eq_true]
  rfl
theorem RemB.e7 {wr : World} {bl bh g n cs : Nat} {s : Int} {nm : ByteArray} {lt : Bool} {sc : Int} {As : Option Addr} {vT vB vD vI : Value}  {b0 b1 b2 b3 b4 b5 b6 b8 b9 b10 b11 b12 b13 b14 b15 b16 b17 b18 b19 b20 b21 b22 b23 b24 b25 b26 b27 b28 b29 b30 b31 b32 b33 : Bool} {a0 : Act} (hs : a0.tmps.size = 38) : (RemB.A wr bl bh g n cs s nm lt sc As vT vB vD vI  b0 b1 b2 b3 b4 b5 b6 true b8 b9 b10 b11 b12 b13 b14 b15 b16 b17 b18 b19 b20 b21 b22 b23 b24 b25 b26 b27 b28 b29 b30 b31 b32 b33 a0).eval (.tmp 12) = (.int .i64 n) := by
  simp [RemB.A, eval_putIf, eval_put, size_putIf, hs]
theorem RemB.p8 (wr : World) (bl bh g n cs : Nat) (s : Int) (nm : ByteArray) (lt : Bool) (sc : Int) (As : Option Addr) (vT vB vD vI : Value)   (b0 b1 b2 b3 b4 b5 b6 b7 b9 b10 b11 b12 b13 b14 b15 b16 b17 b18 b19 b20 b21 b22 b23 b24 b25 b26 b27 b28 b29 b30 b31 b32 b33 : Bool) (a0 : Act) :
    (RemB.A wr bl bh g n cs s nm lt sc As vT vB vD vI  b0 b1 b2 b3 b4 b5 b6 b7 false b9 b10 b11 b12 b13 b14 b15 b16 b17 b18 b19 b20 b21 b22 b23 b24 b25 b26 b27 b28 b29 b30 b31 b32 b33 a0).put (some 13) (.bool true) = RemB.A wr bl bh g n cs s nm lt sc As vT vB vD vI  b0 b1 b2 b3 b4 b5 b6 b7 true b9 b10 b11 b12 b13 b14 b15 b16 b17 b18 b19 b20 b21 b22 b23 b24 b25 b26 b27 b28 b29 b30 b31 b32 b33 a0 := by
  simp only [RemB.A, putIf_put, ne_eq, Nat.reduceEqDiff, not_false_eq_true]
  rfl
theorem RemB.e8 {wr : World} {bl bh g n cs : Nat} {s : Int} {nm : ByteArray} {lt : Bool} {sc : Int} {As : Option Addr} {vT vB vD vI : Value}  {b0 b1 b2 b3 b4 b5 b6 b7 b9 b10 b11 b12 b13 b14 b15 b16 b17 b18 b19 b20 b21 b22 b23 b24 b25 b26 b27 b28 b29 b30 b31 b32 b33 : Bool} {a0 : Act} (hs : a0.tmps.size = 38) : (RemB.A wr bl bh g n cs s nm lt sc As vT vB vD vI  b0 b1 b2 b3 b4 b5 b6 b7 true b9 b10 b11 b12 b13 b14 b15 b16 b17 b18 b19 b20 b21 b22 b23 b24 b25 b26 b27 b28 b29 b30 b31 b32 b33 a0).eval (.tmp 13) = (.bool true) := by
  simp [RemB.A, eval_putIf, eval_put, size_putIf, hs]
theorem RemB.p9 (wr : World) (bl bh g n cs : Nat) (s : Int) (nm : ByteArray) (lt : Bool) (sc : Int) (As : Option Addr) (vT vB vD vI : Value)   (b0 b1 b2 b3 b4 b5 b6 b7 b8 b10 b11 b12 b13 b14 b15 b16 b17 b18 b19 b20 b21 b22 b23 b24 b25 b26 b27 b28 b29 b30 b31 b32 b33 : Bool) (a0 : Act) :
    (RemB.A wr bl bh g n cs s nm lt sc As vT vB vD vI  b0 b1 b2 b3 b4 b5 b6 b7 b8 false b10 b11 b12 b13 b14 b15 b16 b17 b18 b19 b20 b21 b22 b23 b24 b25 b26 b27 b28 b29 b30 b31 b32 b33 a0).put (some 14) (.bool true) = RemB.A wr bl bh g n cs s nm lt sc As vT vB vD vI  b0 b1 b2 b3 b4 b5 b6 b7 b8 true b10 b11 b12 b13 b14 b15 b16 b17 b18 b19 b20 b21 b22 b23 b24 b25 b26 b27 b28 b29 b30 b31 b32 b33 a0 := by
  simp only [RemB.A, putIf_put, ne_eq, Nat.reduceEqDiff, not_false_eq_true]
  rfl
theorem RemB.e9 {wr : World} {bl bh g n cs : Nat} {s : Int} {nm : ByteArray} {lt : Bool} {sc : Int} {As : Option Addr} {vT vB vD vI : Value}  {b0 b1 b2 b3 b4 b5 b6 b7 b8 b10 b11 b12 b13 b14 b15 b16 b17 b18 b19 b20 b21 b22 b23 b24 b25 b26 b27 b28 b29 b30 b31 b32 b33 : Bool} {a0 : Act} (hs : a0.tmps.size = 38) : (RemB.A wr bl bh g n cs s nm lt sc As vT vB vD vI  b0 b1 b2 b3 b4 b5 b6 b7 b8 true b10 b11 b12 b13 b14 b15 b16 b17 b18 b19 b20 b21 b22 b23 b24 b25 b26 b27 b28 b29 b30 b31 b32 b33 a0).eval (.tmp 14) = (.bool true) := by
  simp [RemB.A, eval_putIf, eval_put, size_putIf, hs]
theorem RemB.p10 (wr : World) (bl bh g n cs : Nat) (s : Int) (nm : ByteArray) (lt : Bool) (sc : Int) (As : Option Addr) (vT vB vD vI : Value)   (b0 b1 b2 b3 b4 b5 b6 b7 b8 b9 b11 b12 b13 b14 b15 b16 b17 b18 b19 b20 b21 b22 b23 b24 b25 b26 b27 b28 b29 b30 b31 b32 b33 : Bool) (a0 : Act) :
    (RemB.A wr bl bh g n cs s nm lt sc As vT vB vD vI  b0 b1 b2 b3 b4 b5 b6 b7 b8 b9 false b11 b12 b13 b14 b15 b16 b17 b18 b19 b20 b21 b22 b23 b24 b25 b26 b27 b28 b29 b30 b31 b32 b33 a0).put (some 15) (.bool true) = RemB.A wr bl bh g n cs s nm lt sc As vT vB vD vI  b0 b1 b2 b3 b4 b5 b6 b7 b8 b9 true b11 b12 b13 b14 b15 b16 b17 b18 b19 b20 b21 b22 b23 b24 b25 b26 b27 b28 b29 b30 b31 b32 b33 a0 := by
  simp only [RemB.A, putIf_put, ne_eq, Nat.reduceEqDiff, not_false_eq_true]
  rfl
theorem RemB.e10 {wr : World} {bl bh g n cs : Nat} {s : Int} {nm : ByteArray} {lt : Bool} {sc : Int} {As : Option Addr} {vT vB vD vI : Value}  {b0 b1 b2 b3 b4 b5 b6 b7 b8 b9 b11 b12 b13 b14 b15 b16 b17 b18 b19 b20 b21 b22 b23 b24 b25 b26 b27 b28 b29 b30 b31 b32 b33 : Bool} {a0 : Act} (hs : a0.tmps.size = 38) : (RemB.A wr bl bh g n cs s nm lt sc As vT vB vD vI  b0 b1 b2 b3 b4 b5 b6 b7 b8 b9 true b11 b12 b13 b14 b15 b16 b17 b18 b19 b20 b21 b22 b23 b24 b25 b26 b27 b28 b29 b30 b31 b32 b33 a0).eval (.tmp 15) = (.bool true) := by
  simp [RemB.A, eval_putIf, eval_put, size_putIf, hs]
theorem RemB.p11 (wr : World) (bl bh g n cs : Nat) (s : Int) (nm : ByteArray) (lt : Bool) (sc : Int) (As : Option Addr) (vT vB vD vI : Value)   (b0 b1 b2 b3 b4 b5 b6 b7 b8 b9 b10 b12 b13 b14 b15 b16 b17 b18 b19 b20 b21 b22 b23 b24 b25 b26 b27 b28 b29 b30 b31 b32 b33 : Bool) (a0 : Act) :
    (RemB.A wr bl bh g n cs s nm lt sc As vT vB vD vI  b0 b1 b2 b3 b4 b5 b6 b7 b8 b9 b10 false b12 b13 b14 b15 b16 b17 b18 b19 b20 b21 b22 b23 b24 b25 b26 b27 b28 b29 b30 b31 b32 b33 a0).put (some 16) undef = RemB.A wr bl bh g n cs s nm lt sc As vT vB vD vI  b0 b1 b2 b3 b4 b5 b6 b7 b8 b9 b10 true b12 b13 b14 b15 b16 b17 b18 b19 b20 b21 b22 b23 b24 b25 b26 b27 b28 b29 b30 b31 b32 b33 a0 := by
  simp only [RemB.A, putIf_put, ne_eq, Nat.reduceEqDiff, not_false_eq_true]
  rfl
theorem RemB.e11 {wr : World} {bl bh g n cs : Nat} {s : Int} {nm : ByteArray} {lt : Bool} {sc : Int} {As : Option Addr} {vT vB vD vI : Value}  {b0 b1 b2 b3 b4 b5 b6 b7 b8 b9 b10 b12 b13 b14 b15 b16 b17 b18 b19 b20 b21 b22 b23 b24 b25 b26 b27 b28 b29 b30 b31 b32 b33 : Bool} {a0 : Act} (hs : a0.tmps.size = 38) : (RemB.A wr bl bh g n cs s nm lt sc As vT vB vD vI  b0 b1 b2 b3 b4 b5 b6 b7 b8 b9 b10 true b12 b13 b14 b15 b16 b17 b18 b19 b20 b21 b22 b23 b24 b25 b26 b27 b28 b29 b30 b31 b32 b33 a0).eval (.tmp 16) = undef := by
  simp [RemB.A, eval_putIf, eval_put, size_putIf, hs]
theorem RemB.p12 (wr : World) (bl bh g n cs : Nat) (s : Int) (nm : ByteArray) (lt : Bool) (sc : Int) (As : Option Addr) (vT vB vD vI : Value)   (b0 b1 b2 b3 b4 b5 b6 b7 b8 b9 b10 b11 b13 b14 b15 b16 b17 b18 b19 b20 b21 b22 b23 b24 b25 b26 b27 b28 b29 b30 b31 b32 b33 : Bool) (a0 : Act) :
    (RemB.A wr bl bh g n cs s nm lt sc As vT vB vD vI  b0 b1 b2 b3 b4 b5 b6 b7 b8 b9 b10 b11 false b13 b14 b15 b16 b17 b18 b19 b20 b21 b22 b23 b24 b25 b26 b27 b28 b29 b30 b31 b32 b33 a0).put (some 17) undef = RemB.A wr bl bh g n cs s nm lt sc As vT vB vD vI  b0 b1 b2 b3 b4 b5 b6 b7 b8 b9 b10 b11 true b13 b14 b15 b16 b17 b18 b19 b20 b21 b22 b23 b24 b25 b26 b27 b28 b29 b30 b31 b32 b33 a0 := by
  simp only [RemB.A, putIf_put, ne_eq, Nat.reduceEqDiff, not_false_eq_true]
  rfl
theorem RemB.e12 {wr : World} {bl bh g n cs : Nat} {s : Int} {nm : ByteArray} {lt : Bool} {sc : Int} {As : Option Addr} {vT vB vD vI : Value}  {b0 b1 b2 b3 b4 b5 b6 b7 b8 b9 b10 b11 b13 b14 b15 b16 b17 b18 b19 b20 b21 b22 b23 b24 b25 b26 b27 b28 b29 b30 b31 b32 b33 : Bool} {a0 : Act} (hs : a0.tmps.size = 38) : (RemB.A wr bl bh g n cs s nm lt sc As vT vB vD vI  b0 b1 b2 b3 b4 b5 b6 b7 b8 b9 b10 b11 true b13 b14 b15 b16 b17 b18 b19 b20 b21 b22 b23 b24 b25 b26 b27 b28 b29 b30 b31 b32 b33 a0).eval (.tmp 17) = undef := by
  simp [RemB.A, eval_putIf, eval_put, size_putIf, hs]
theorem RemB.p13 (wr : World) (bl bh g n cs : Nat) (s : Int) (nm : ByteArray) (lt : Bool) (sc : Int) (As : Option Addr) (vT vB vD vI : Value)   (b0 b1 b2 b3 b4 b5 b6 b7 b8 b9 b10 b11 b12 b14 b15 b16 b17 b18 b19 b20 b21 b22 b23 b24 b25 b26 b27 b28 b29 b30 b31 b32 b33 : Bool) (a0 : Act) :
    (RemB.A wr bl bh g n cs s nm lt sc As vT vB vD vI  b0 b1 b2 b3 b4 b5 b6 b7 b8 b9 b10 b11 b12 false b14 b15 b16 b17 b18 b19 b20 b21 b22 b23 b24 b25 b26 b27 b28 b29 b30 b31 b32 b33 a0).put (some 18) undef = RemB.A wr bl bh g n cs s nm lt sc As vT vB vD vI  b0 b1 b2 b3 b4 b5 b6 b7 b8 b9 b10 b11 b12 true b14 b15 b16 b17 b18 b19 b20 b21 b22 b23 b24 b25 b26 b27 b28 b29 b30 b31 b32 b33 a0 := by
  simp only [RemB.A, putIf_put, ne_eq, Nat.reduceEqDiff, not_false_eq_true]
  rfl
theorem RemB.e13 {wr : World} {bl bh g n cs : Nat} {s : Int} {nm : ByteArray} {lt : Bool} {sc : Int} {As : Option Addr} {vT vB vD vI : Value}  {b0 b1 b2 b3 b4 b5 b6 b7 b8 b9 b10 b11 b12 b14 b15 b16 b17 b18 b19 b20 b21 b22 b23 b24 b25 b26 b27 b28 b29 b30 b31 b32 b33 : Bool} {a0 : Act} (hs : a0.tmps.size = 38) : (RemB.A wr bl bh g n cs s nm lt sc As vT vB vD vI  b0 b1 b2 b3 b4 b5 b6 b7 b8 b9 b10 b11 b12 true b14 b15 b16 b17 b18 b19 b20 b21 b22 b23 b24 b25 b26 b27 b28 b29 b30 b31 b32 b33 a0).eval (.tmp 18) = undef := by
  simp [RemB.A, eval_putIf, eval_put, size_putIf, hs]
theorem RemB.p14 (wr : World) (bl bh g n cs : Nat) (s : Int) (nm : ByteArray) (lt : Bool) (sc : Int) (As : Option Addr) (vT vB vD vI : Value)   (b0 b1 b2 b3 b4 b5 b6 b7 b8 b9 b10 b11 b12 b13 b15 b16 b17 b18 b19 b20 b21 b22 b23 b24 b25 b26 b27 b28 b29 b30 b31 b32 b33 : Bool) (a0 : Act) :
    (RemB.A wr bl bh g n cs s nm lt sc As vT vB vD vI  b0 b1 b2 b3 b4 b5 b6 b7 b8 b9 b10 b11 b12 b13 false b15 b16 b17 b18 b19 b20 b21 b22 b23 b24 b25 b26 b27 b28 b29 b30 b31 b32 b33 a0).put (some 19) undef = RemB.A wr bl bh g n cs s nm lt sc As vT vB vD vI  b0 b1 b2 b3 b4 b5 b6 b7 b8 b9 b10 b11 b12 b13 true b15 b16 b17 b18 b19 b20 b21 b22 b23 b24 b25 b26 b27 b28 b29 b30 b31 b32 b33 a0 := by
  simp only [RemB.A, putIf_put, ne_eq, Nat.reduceEqDiff, not_false_eq_true]
  rfl
theorem RemB.e14 {wr : World} {bl bh g n cs : Nat} {s : Int} {nm : ByteArray} {lt : Bool} {sc : Int} {As : Option Addr} {vT vB vD vI : Value}  {b0 b1 b2 b3 b4 b5 b6 b7 b8 b9 b10 b11 b12 b13 b15 b16 b17 b18 b19 b20 b21 b22 b23 b24 b25 b26 b27 b28 b29 b30 b31 b32 b33 : Bool} {a0 : Act} (hs : a0.tmps.size = 38) : (RemB.A wr bl bh g n cs s nm lt sc As vT vB vD vI  b0 b1 b2 b3 b4 b5 b6 b7 b8 b9 b10 b11 b12 b13 true b15 b16 b17 b18 b19 b20 b21 b22 b23 b24 b25 b26 b27 b28 b29 b30 b31 b32 b33 a0).eval (.tmp 19) = undef := by
  simp [RemB.A, eval_putIf, eval_put, size_putIf, hs]
theorem RemB.p15 (wr : World) (bl bh g n cs : Nat) (s : Int) (nm : ByteArray) (lt : Bool) (sc : Int) (As : Option Addr) (vT vB vD vI : Value)   (b0 b1 b2 b3 b4 b5 b6 b7 b8 b9 b10 b11 b12 b13 b14 b16 b17 b18 b19 b20 b21 b22 b23 b24 b25 b26 b27 b28 b29 b30 b31 b32 b33 : Bool) (a0 : Act) :
    (RemB.A wr bl bh g n cs s nm lt sc As vT vB vD vI  b0 b1 b2 b3 b4 b5 b6 b7 b8 b9 b10 b11 b12 b13 b14 false b16 b17 b18 b19 b20 b21 b22 b23 b24 b25 b26 b27 b28 b29 b30 b31 b32 b33 a0).put (some 20) undef = RemB.A wr bl bh g n cs s nm lt sc As vT vB vD vI  b0 b1 b2 b3 b4 b5 b6 b7 b8 b9 b10 b11 b12 b13 b14 true b16 b17 b18 b19 b20 b21 b22 b23 b24 b25 b26 b27 b28 b29 b30 b31 b32 b33 a0 := by
  simp only [RemB.A, putIf_put, ne_eq, Nat.reduceEqDiff, not_false_eq_true]
  rfl
theorem RemB.e15 {wr : World} {bl bh g n cs : Nat} {s : Int} {nm : ByteArray} {lt : Bool} {sc : Int} {As : Option Addr} {vT vB vD vI : Value}  {b0 b1 b2 b3 b4 b5 b6 b7 b8 b9 b10 b11 b12 b13 b14 b16 b17 b18 b19 b20 b21 b22 b23 b24 b25 b26 b27 b28 b29 b30 b31 b32 b33 : Bool} {a0 : Act} (hs : a0.tmps.size = 38) : (RemB.A wr bl bh g n cs s nm lt sc As vT vB vD vI  b0 b1 b2 b3 b4 b5 b6 b7 b8 b9 b10 b11 b12 b13 b14 true b16 b17 b18 b19 b20 b21 b22 b23 b24 b25 b26 b27 b28 b29 b30 b31 b32 b33 a0).eval (.tmp 20) = undef := by
  simp [RemB.A, eval_putIf, eval_put, size_putIf, hs]
theorem RemB.p16 (wr : World) (bl bh g n cs : Nat) (s : Int) (nm : ByteArray) (lt : Bool) (sc : Int) (As : Option Addr) (vT vB vD vI : Value)   (b0 b1 b2 b3 b4 b5 b6 b7 b8 b9 b10 b11 b12 b13 b14 b15 b17 b18 b19 b20 b21 b22 b23 b24 b25 b26 b27 b28 b29 b30 b31 b32 b33 : Bool) (a0 : Act) :
    (RemB.A wr bl bh g n cs s nm lt sc As vT vB vD vI  b0 b1 b2 b3 b4 b5 b6 b7 b8 b9 b10 b11 b12 b13 b14 b15 false b17 b18 b19 b20 b21 b22 b23 b24 b25 b26 b27 b28 b29 b30 b31 b32 b33 a0).put (some 21) undef = RemB.A wr bl bh g n cs s nm lt sc As vT vB vD vI  b0 b1 b2 b3 b4 b5 b6 b7 b8 b9 b10 b11 b12 b13 b14 b15 true b17 b18 b19 b20 b21 b22 b23 b24 b25 b26 b27 b28 b29 b30 b31 b32 b33 a0 := by
  simp only [RemB.A, putIf_put, ne_eq, Nat.reduceEqDiff, not_false_eq_true]
  rfl
theorem RemB.e16 {wr : World} {bl bh g n cs : Nat} {s : Int} {nm : ByteArray} {lt : Bool} {sc : Int} {As : Option Addr} {vT vB vD vI : Value}  {b0 b1 b2 b3 b4 b5 b6 b7 b8 b9 b10 b11 b12 b13 b14 b15 b17 b18 b19 b20 b21 b22 b23 b24 b25 b26 b27 b28 b29 b30 b31 b32 b33 : Bool} {a0 : Act} (hs : a0.tmps.size = 38) : (RemB.A wr bl bh g n cs s nm lt sc As vT vB vD vI  b0 b1 b2 b3 b4 b5 b6 b7 b8 b9 b10 b11 b12 b13 b14 b15 true b17 b18 b19 b20 b21 b22 b23 b24 b25 b26 b27 b28 b29 b30 b31 b32 b33 a0).eval (.tmp 21) = undef := by
  simp [RemB.A, eval_putIf, eval_put, size_putIf, hs]
theorem RemB.p17 (wr : World) (bl bh g n cs : Nat) (s : Int) (nm : ByteArray) (lt : Bool) (sc : Int) (As : Option Addr) (vT vB vD vI : Value)   (b0 b1 b2 b3 b4 b5 b6 b7 b8 b9 b10 b11 b12 b13 b14 b15 b16 b18 b19 b20 b21 b22 b23 b24 b25 b26 b27 b28 b29 b30 b31 b32 b33 : Bool) (a0 : Act) :
    (RemB.A wr bl bh g n cs s nm lt sc As vT vB vD vI  b0 b1 b2 b3 b4 b5 b6 b7 b8 b9 b10 b11 b12 b13 b14 b15 b16 false b18 b19 b20 b21 b22 b23 b24 b25 b26 b27 b28 b29 b30 b31 b32 b33 a0).put (some 22) undef = RemB.A wr bl bh g n cs s nm lt sc As vT vB vD vI  b0 b1 b2 b3 b4 b5 b6 b7 b8 b9 b10 b11 b12 b13 b14 b15 b16 true b18 b19 b20 b21 b22 b23 b24 b25 b26 b27 b28 b29 b30 b31 b32 b33 a0 := by
  simp only [RemB.A, putIf_put, ne_eq, Nat.reduceEqDiff, not_false_eq_true]
  rfl
theorem RemB.e17 {wr : World} {bl bh g n cs : Nat} {s : Int} {nm : ByteArray} {lt : Bool} {sc : Int} {As : Option Addr} {vT vB vD vI : Value}  {b0 b1 b2 b3 b4 b5 b6 b7 b8 b9 b10 b11 b12 b13 b14 b15 b16 b18 b19 b20 b21 b22 b23 b24 b25 b26 b27 b28 b29 b30 b31 b32 b33 : Bool} {a0 : Act} (hs : a0.tmps.size = 38) : (RemB.A wr bl bh g n cs s nm lt sc As vT vB vD vI  b0 b1 b2 b3 b4 b5 b6 b7 b8 b9 b10 b11 b12 b13 b14 b15 b16 true b18 b19 b20 b21 b22 b23 b24 b25 b26 b27 b28 b29 b30 b31 b32 b33 a0).eval (.tmp 22) = undef := by
  simp [RemB.A, eval_putIf, eval_put, size_putIf, hs]
theorem RemB.p18 (wr : World) (bl bh g n cs : Nat) (s : Int) (nm : ByteArray) (lt : Bool) (sc : Int) (As : Option Addr) (vT vB vD vI : Value)   (b0 b1 b2 b3 b4 b5 b6 b7 b8 b9 b10 b11 b12 b13 b14 b15 b16 b17 b19 b20 b21 b22 b23 b24 b25 b26 b27 b28 b29 b30 b31 b32 b33 : Bool) (a0 : Act) :
    (RemB.A wr bl bh g n cs s nm lt sc As vT vB vD vI  b0 b1 b2 b3 b4 b5 b6 b7 b8 b9 b10 b11 b12 b13 b14 b15 b16 b17 false b19 b20 b21 b22 b23 b24 b25 b26 b27 b28 b29 b30 b31 b32 b33 a0).put (some 23) undef = RemB.A wr bl bh g n cs s nm lt sc As vT vB vD vI  b0 b1 b2 b3 b4 b5 b6 b7 b8 b9 b10 b11 b12 b13 b14 b15 b16 b17 true b19 b20 b21 b22 b23 b24 b25 b26 b27 b28 b29 b30 b31 b32 b33 a0 := by
  simp only [RemB.A, putIf_put, ne_eq, Nat.reduceEqDiff, not_false_eq_true]
  rfl
theorem RemB.e18 {wr : World} {bl bh g n cs : Nat} {s : Int} {nm : ByteArray} {lt : Bool} {sc : Int} {As : Option Addr} {vT vB vD vI : Value}  {b0 b1 b2 b3 b4 b5 b6 b7 b8 b9 b10 b11 b12 b13 b14 b15 b16 b17 b19 b20 b21 b22 b23 b24 b25 b26 b27 b28 b29 b30 b31 b32 b33 : Bool} {a0 : Act} (hs : a0.tmps.size = 38) : (RemB.A wr bl bh g n cs s nm lt sc As vT vB vD vI  b0 b1 b2 b3 b4 b5 b6 b7 b8 b9 b10 b11 b12 b13 b14 b15 b16 b17 true b19 b20 b21 b22 b23 b24 b25 b26 b27 b28 b29 b30 b31 b32 b33 a0).eval (.tmp 23) = undef := by
  simp [RemB.A, eval_putIf, eval_put, size_putIf, hs]
theorem RemB.p19 (wr : World) (bl bh g n cs : Nat) (s : Int) (nm : ByteArray) (lt : Bool) (sc : Int) (As : Option Addr) (vT vB vD vI : Value)   (b0 b1 b2 b3 b4 b5 b6 b7 b8 b9 b10 b11 b12 b13 b14 b15 b16 b17 b18 b20 b21 b22 b23 b24 b25 b26 b27 b28 b29 b30 b31 b32 b33 : Bool) (a0 : Act) :
    (RemB.A wr bl bh g n cs s nm lt sc As vT vB vD vI  b0 b1 b2 b3 b4 b5 b6 b7 b8 b9 b10 b11 b12 b13 b14 b15 b16 b17 b18 false b20 b21 b22 b23 b24 b25 b26 b27 b28 b29 b30 b31 b32 b33 a0).put (some 24) (.bool true) = RemB.A wr bl bh g n cs s nm lt sc As vT vB vD vI  b0 b1 b2 b3 b4 b5 b6 b7 b8 b9 b10 b11 b12 b13 b14 b15 b16 b17 b18 true b20 b21 b22 b23 b24 b25 b26 b27 b28 b29 b30 b31 b32 b33 a0 := by
  simp only [RemB.A, putIf_put, ne_eq, Nat.reduceEqDiff, not_false_eq_true]
  rfl
theorem RemB.e19 {wr : World} {bl bh g n cs : Nat} {s : Int} {nm : ByteArray} {lt : Bool} {sc : Int} {As : Option Addr} {vT vB vD vI : Value}  {b0 b1 b2 b3 b4 b5 b6 b7 b8 b9 b10 b11 b12 b13 b14 b15 b16 b17 b18 b20 b21 b22 b23 b24 b25 b26 b27 b28 b29 b30 b31 b32 b33 : Bool} {a0 : Act} (hs : a0.tmps.size = 38) : (RemB.A wr bl bh g n cs s nm lt sc As vT vB vD vI  b0 b1 b2 b3 b4 b5 b6 b7 b8 b9 b10 b11 b12 b13 b14 b15 b16 b17 b18 true b20 b21 b22 b23 b24 b25 b26 b27 b28 b29 b30 b31 b32 b33 a0).eval (.tmp 24) = (.bool true) := by
  simp [RemB.A, eval_putIf, eval_put, size_putIf, hs]
theorem RemB.p20 (wr : World) (bl bh g n cs : Nat) (s : Int) (nm : ByteArray) (lt : Bool) (sc : Int) (As : Option Addr) (vT vB vD vI : Value)   (b0 b1 b2 b3 b4 b5 b6 b7 b8 b9 b10 b11 b12 b13 b14 b15 b16 b17 b18 b19 b21 b22 b23 b24 b25 b26 b27 b28 b29 b30 b31 b32 b33 : Bool) (a0 : Act) :
    (RemB.A wr bl bh g n cs s nm lt sc As vT vB vD vI  b0 b1 b2 b3 b4 b5 b6 b7 b8 b9 b10 b11 b12 b13 b14 b15 b16 b17 b18 b19 false b21 b22 b23 b24 b25 b26 b27 b28 b29 b30 b31 b32 b33 a0).put (some 25) (.bool true) = RemB.A wr bl bh g n cs s nm lt sc As vT vB vD vI  b0 b1 b2 b3 b4 b5 b6 b7 b8 b9 b10 b11 b12 b13 b14 b15 b16 b17 b18 b19 true b21 b22 b23 b24 b25 b26 b27 b28 b29 b30 b31 b32 b33 a0 := by
  simp only [RemB.A, putIf_put, ne_eq, Nat.reduceEqDiff, not_false_eq_true]
  rfl
theorem RemB.e20 {wr : World} {bl bh g n cs : Nat} {s : Int} {nm : ByteArray} {lt : Bool} {sc : Int} {As : Option Addr} {vT vB vD vI : Value}  {b0 b1 b2 b3 b4 b5 b6 b7 b8 b9 b10 b11 b12 b13 b14 b15 b16 b17 b18 b19 b21 b22 b23 b24 b25 b26 b27 b28 b29 b30 b31 b32 b33 : Bool} {a0 : Act} (hs : a0.tmps.size = 38) : (RemB.A wr bl bh g n cs s nm lt sc As vT vB vD vI  b0 b1 b2 b3 b4 b5 b6 b7 b8 b9 b10 b11 b12 b13 b14 b15 b16 b17 b18 b19 true b21 b22 b23 b24 b25 b26 b27 b28 b29 b30 b31 b32 b33 a0).eval (.tmp 25) = (.bool true) := by
  simp [RemB.A, eval_putIf, eval_put, size_putIf, hs]
theorem RemB.p21 (wr : World) (bl bh g n cs : Nat) (s : Int) (nm : ByteArray) (lt : Bool) (sc : Int) (As : Option Addr) (vT vB vD vI : Value)   (b0 b1 b2 b3 b4 b5 b6 b7 b8 b9 b10 b11 b12 b13 b14 b15 b16 b17 b18 b19 b20 b22 b23 b24 b25 b26 b27 b28 b29 b30 b31 b32 b33 : Bool) (a0 : Act) :
    (RemB.A wr bl bh g n cs s nm lt sc As vT vB vD vI  b0 b1 b2 b3 b4 b5 b6 b7 b8 b9 b10 b11 b12 b13 b14 b15 b16 b17 b18 b19 b20 false b22 b23 b24 b25 b26 b27 b28 b29 b30 b31 b32 b33 a0).put (some 26) undef = RemB.A wr bl bh g n cs s nm lt sc As vT vB vD vI  b0 b1 b2 b3 b4 b5 b6 b7 b8 b9 b10 b11 b12 b13 b14 b15 b16 b17 b18 b19 b20 true b22 b23 b24 b25 b26 b27 b28 b29 b30 b31 b32 b33 a0 := by
  simp only [RemB.A, putIf_put, ne_eq, Nat.reduceEqDiff, not_false_eq_true]
  rfl
theorem RemB.e21 {wr : World} {bl bh g n cs : Nat} {s : Int} {nm : ByteArray} {lt : Bool} {sc : Int} {As : Option Addr} {vT vB vD vI : Value}  {b0 b1 b2 b3 b4 b5 b6 b7 b8 b9 b10 b11 b12 b13 b14 b15 b16 b17 b18 b19 b20 b22 b23 b24 b25 b26 b27 b28 b29 b30 b31 b32 b33 : Bool} {a0 : Act} (hs : a0.tmps.size = 38) : (RemB.A wr bl bh g n cs s nm lt sc As vT vB vD vI  b0 b1 b2 b3 b4 b5 b6 b7 b8 b9 b10 b11 b12 b13 b14 b15 b16 b17 b18 b19 b20 true b22 b23 b24 b25 b26 b27 b28 b29 b30 b31 b32 b33 a0).eval (.tmp 26) = undef := by
  simp [RemB.A, eval_putIf, eval_put, size_putIf, hs]
theorem RemB.p22 (wr : World) (bl bh g n cs : Nat) (s : Int) (nm : ByteArray) (lt : Bool) (sc : Int) (As : Option Addr) (vT vB vD vI : Value)   (b0 b1 b2 b3 b4 b5 b6 b7 b8 b9 b10 b11 b12 b13 b14 b15 b16 b17 b18 b19 b20 b21 b23 b24 b25 b26 b27 b28 b29 b30 b31 b32 b33 : Bool) (a0 : Act) :
    (RemB.A wr bl bh g n cs s nm lt sc As vT vB vD vI  b0 b1 b2 b3 b4 b5 b6 b7 b8 b9 b10 b11 b12 b13 b14 b15 b16 b17 b18 b19 b20 b21 false b23 b24 b25 b26 b27 b28 b29 b30 b31 b32 b33 a0).put (some 27) undef = RemB.A wr bl bh g n cs s nm lt sc As vT vB vD vI  b0 b1 b2 b3 b4 b5 b6 b7 b8 b9 b10 b11 b12 b13 b14 b15 b16 b17 b18 b19 b20 b21 true b23 b24 b25 b26 b27 b28 b29 b30 b31 b32 b33 a0 := by
  simp only [RemB.A, putIf_put, ne_eq, Nat.reduceEqDiff, not_false_eq_true]
  rfl
theorem RemB.e22 {wr : World} {bl bh g n cs : Nat} {s : Int} {nm : ByteArray} {lt : Bool} {sc : Int} {As : Option Addr} {vT vB vD vI : Value}  {b0 b1 b2 b3 b4 b5 b6 b7 b8 b9 b10 b11 b12 b13 b14 b15 b16 b17 b18 b19 b20 b21 b23 b24 b25 b26 b27 b28 b29 b30 b31 b32 b33 : Bool} {a0 : Act} (hs : a0.tmps.size = 38) : (RemB.A wr bl bh g n cs s nm lt sc As vT vB vD vI  b0 b1 b2 b3 b4 b5 b6 b7 b8 b9 b10 b11 b12 b13 b14 b15 b16 b17 b18 b19 b20 b21 true b23 b24 b25 b26 b27 b28 b29 b30 b31 b32 b33 a0).eval (.tmp 27) = undef := by
  simp [RemB.A, eval_putIf, eval_put, size_putIf, hs]
theorem RemB.p23 (wr : World) (bl bh g n cs : Nat) (s : Int) (nm : ByteArray) (lt : Bool) (sc : Int) (As : Option Addr) (vT vB vD vI : Value)   (b0 b1 b2 b3 b4 b5 b6 b7 b8 b9 b10 b11 b12 b13 b14 b15 b16 b17 b18 b19 b20 b21 b22 b24 b25 b26 b27 b28 b29 b30 b31 b32 b33 : Bool) (a0 : Act) :
    (RemB.A wr bl bh g n cs s nm lt sc As vT vB vD vI  b0 b1 b2 b3 b4 b5 b6 b7 b8 b9 b10 b11 b12 b13 b14 b15 b16 b17 b18 b19 b20 b21 b22 false b24 b25 b26 b27 b28 b29 b30 b31 b32 b33 a0).put (some 28) undef = RemB.A wr bl bh g n cs s nm lt sc As vT vB vD vI  b0 b1 b2 b3 b4 b5 b6 b7 b8 b9 b10 b11 b12 b13 b14 b15 b16 b17 b18 b19 b20 b21 b22 true b24 b25 b26 b27 b28 b29 b30 b31 b32 b33 a0 := by
  simp only [RemB.A, putIf_put, ne_eq, Nat.reduceEqDiff, not_false_eq_true]
  rfl
theorem RemB.e23 {wr : World} {bl bh g n cs : Nat} {s : Int} {nm : ByteArray} {lt : Bool} {sc : Int} {As : Option Addr} {vT vB vD vI : Value}  {b0 b1 b2 b3 b4 b5 b6 b7 b8 b9 b10 b11 b12 b13 b14 b15 b16 b17 b18 b19 b20 b21 b22 b24 b25 b26 b27 b28 b29 b30 b31 b32 b33 : Bool} {a0 : Act} (hs : a0.tmps.size = 38) : (RemB.A wr bl bh g n cs s nm lt sc As vT vB vD vI  b0 b1 b2 b3 b4 b5 b6 b7 b8 b9 b10 b11 b12 b13 b14 b15 b16 b17 b18 b19 b20 b21 b22 true b24 b25 b26 b27 b28 b29 b30 b31 b32 b33 a0).eval (.tmp 28) = undef := by
  simp [RemB.A, eval_putIf, eval_put, size_putIf, hs]
theorem RemB.p24 (wr : World) (bl bh g n cs : Nat) (s : Int) (nm : ByteArray) (lt : Bool) (sc : Int) (As : Option Addr) (vT vB vD vI : Value)   (b0 b1 b2 b3 b4 b5 b6 b7 b8 b9 b10 b11 b12 b13 b14 b15 b16 b17 b18 b19 b20 b21 b22 b23 b25 b26 b27 b28 b29 b30 b31 b32 b33 : Bool) (a0 : Act) :
    (RemB.A wr bl bh g n cs s nm lt sc As vT vB vD vI  b0 b1 b2 b3 b4 b5 b6 b7 b8 b9 b10 b11 b12 b13 b14 b15 b16 b17 b18 b19 b20 b21 b22 b23 false b25 b26 b27 b28 b29 b30 b31 b32 b33 a0).put (some 29) undef = RemB.A wr bl bh g n cs s nm lt sc As vT vB vD vI  b0 b1 b2 b3 b4 b5 b6 b7 b8 b9 b10 b11 b12 b13 b14 b15 b16 b17 b18 b19 b20 b21 b22 b23 true b25 b26 b27 b28 b29 b30 b31 b32 b33 a0 := by
  simp only [RemB.A, putIf_put, ne_eq, Nat.reduceEqDiff, not_false_eq_true]
  rfl
theorem RemB.e24 {wr : World} {bl bh g n cs : Nat} {s : Int} {nm : ByteArray} {lt : Bool} {sc : Int} {As : Option Addr} {vT vB vD vI : Value}  {b0 b1 b2 b3 b4 b5 b6 b7 b8 b9 b10 b11 b12 b13 b14 b15 b16 b17 b18 b19 b20 b21 b22 b23 b25 b26 b27 b28 b29 b30 b31 b32 b33 : Bool} {a0 : Act} (hs : a0.tmps.size = 38) : (RemB.A wr bl bh g n cs s nm lt sc As vT vB vD vI  b0 b1 b2 b3 b4 b5 b6 b7 b8 b9 b10 b11 b12 b13 b14 b15 b16 b17 b18 b19 b20 b21 b22 b23 true b25 b26 b27 b28 b29 b30 b31 b32 b33 a0).eval (.tmp 29) = undef := by
  simp [RemB.A, eval_putIf, eval_put, size_putIf, hs]
theorem RemB.p25 (wr : World) (bl bh g n cs : Nat) (s : Int) (nm : ByteArray) (lt : Bool) (sc : Int) (As : Option Addr) (vT vB vD vI : Value)   (b0 b1 b2 b3 b4 b5 b6 b7 b8 b9 b10 b11 b12 b13 b14 b15 b16 b17 b18 b19 b20 b21 b22 b23 b24 b26 b27 b28 b29 b30 b31 b32 b33 : Bool) (a0 : Act) :
    (RemB.A wr bl bh g n cs s nm lt sc As vT vB vD vI  b0 b1 b2 b3 b4 b5 b6 b7 b8 b9 b10 b11 b12 b13 b14 b15 b16 b17 b18 b19 b20 b21 b22 b23 b24 false b26 b27 b28 b29 b30 b31 b32 b33 a0).put (some 30) undef = RemB.A wr bl bh g n cs s nm lt sc As vT vB vD vI  b0 b1 b2 b3 b4 b5 b6 b7 b8 b9 b10 b11 b12 b13 b14 b15 b16 b17 b18 b19 b20 b21 b22 b23 b24 true b26 b27 b28 b29 b30 b31 b32 b33 a0 := by
  simp only [RemB.A, putIf_put, ne_eq, Nat.reduceEqDiff, not_false_eq_true]
  rfl
theorem RemB.e25 {wr : World} {bl bh g n cs : Nat} {s : Int} {nm : ByteArray} {lt : Bool} {sc : Int} {As : Option Addr} {vT vB vD vI : Value}  {b0 b1 b2 b3 b4 b5 b6 b7 b8 b9 b10 b11 b12 b13 b14 b15 b16 b17 b18 b19 b20 b21 b22 b23 b24 b26 b27 b28 b29 b30 b31 b32 b33 : Bool} {a0 : Act} (hs : a0.tmps.size = 38) : (RemB.A wr bl bh g n cs s nm lt sc As vT vB vD vI  b0 b1 b2 b3 b4 b5 b6 b7 b8 b9 b10 b11 b12 b13 b14 b15 b16 b17 b18 b19 b20 b21 b22 b23 b24 true b26 b27 b28 b29 b30 b31 b32 b33 a0).eval (.tmp 30) = undef := by
  simp [RemB.A, eval_putIf, eval_put, size_putIf, hs]
theorem RemB.p26 (wr : World) (bl bh g n cs : Nat) (s : Int) (nm : ByteArray) (lt : Bool) (sc : Int) (As : Option Addr) (vT vB vD vI : Value)   (b0 b1 b2 b3 b4 b5 b6 b7 b8 b9 b10 b11 b12 b13 b14 b15 b16 b17 b18 b19 b20 b21 b22 b23 b24 b25 b27 b28 b29 b30 b31 b32 b33 : Bool) (a0 : Act) :
    (RemB.A wr bl bh g n cs s nm lt sc As vT vB vD vI  b0 b1 b2 b3 b4 b5 b6 b7 b8 b9 b10 b11 b12 b13 b14 b15 b16 b17 b18 b19 b20 b21 b22 b23 b24 b25 false b27 b28 b29 b30 b31 b32 b33 a0).put (some 31) undef = RemB.A wr bl bh g n cs s nm lt sc As vT vB vD vI  b0 b1 b2 b3 b4 b5 b6 b7 b8 b9 b10 b11 b12 b13 b14 b15 b16 b17 b18 b19 b20 b21 b22 b23 b24 b25 true b27 b28 b29 b30 b31 b32 b33 a0 := by
  simp only [RemB.A, putIf_put, ne_eq, Nat.reduceEqDiff, not_false_eq_true]
  rfl
theorem RemB.e26 {wr : World} {bl bh g n cs : Nat} {s : Int} {nm : ByteArray} {lt : Bool} {sc : Int} {As : Option Addr} {vT vB vD vI : Value}  {b0 b1 b2 b3 b4 b5 b6 b7 b8 b9 b10 b11 b12 b13 b14 b15 b16 b17 b18 b19 b20 b21 b22 b23 b24 b25 b27 b28 b29 b30 b31 b32 b33 : Bool} {a0 : Act} (hs : a0.tmps.size = 38) : (RemB.A wr bl bh g n cs s nm lt sc As vT vB vD vI  b0 b1 b2 b3 b4 b5 b6 b7 b8 b9 b10 b11 b12 b13 b14 b15 b16 b17 b18 b19 b20 b21 b22 b23 b24 b25 true b27 b28 b29 b30 b31 b32 b33 a0).eval (.tmp 31) = undef := by
  simp [RemB.A, eval_putIf, eval_put, size_putIf, hs]
theorem RemB.p27 (wr : World) (bl bh g n cs : Nat) (s : Int) (nm : ByteArray) (lt : Bool) (sc : Int) (As : Option Addr) (vT vB vD vI : Value)   (b0 b1 b2 b3 b4 b5 b6 b7 b8 b9 b10 b11 b12 b13 b14 b15 b16 b17 b18 b19 b20 b21 b22 b23 b24 b25 b26 b28 b29 b30 b31 b32 b33 : Bool) (a0 : Act) :
    (RemB.A wr bl bh g n cs s nm lt sc As vT vB vD vI  b0 b1 b2 b3 b4 b5 b6 b7 b8 b9 b10 b11 b12 b13 b14 b15 b16 b17 b18 b19 b20 b21 b22 b23 b24 b25 b26 false b28 b29 b30 b31 b32 b33 a0).put (some 32) undef = RemB.A wr bl bh g n cs s nm lt sc As vT vB vD vI  b0 b1 b2 b3 b4 b5 b6 b7 b8 b9 b10 b11 b12 b13 b14 b15 b16 b17 b18 b19 b20 b21 b22 b23 b24 b25 b26 true b28 b29 b30 b31 b32 b33 a0 := by
  simp only [RemB.A, putIf_put, ne_eq, Nat.reduceEqDiff, not_false_eq_true]
  rfl
theorem RemB.e27 {wr : World} {bl bh g n cs : Nat} {s : Int} {nm : ByteArray} {lt : Bool} {sc : Int} {As : Option Addr} {vT vB vD vI : Value}  {b0 b1 b2 b3 b4 b5 b6 b7 b8 b9 b10 b11 b12 b13 b14 b15 b16 b17 b18 b19 b20 b21 b22 b23 b24 b25 b26 b28 b29 b30 b31 b32 b33 : Bool} {a0 : Act} (hs : a0.tmps.size = 38) : (RemB.A wr bl bh g n cs s nm lt sc As vT vB vD vI  b0 b1 b2 b3 b4 b5 b6 b7 b8 b9 b10 b11 b12 b13 b14 b15 b16 b17 b18 b19 b20 b21 b22 b23 b24 b25 b26 true b28 b29 b30 b31 b32 b33 a0).eval (.tmp 32) = undef := by
  simp [RemB.A, eval_putIf, eval_put, size_putIf, hs]
theorem RemB.p28 (wr : World) (bl bh g n cs : Nat) (s : Int) (nm : ByteArray) (lt : Bool) (sc : Int) (As : Option Addr) (vT vB vD vI : Value)   (b0 b1 b2 b3 b4 b5 b6 b7 b8 b9 b10 b11 b12 b13 b14 b15 b16 b17 b18 b19 b20 b21 b22 b23 b24 b25 b26 b27 b29 b30 b31 b32 b33 : Bool) (a0 : Act) :
    (RemB.A wr bl bh g n cs s nm lt sc As vT vB vD vI  b0 b1 b2 b3 b4 b5 b6 b7 b8 b9 b10 b11 b12 b13 b14 b15 b16 b17 b18 b19 b20 b21 b22 b23 b24 b25 b26 b27 false b29 b30 b31 b32 b33 a0).put (some 33) undef = RemB.A wr bl bh g n cs s nm lt sc As vT vB vD vI  b0 b1 b2 b3 b4 b5 b6 b7 b8 b9 b10 b11 b12 b13 b14 b15 b16 b17 b18 b19 b20 b21 b22 b23 b24 b25 b26 b27 true b29 b30 b31 b32 b33 a0 := by
  simp only [RemB.A, putIf_put, ne_eq, Nat.reduceEqDiff, not_false_eq_true]
  rfl
theorem RemB.e28 {wr : World} {bl bh g n cs : Nat} {s : Int} {nm : ByteArray} {lt : Bool} {sc : Int} {As : Option Addr} {vT vB vD vI : Value}  {b0 b1 b2 b3 b4 b5 b6 b7 b8 b9 b10 b11 b12 b13 b14 b15 b16 b17 b18 b19 b20 b21 b22 b23 b24 b25 b26 b27 b29 b30 b31 b32 b33 : Bool} {a0 : Act} (hs : a0.tmps.size = 38) : (RemB.A wr bl bh g n cs s nm lt sc As vT vB vD vI  b0 b1 b2 b3 b4 b5 b6 b7 b8 b9 b10 b11 b12 b13 b14 b15 b16 b17 b18 b19 b20 b21 b22 b23 b24 b25 b26 b27 true b29 b30 b31 b32 b33 a0).eval (.tmp 33) = undef := by
  simp [RemB.A, eval_putIf, eval_put, size_putIf, hs]
theorem RemB.p29 (wr : World) (bl bh g n cs : Nat) (s : Int) (nm : ByteArray) (lt : Bool) (sc : Int) (As : Option Addr) (vT vB vD vI : Value)   (b0 b1 b2 b3 b4 b5 b6 b7 b8 b9 b10 b11 b12 b13 b14 b15 b16 b17 b18 b19 b20 b21 b22 b23 b24 b25 b26 b27 b28 b30 b31 b32 b33 : Bool) (a0 : Act) :
    (RemB.A wr bl bh g n cs s nm lt sc As vT vB vD vI  b0 b1 b2 b3 b4 b5 b6 b7 b8 b9 b10 b11 b12 b13 b14 b15 b16 b17 b18 b19 b20 b21 b22 b23 b24 b25 b26 b27 b28 false b30 b31 b32 b33 a0).put (some 34) undef = RemB.A wr bl bh g n cs s nm lt sc As vT vB vD vI  b0 b1 b2 b3 b4 b5 b6 b7 b8 b9 b10 b11 b12 b13 b14 b15 b16 b17 b18 b19 b20 b21 b22 b23 b24 b25 b26 b27 b28 true b30 b31 b32 b33 a0 := by
  simp only [RemB.A, putIf_put, ne_eq, Nat.reduceEqDiff, not_false_eq_true]
  rfl
theorem RemB.e29 {wr : World} {bl bh g n cs : Nat} {s : Int} {nm : ByteArray} {lt : Bool} {sc : Int} {As : Option Addr} {vT vB vD vI : Value}  {b0 b1 b2 b3 b4 b5 b6 b7 b8 b9 b10 b11 b12 b13 b14 b15 b16 b17 b18 b19 b20 b21 b22 b23 b24 b25 b26 b27 b28 b30 b31 b32 b33 : Bool} {a0 : Act} (hs : a0.tmps.size = 38) : (RemB.A wr bl bh g n cs s nm lt sc As vT vB vD vI  b0 b1 b2 b3 b4 b5 b6 b7 b8 b9 b10 b11 b12 b13 b14 b15 b16 b17 b18 b19 b20 b21 b22 b23 b24 b25 b26 b27 b28 true b30 b31 b32 b33 a0).eval (.tmp 34) = undef := by
  simp [RemB.A, eval_putIf, eval_put, size_putIf, hs]
theorem RemB.p30 (wr : World) (bl bh g n cs : Nat) (s : Int) (nm : ByteArray) (lt : Bool) (sc : Int) (As : Option Addr) (vT vB vD vI : Value)   (b0 b1 b2 b3 b4 b5 b6 b7 b8 b9 b10 b11 b12 b13 b14 b15 b16 b17 b18 b19 b20 b21 b22 b23 b24 b25 b26 b27 b28 b29 b31 b32 b33 : Bool) (a0 : Act) :
    (RemB.A wr bl bh g n cs s nm lt sc As vT vB vD vI  b0 b1 b2 b3 b4 b5 b6 b7 b8 b9 b10 b11 b12 b13 b14 b15 b16 b17 b18 b19 b20 b21 b22 b23 b24 b25 b26 b27 b28 b29 false b31 b32 b33 a0).put (some 35) undef = RemB.A wr bl bh g n cs s nm lt sc As vT vB vD vI  b0 b1 b2 b3 b4 b5 b6 b7 b8 b9 b10 b11 b12 b13 b14 b15 b16 b17 b18 b19 b20 b21 b22 b23 b24 b25 b26 b27 b28 b29 true b31 b32 b33 a0 := by
  simp only [RemB.A, putIf_put, ne_eq, Nat.reduceEqDiff, not_false_eq_true]
  rfl
theorem RemB.e30 {wr : World} {bl bh g n cs : Nat} {s : Int} {nm : ByteArray} {lt : Bool} {sc : Int} {As : Option Addr} {vT vB vD vI : Value}  {b0 b1 b2 b3 b4 b5 b6 b7 b8 b9 b10 b11 b12 b13 b14 b15 b16 b17 b18 b19 b20 b21 b22 b23 b24 b25 b26 b27 b28 b29 b31 b32 b33 : Bool} {a0 : Act} (hs : a0.tmps.size = 38) : (RemB.A wr bl bh g n cs s nm lt sc As vT vB vD vI  b0 b1 b2 b3 b4 b5 b6 b7 b8 b9 b10 b11 b12 b13 b14 b15 b16 b17 b18 b19 b20 b21 b22 b23 b24 b25 b26 b27 b28 b29 true b31 b32 b33 a0).eval (.tmp 35) = undef := by
  simp [RemB.A, eval_putIf, eval_put, size_putIf, hs]
theorem RemB.p31 (wr : World) (bl bh g n cs : Nat) (s : Int) (nm : ByteArray) (lt : Bool) (sc : Int) (As : Option Addr) (vT vB vD vI : Value)   (b0 b1 b2 b3 b4 b5 b6 b7 b8 b9 b10 b11 b12 b13 b14 b15 b16 b17 b18 b19 b20 b21 b22 b23 b24 b25 b26 b27 b28 b29 b30 b32 b33 : Bool) (a0 : Act) :
    (RemB.A wr bl bh g n cs s nm lt sc As vT vB vD vI  b0 b1 b2 b3 b4 b5 b6 b7 b8 b9 b10 b11 b12 b13 b14 b15 b16 b17 b18 b19 b20 b21 b22 b23 b24 b25 b26 b27 b28 b29 b30 false b32 b33 a0).put (some 36) undef = RemB.A wr bl bh g n cs s nm lt sc As vT vB vD vI  b0 b1 b2 b3 b4 b5 b6 b7 b8 b9 b10 b11 b12 b13 b14 b15 b16 b17 b18 b19 b20 b21 b22 b23 b24 b25 b26 b27 b28 b29 b30 true b32 b33 a0 := by
  simp only [RemB.A, putIf_put, ne_eq, Nat.reduceEqDiff, not_false_eq_true]
  rfl
theorem RemB.e31 {wr : World} {bl bh g n cs : Nat} {s : Int} {nm : ByteArray} {lt : Bool} {sc : Int} {As : Option Addr} {vT vB vD vI : Value}  {b0 b1 b2 b3 b4 b5 b6 b7 b8 b9 b10 b11 b12 b13 b14 b15 b16 b17 b18 b19 b20 b21 b22 b23 b24 b25 b26 b27 b28 b29 b30 b32 b33 : Bool} {a0 : Act} (hs : a0.tmps.size = 38) : (RemB.A wr bl bh g n cs s nm lt sc As vT vB vD vI  b0 b1 b2 b3 b4 b5 b6 b7 b8 b9 b10 b11 b12 b13 b14 b15 b16 b17 b18 b19 b20 b21 b22 b23 b24 b25 b26 b27 b28 b29 b30 true b32 b33 a0).eval (.tmp 36) = undef := by
  simp [RemB.A, eval_putIf, eval_put, size_putIf, hs]
theorem RemB.p32 (wr : World) (bl bh g n cs : Nat) (s : Int) (nm : ByteArray) (lt : Bool) (sc : Int) (As : Option Addr) (vT vB vD vI : Value)   (b0 b1 b2 b3 b4 b5 b6 b7 b8 b9 b10 b11 b12 b13 b14 b15 b16 b17 b18 b19 b20 b21 b22 b23 b24 b25 b26 b27 b28 b29 b30 b31 b33 : Bool) (a0 : Act) :
    (RemB.A wr bl bh g n cs s nm lt sc As vT vB vD vI  b0 b1 b2 b3 b4 b5 b6 b7 b8 b9 b10 b11 b12 b13 b14 b15 b16 b17 b18 b19 b20 b21 b22 b23 b24 b25 b26 b27 b28 b29 b30 b31 false b33 a0).put (some 37) (.bool true) = RemB.A wr bl bh g n cs s nm lt sc As vT vB vD vI  b0 b1 b2 b3 b4 b5 b6 b7 b8 b9 b10 b11 b12 b13 b14 b15 b16 b17 b18 b19 b20 b21 b22 b23 b24 b25 b26 b27 b28 b29 b30 b31 true b33 a0 := by
  simp only [RemB.A, putIf_put, ne_eq, Nat.reduceEqDiff, not_false_eq_true]
  rfl
theorem RemB.e32 {wr : World} {bl bh g n cs : Nat} {s : Int} {nm : ByteArray} {lt : Bool} {sc : Int} {As : Option Addr} {vT vB vD vI : Value}  {b0 b1 b2 b3 b4 b5 b6 b7 b8 b9 b10 b11 b12 b13 b14 b15 b16 b17 b18 b19 b20 b21 b22 b23 b24 b25 b26 b27 b28 b29 b30 b31 b33 : Bool} {a0 : Act} (hs : a0.tmps.size = 38) : (RemB.A wr bl bh g n cs s nm lt sc As vT vB vD vI  b0 b1 b2 b3 b4 b5 b6 b7 b8 b9 b10 b11 b12 b13 b14 b15 b16 b17 b18 b19 b20 b21 b22 b23 b24 b25 b26 b27 b28 b29 b30 b31 true b33 a0).eval (.tmp 37) = (.bool true) := by
  simp [RemB.A, eval_putIf, eval_put, size_putIf, hs]
theorem RemB.p33 (wr : World) (bl bh g n cs : Nat) (s : Int) (nm : ByteArray) (lt : Bool) (sc : Int) (As : Option Addr) (vT vB vD vI : Value)   (b0 b1 b2 b3 b4 b5 b6 b7 b8 b9 b10 b11 b12 b13 b14 b15 b16 b17 b18 b19 b20 b21 b22 b23 b24 b25 b26 b27 b28 b29 b30 b31 b32 : Bool) (a0 : Act) :
    (RemB.A wr bl bh g n cs s nm lt sc As vT vB vD vI  b0 b1 b2 b3 b4 b5 b6 b7 b8 b9 b10 b11 b12 b13 b14 b15 b16 b17 b18 b19 b20 b21 b22 b23 b24 b25 b26 b27 b28 b29 b30 b31 b32 false a0).put (some 4) (.bool true) = RemB.A wr bl bh g n cs s nm lt sc As vT vB vD vI  b0 b1 b2 b3 b4 b5 b6 b7 b8 b9 b10 b11 b12 b13 b14 b15 b16 b17 b18 b19 b20 b21 b22 b23 b24 b25 b26 b27 b28 b29 b30 b31 b32 true a0 := by
  simp only [RemB.A, putIf_put, ne_eq, Nat.reduceEqDiff, not_false_eq_true]
  rfl
theorem RemB.e33 {wr : World} {bl bh g n cs : Nat} {s : Int} {nm : ByteArray} {lt : Bool} {sc : Int} {As : Option Addr} {vT vB vD vI : Value}  {b0 b1 b2 b3 b4 b5 b6 b7 b8 b9 b10 b11 b12 b13 b14 b15 b16 b17 b18 b19 b20 b21 b22 b23 b24 b25 b26 b27 b28 b29 b30 b31 b32 : Bool} {a0 : Act} (hs : a0.tmps.size = 38) : (RemB.A wr bl bh g n cs s nm lt sc As vT vB vD vI  b0 b1 b2 b3 b4 b5 b6 b7 b8 b9 b10 b11 b12 b13 b14 b15 b16 b17 b18 b19 b20 b21 b22 b23 b24 b25 b26 b27 b28 b29 b30 b31 b32 true a0).eval (.tmp 4) = (.bool true) := by
  simp [RemB.A, eval_putIf, eval_put, size_putIf, hs]
theorem RemB.z (wr : World) (bl bh g n cs : Nat) (s : Int) (nm : ByteArray) (lt : Bool) (sc : Int) (As : Option Addr) (vT vB vD vI : Value)  (a0 : Act) : a0 = RemB.A wr bl bh g n cs s nm lt sc As vT vB vD vI  false false false false false false false false false false false false false false false false false false false false false false false false false false false false false false false false false false a0 := rfl
theorem RemB.size {wr : World} {bl bh g n cs : Nat} {s : Int} {nm : ByteArray} {lt : Bool} {sc : Int} {As : Option Addr} {vT vB vD vI : Value}  {b0 b1 b2 b3 b4 b5 b6 b7 b8 b9 b10 b11 b12 b13 b14 b15 b16 b17 b18 b19 b20 b21 b22 b23 b24 b25 b26 b27 b28 b29 b30 b31 b32 b33 : Bool} {a0 : Act} : (RemB.A wr bl bh g n cs s nm lt sc As vT vB vD vI  b0 b1 b2 b3 b4 b5 b6 b7 b8 b9 b10 b11 b12 b13 b14 b15 b16 b17 b18 b19 b20 b21 b22 b23 b24 b25 b26 b27 b28 b29 b30 b31 b32 b33 a0).tmps.size = a0.tmps.size := by
  simp [RemB.A, size_putIf]
theorem RemB.f0 {wr : World} {bl bh g n cs : Nat} {s : Int} {nm : ByteArray} {lt : Bool} {sc : Int} {As : Option Addr} {vT vB vD vI : Value}  {b0 b1 b2 b3 b4 b5 b6 b7 b8 b9 b10 b11 b12 b13 b14 b15 b16 b17 b18 b19 b20 b21 b22 b23 b24 b25 b26 b27 b28 b29 b30 b31 b32 b33 : Bool} {a0 : Act} : (RemB.A wr bl bh g n cs s nm lt sc As vT vB vD vI  b0 b1 b2 b3 b4 b5 b6 b7 b8 b9 b10 b11 b12 b13 b14 b15 b16 b17 b18 b19 b20 b21 b22 b23 b24 b25 b26 b27 b28 b29 b30 b31 b32 b33 a0).eval (.tmp 0) = a0.eval (.tmp 0) := by
  simp [RemB.A, eval_putIf]
theorem RemB.f1 {wr : World} {bl bh g n cs : Nat} {s : Int} {nm : ByteArray} {lt : Bool} {sc : Int} {As : Option Addr} {vT vB vD vI : Value}  {b0 b1 b2 b3 b4 b5 b6 b7 b8 b9 b10 b11 b12 b13 b14 b15 b16 b17 b18 b19 b20 b21 b22 b23 b24 b25 b26 b27 b28 b29 b30 b31 b32 b33 : Bool} {a0 : Act} : (RemB.A wr bl bh g n cs s nm lt sc As vT vB vD vI  b0 b1 b2 b3 b4 b5 b6 b7 b8 b9 b10 b11 b12 b13 b14 b15 b16 b17 b18 b19 b20 b21 b22 b23 b24 b25 b26 b27 b28 b29 b30 b31 b32 b33 a0).eval (.tmp 1) = a0.eval (.tmp 1) := by
  simp [RemB.A, eval_putIf]
theorem RemB.f2 {wr : World} {bl bh g n cs : Nat} {s : Int} {nm : ByteArray} {lt : Bool} {sc : Int} {As : Option Addr} {vT vB vD vI : Value}  {b0 b1 b2 b3 b4 b5 b6 b7 b8 b9 b10 b11 b12 b13 b14 b15 b16 b17 b18 b19 b20 b21 b22 b23 b24 b25 b26 b27 b28 b29 b30 b31 b32 b33 : Bool} {a0 : Act} : (RemB.A wr bl bh g n cs s nm lt sc As vT vB vD vI  b0 b1 b2 b3 b4 b5 b6 b7 b8 b9 b10 b11 b12 b13 b14 b15 b16 b17 b18 b19 b20 b21 b22 b23 b24 b25 b26 b27 b28 b29 b30 b31 b32 b33 a0).eval (.tmp 2) = a0.eval (.tmp 2) := by
  simp [RemB.A, eval_putIf]
def RemB.B (wr : World) (bl bh g n cs : Nat) (s : Int) (nm : ByteArray) (lt : Bool) (sc : Int) (As : Option Addr) (vT vB vD vI : Value) (a0 : Act) : Prop := a0.tmps.size = 38 ∧ a0.eval (.tmp 0) = (.int .i64 s) ∧ a0.eval (.tmp 1) = (.pointer (some ⟨bl, 0, none⟩)) ∧ a0.eval (.tmp 2) = (.pointer (some ⟨bh, 0, none⟩))
def RemB.I (wr : World) (bl bh g n cs : Nat) (s : Int) (nm : ByteArray) (lt : Bool) (sc : Int) (As : Option Addr) (vT vB vD vI : Value)  (b0 b1 b2 b3 b4 b5 b6 b7 b8 b9 b10 b11 b12 b13 b14 b15 b16 b17 b18 b19 b20 b21 b22 b23 b24 b25 b26 b27 b28 b29 b30 b31 b32 b33 : Bool) (w : World) : Prop := Fr [] wr w
/-- What stays true inside the region, whatever has come up. -/
def RemB.J (wr : World) (bl bh g n cs : Nat) (s : Int) (nm : ByteArray) (lt : Bool) (sc : Int) (As : Option Addr) (vT vB vD vI : Value) (a0 : Act) (l : Array Bool) (a : Act) (w : World) : Prop :=
  RemB.B wr bl bh g n cs s nm lt sc As vT vB vD vI a0 ∧ ∃ b0 b1 b2 b3 b4 b5 b6 b7 b8 b9 b10 b11 b12 b13 b14 b15 b16 b17 b18 b19 b20 b21 b22 b23 b24 b25 b26 b27 b28 b29 b30 b31 b32 b33, l = #[b0, b1, b2, b3, b4, b5, b6, b7, b8, b9, b10, b11, b12, b13, b14, b15, b16, b17, b18, b19, b20, b21, b22, b23, b24, b25, b26, b27, b28, b29, b30, b31, b32, b33] ∧ a = RemB.A wr bl bh g n cs s nm lt sc As vT vB vD vI  b0 b1 b2 b3 b4 b5 b6 b7 b8 b9 b10 b11 b12 b13 b14 b15 b16 b17 b18 b19 b20 b21 b22 b23 b24 b25 b26 b27 b28 b29 b30 b31 b32 b33 a0 ∧ RemB.I wr bl bh g n cs s nm lt sc As vT vB vD vI  b0 b1 b2 b3 b4 b5 b6 b7 b8 b9 b10 b11 b12 b13 b14 b15 b16 b17 b18 b19 b20 b21 b22 b23 b24 b25 b26 b27 b28 b29 b30 b31 b32 b33 w
attribute [irreducible] RemB.A

set_option maxRecDepth 100000 in
set_option maxHeartbeats 8000000 in
theorem rem_b {Q : Exit → Act → World → Prop} {t3 t4 t5 t6 t7 t8 t9 t10 t11 t12 t13 t14 t15 t16 t17 t18 t19 t20 t21 t22 t23 t24 t25 t26 t27 t28 t29 t30 t31 t32 t33 t34 t35 t36 t37 : Value} {wr : World} {bl bh g n cs : Nat} {s : Int} {nm : ByteArray} {lt : Bool} {sc : Int} {As : Option Addr} {vT vB vD vI : Value} (hl : wr.cell? ⟨bl, 0, none⟩ = some (.pointer (some ⟨g, 0, none⟩))) (hc : ∀ w, Fr [] wr w → Calls Try.prog 28 #[.pointer (some ⟨g, 0, none⟩)] w fun e w' => e = .returned (.agg #[.string nm, .bool lt, .int .i64 sc, .slice As n cs, vT, vB, vD, vI]) ∧ Fr [] wr w') (h1 : ¬ s < 1) (h2 : (n : Int) ≤ s)
    (hQ : ∀ (u4 u5 u6 u7 u8 u9 u10 u11 u12 u13 u14 u15 u16 u17 u18 u19 u20 u21 u22 u23 u24 u25 u26 u27 u28 u29 u30 u31 u32 u33 u34 u35 u36 u37 : Value) (wx : World), (Fr [] wr wx ∧ u4 = .bool true) → Q .normal ⟨#[(.int .i64 s), (.pointer (some ⟨bl, 0, none⟩)), (.pointer (some ⟨bh, 0, none⟩)), t3, u4, u5, u6, u7, u8, u9, u10, u11, u12, u13, u14, u15, u16, u17, u18, u19, u20, u21, u22, u23, u24, u25, u26, u27, u28, u29, u30, u31, u32, u33, u34, u35, u36, u37], []⟩ wx) :
    (regAt Try.f122 1).wp Try.prog Q ⟨#[(.int .i64 s), (.pointer (some ⟨bl, 0, none⟩)), (.pointer (some ⟨bh, 0, none⟩)), t3, t4, t5, t6, t7, t8, t9, t10, t11, t12, t13, t14, t15, t16, t17, t18, t19, t20, t21, t22, t23, t24, t25, t26, t27, t28, t29, t30, t31, t32, t33, t34, t35, t36, t37], []⟩ wr := by
  have fd := fun w => run_field28_3 (.string nm) (.bool lt) (.int .i64 sc) (.slice As n cs) vT vB vD vI w
  have hd1 : decide (s < 1) = false := by simpa using h1
  have hd2 : decide ((n : Int) ≤ s) = true := by simpa using h2
  refine Code.wp_mono (Q := OnlyN (fun a w => Q .normal a w)) onlyN_imp ?_
  conv => arg 2; whnf
  dsimp only
  refine region_inv (by kernel_rfl) (fun a0 l a w => RemB.J wr bl bh g n cs s nm lt sc As vT vB vD vI a0 l a w) ?_ ?_ ?_
  · exact ⟨⟨rfl, rfl, rfl, rfl⟩, false, false, false, false, false, false, false, false, false, false, false, false, false, false, false, false, false, false, false, false, false, false, false, false, false, false, false, false, false, false, false, false, false, false, rfl, RemB.z .., (Fr.refl _ _).drew⟩
  · intro l a' w' hJ hi
    obtain ⟨-, b0, b1, b2, b3, b4, b5, b6, b7, b8, b9, b10, b11, b12, b13, b14, b15, b16, b17, b18, b19, b20, b21, b22, b23, b24, b25, b26, b27, b28, b29, b30, b31, b32, b33, rfl, rfl, hinv⟩ := hJ
    have t0 : b0 = true := ready_nil hi 0 (by decide) (by simp [Region.binds])
    have t1 : b1 = true := ready_nil hi 1 (by decide) (by simp [Region.binds, t0])
    have t2 : b2 = true := ready_nil hi 2 (by decide) (by simp [Region.binds, t1])
    have t3 : b3 = true := ready_nil hi 3 (by decide) (by simp [Region.binds, t2])
    have t4 : b4 = true := ready_nil hi 4 (by decide) (by simp [Region.binds, t2])
    have t5 : b5 = true := ready_nil hi 5 (by decide) (by simp [Region.binds, t2, t4])
    have t6 : b6 = true := ready_nil hi 6 (by decide) (by simp [Region.binds, t2, t5])
    have t7 : b7 = true := ready_nil hi 7 (by decide) (by simp [Region.binds, t2, t6])
    have t8 : b8 = true := ready_nil hi 8 (by decide) (by simp [Region.binds, t2, t3, t7])
    have t9 : b9 = true := ready_nil hi 9 (by decide) (by simp [Region.binds, t2, t8])
    have t10 : b10 = true := ready_nil hi 10 (by decide) (by simp [Region.binds, t5, t9])
    have t11 : b11 = true := ready_nil hi 11 (by decide) (by simp [Region.binds, t10])
    have t12 : b12 = true := ready_nil hi 12 (by decide) (by simp [Region.binds, t10, t11])
    have t13 : b13 = true := ready_nil hi 13 (by decide) (by simp [Region.binds, t10, t12])
    have t14 : b14 = true := ready_nil hi 14 (by decide) (by simp [Region.binds, t10])
    have t15 : b15 = true := ready_nil hi 15 (by decide) (by simp [Region.binds, t10, t13, t14])
    have t16 : b16 = true := ready_nil hi 16 (by decide) (by simp [Region.binds, t10, t15])
    have t17 : b17 = true := ready_nil hi 17 (by decide) (by simp [Region.binds, t10, t16])
    have t18 : b18 = true := ready_nil hi 18 (by decide) (by simp [Region.binds, t10, t17])
    have t19 : b19 = true := ready_nil hi 19 (by decide) (by simp [Region.binds, t10, t18])
    have t20 : b20 = true := ready_nil hi 20 (by decide) (by simp [Region.binds, t12, t19])
    have t21 : b21 = true := ready_nil hi 21 (by decide) (by simp [Region.binds, t20])
    have t22 : b22 = true := ready_nil hi 22 (by decide) (by simp [Region.binds, t20])
    have t23 : b23 = true := ready_nil hi 23 (by decide) (by simp [Region.binds, t20])
    have t24 : b24 = true := ready_nil hi 24 (by decide) (by simp [Region.binds, t20, t23])
    have t25 : b25 = true := ready_nil hi 25 (by decide) (by simp [Region.binds, t20, t24])
    have t26 : b26 = true := ready_nil hi 26 (by decide) (by simp [Region.binds, t20])
    have t27 : b27 = true := ready_nil hi 27 (by decide) (by simp [Region.binds, t20, t25, t26])
    have t28 : b28 = true := ready_nil hi 28 (by decide) (by simp [Region.binds, t20, t27])
    have t29 : b29 = true := ready_nil hi 29 (by decide) (by simp [Region.binds, t20, t28])
    have t30 : b30 = true := ready_nil hi 30 (by decide) (by simp [Region.binds, t20, t21, t22, t24, t29])
    have t31 : b31 = true := ready_nil hi 31 (by decide) (by simp [Region.binds, t20, t30])
    have t32 : b32 = true := ready_nil hi 32 (by decide) (by simp [Region.binds, t20, t31])
    have t33 : b33 = true := ready_nil hi 33 (by decide) (by simp [Region.binds, t0, t1, t2, t3, t4, t5, t6, t7, t8, t9, t10, t11, t12, t13, t14, t15, t16, t17, t18, t19, t20, t21, t22, t23, t24, t25, t26, t27, t28, t29, t30, t31, t32])
    subst t0 t1 t2 t3 t4 t5 t6 t7 t8 t9 t10 t11 t12 t13 t14 t15 t16 t17 t18 t19 t20 t21 t22 t23 t24 t25 t26 t27 t28 t29 t30 t31 t32 t33
    clear hi
    simp only [OnlyN, RemB.A, putIf_true, Act.put, List.setIfInBounds_toArray, List.set_cons_zero, List.set_cons_succ]
    exact hQ _ _ _ _ _ _ _ _ _ _ _ _ _ _ _ _ _ _ _ _ _ _ _ _ _ _ _ _ _ _ _ _ _ _ _ ⟨hinv, rfl⟩
  · intro a0 l a' w' i hJ hi
    obtain ⟨hB, b0, b1, b2, b3, b4, b5, b6, b7, b8, b9, b10, b11, b12, b13, b14, b15, b16, b17, b18, b19, b20, b21, b22, b23, b24, b25, b26, b27, b28, b29, b30, b31, b32, b33, rfl, rfl, hinv⟩ := hJ
    have hBB := hB
    obtain ⟨hs0, g0, g1, g2⟩ := hBB
    obtain ⟨h10, hlf, haf⟩ := mem_ready hi
    clear hi
    have hc : i = 0 ∨ i = 1 ∨ i = 2 ∨ i = 3 ∨ i = 4 ∨ i = 5 ∨ i = 6 ∨ i = 7 ∨ i = 8 ∨ i = 9 ∨ i = 10 ∨ i = 11 ∨ i = 12 ∨ i = 13 ∨ i = 14 ∨ i = 15 ∨ i = 16 ∨ i = 17 ∨ i = 18 ∨ i = 19 ∨ i = 20 ∨ i = 21 ∨ i = 22 ∨ i = 23 ∨ i = 24 ∨ i = 25 ∨ i = 26 ∨ i = 27 ∨ i = 28 ∨ i = 29 ∨ i = 30 ∨ i = 31 ∨ i = 32 ∨ i = 33 := by
      have : i < 34 := h10
      omega
    clear h10
    rcases hc with rfl | rfl | rfl | rfl | rfl | rfl | rfl | rfl | rfl | rfl | rfl | rfl | rfl | rfl | rfl | rfl | rfl | rfl | rfl | rfl | rfl | rfl | rfl | rfl | rfl | rfl | rfl | rfl | rfl | rfl | rfl | rfl | rfl | rfl
    · obtain rfl : b0 = false := by simpa using hlf
      refine wpOp_at rfl rfl ?_
      simp only [List.getElem_toArray, List.getElem_cons_zero, List.getElem_cons_succ]
      refine op_val (v := (.int .i64 s)) ?_ (show RemB.J wr bl bh g n cs s nm lt sc As vT vB vD vI a0 _ _ _ from ⟨hB, true, b1, b2, b3, b4, b5, b6, b7, b8, b9, b10, b11, b12, b13, b14, b15, b16, b17, b18, b19, b20, b21, b22, b23, b24, b25, b26, b27, b28, b29, b30, b31, b32, b33, rfl, RemB.p0 .., hinv⟩)
      simp only [execOp, RemB.f0, g0]
      have K0 := cell_on (W := wr) hinv hl
      go_simp
    · obtain rfl : b1 = false := by simpa using hlf
      refine wpOp_at rfl rfl ?_
      simp only [List.getElem_toArray, List.getElem_cons_zero, List.getElem_cons_succ]
      simp [Region.binds] at haf
      subst haf
      refine op_val (v := (.bool false)) ?_ (show RemB.J wr bl bh g n cs s nm lt sc As vT vB vD vI a0 _ _ _ from ⟨hB, true, true, b2, b3, b4, b5, b6, b7, b8, b9, b10, b11, b12, b13, b14, b15, b16, b17, b18, b19, b20, b21, b22, b23, b24, b25, b26, b27, b28, b29, b30, b31, b32, b33, rfl, RemB.p1 .., hinv⟩)
      simp only [execOp, RemB.e0 hs0]
      have K0 := cell_on (W := wr) hinv hl
      go_simp
    · obtain rfl : b2 = false := by simpa using hlf
      refine wpOp_at rfl rfl ?_
      simp only [List.getElem_toArray, List.getElem_cons_zero, List.getElem_cons_succ]
      simp [Region.binds] at haf
      subst haf
      refine op_val (v := (.bool false)) ?_ (show RemB.J wr bl bh g n cs s nm lt sc As vT vB vD vI a0 _ _ _ from ⟨hB, b0, true, true, b3, b4, b5, b6, b7, b8, b9, b10, b11, b12, b13, b14, b15, b16, b17, b18, b19, b20, b21, b22, b23, b24, b25, b26, b27, b28, b29, b30, b31, b32, b33, rfl, RemB.p2 .., hinv⟩)
      simp only [execOp, RemB.e1 hs0]
      have K0 := cell_on (W := wr) hinv hl
      go_simp
    · obtain rfl : b3 = false := by simpa using hlf
      simp [Region.binds] at haf
      subst haf
      refine wpOp_guard rfl rfl (yielded_of rfl rfl (by rw [RemB.size, hs0]; decide) (RemB.e2 hs0)) ?_
      simp only [List.getElem_toArray, List.getElem_cons_zero, List.getElem_cons_succ]
      refine op_val (v := (.int .i64 s)) ?_ (show RemB.J wr bl bh g n cs s nm lt sc As vT vB vD vI a0 _ _ _ from ⟨hB, b0, b1, true, true, b4, b5, b6, b7, b8, b9, b10, b11, b12, b13, b14, b15, b16, b17, b18, b19, b20, b21, b22, b23, b24, b25, b26, b27, b28, b29, b30, b31, b32, b33, rfl, RemB.p3 .., hinv⟩)
      simp only [execOp, RemB.f0, g0]
      have K0 := cell_on (W := wr) hinv hl
      go_simp
    · obtain rfl : b4 = false := by simpa using hlf
      simp [Region.binds] at haf
      subst haf
      refine wpOp_guard rfl rfl (yielded_of rfl rfl (by rw [RemB.size, hs0]; decide) (RemB.e2 hs0)) ?_
      simp only [List.getElem_toArray, List.getElem_cons_zero, List.getElem_cons_succ]
      refine op_val (v := (.pointer (some ⟨g, 0, none⟩))) ?_ (show RemB.J wr bl bh g n cs s nm lt sc As vT vB vD vI a0 _ _ _ from ⟨hB, b0, b1, true, b3, true, b5, b6, b7, b8, b9, b10, b11, b12, b13, b14, b15, b16, b17, b18, b19, b20, b21, b22, b23, b24, b25, b26, b27, b28, b29, b30, b31, b32, b33, rfl, RemB.p4 .., hinv⟩)
      simp only [execOp, RemB.f1, g1]
      have K0 := cell_on (W := wr) hinv hl
      go_simp
    · obtain rfl : b5 = false := by simpa using hlf
      simp [Region.binds] at haf
      obtain ⟨a0, a1⟩ := haf
      subst a0 a1
      refine wpOp_guard rfl rfl (yielded_of rfl rfl (by rw [RemB.size, hs0]; decide) (RemB.e2 hs0)) ?_
      simp only [List.getElem_toArray, List.getElem_cons_zero, List.getElem_cons_succ]
      have hF : Fr [] wr w' := hinv
      refine op_call (f := 28) rfl (vs := #[(.pointer (some ⟨g, 0, none⟩))]) (by simp [RemB.e4 hs0]) (fun w => enters_of Try.func28 (by kernel_rfl) rfl _ w) ?_
      refine (hc _ hF).mono ?_
      rintro e w3 ⟨rfl, hinv⟩
      exact ⟨_, rfl, (show RemB.J wr bl bh g n cs s nm lt sc As vT vB vD vI a0 _ _ _ from ⟨hB, b0, b1, true, b3, true, true, b6, b7, b8, b9, b10, b11, b12, b13, b14, b15, b16, b17, b18, b19, b20, b21, b22, b23, b24, b25, b26, b27, b28, b29, b30, b31, b32, b33, rfl, RemB.p5 .., hinv⟩)⟩
    · obtain rfl : b6 = false := by simpa using hlf
      simp [Region.binds] at haf
      obtain ⟨a0, a1⟩ := haf
      subst a0 a1
      refine wpOp_guard rfl rfl (yielded_of rfl rfl (by rw [RemB.size, hs0]; decide) (RemB.e2 hs0)) ?_
      simp only [List.getElem_toArray, List.getElem_cons_zero, List.getElem_cons_succ]
      refine op_val (v := (.slice As n cs)) ?_ (show RemB.J wr bl bh g n cs s nm lt sc As vT vB vD vI a0 _ _ _ from ⟨hB, b0, b1, true, b3, b4, true, true, b7, b8, b9, b10, b11, b12, b13, b14, b15, b16, b17, b18, b19, b20, b21, b22, b23, b24, b25, b26, b27, b28, b29, b30, b31, b32, b33, rfl, RemB.p6 .., hinv⟩)
      simp only [execOp, RemB.e5 hs0]
      have K0 := cell_on (W := wr) hinv hl
      go_simp
    · obtain rfl : b7 = false := by simpa using hlf
      simp [Region.binds] at haf
      obtain ⟨a0, a1⟩ := haf
      subst a0 a1
      refine wpOp_guard rfl rfl (yielded_of rfl rfl (by rw [RemB.size, hs0]; decide) (RemB.e2 hs0)) ?_
      simp only [List.getElem_toArray, List.getElem_cons_zero, List.getElem_cons_succ]
      refine op_val (v := (.int .i64 n)) ?_ (show RemB.J wr bl bh g n cs s nm lt sc As vT vB vD vI a0 _ _ _ from ⟨hB, b0, b1, true, b3, b4, b5, true, true, b8, b9, b10, b11, b12, b13, b14, b15, b16, b17, b18, b19, b20, b21, b22, b23, b24, b25, b26, b27, b28, b29, b30, b31, b32, b33, rfl, RemB.p7 .., hinv⟩)
      simp only [execOp, RemB.e6 hs0]
      have K0 := cell_on (W := wr) hinv hl
      go_simp
      rw [show ∀ a : Act, a.tmps[11]?.getD undef = a.eval (.tmp 11) from fun _ => by simp [Act.eval], RemB.e6 hs0]
      go_simp
    · obtain rfl : b8 = false := by simpa using hlf
      simp [Region.binds] at haf
      obtain ⟨a0, a1, a2⟩ := haf
      subst a0 a1 a2
      refine wpOp_guard rfl rfl (yielded_of rfl rfl (by rw [RemB.size, hs0]; decide) (RemB.e2 hs0)) ?_
      simp only [List.getElem_toArray, List.getElem_cons_zero, List.getElem_cons_succ]
      refine op_val (v := (.bool true)) ?_ (show RemB.J wr bl bh g n cs s nm lt sc As vT vB vD vI a0 _ _ _ from ⟨hB, b0, b1, true, true, b4, b5, b6, true, true, b9, b10, b11, b12, b13, b14, b15, b16, b17, b18, b19, b20, b21, b22, b23, b24, b25, b26, b27, b28, b29, b30, b31, b32, b33, rfl, RemB.p8 .., hinv⟩)
      simp only [execOp, RemB.e3 hs0, RemB.e7 hs0]
      have K0 := cell_on (W := wr) hinv hl
      go_simp
    · obtain rfl : b9 = false := by simpa using hlf
      refine wpOp_at rfl rfl ?_
      simp only [List.getElem_toArray, List.getElem_cons_zero, List.getElem_cons_succ]
      simp [Region.binds] at haf
      obtain ⟨a0, a1⟩ := haf
      subst a0 a1
      refine op_val (v := (.bool true)) ?_ (show RemB.J wr bl bh g n cs s nm lt sc As vT vB vD vI a0 _ _ _ from ⟨hB, b0, b1, true, b3, b4, b5, b6, b7, true, true, b10, b11, b12, b13, b14, b15, b16, b17, b18, b19, b20, b21, b22, b23, b24, b25, b26, b27, b28, b29, b30, b31, b32, b33, rfl, RemB.p9 .., hinv⟩)
      simp only [execOp, RemB.e2 hs0, RemB.e8 hs0]
      have K0 := cell_on (W := wr) hinv hl
      go_simp
    · obtain rfl : b10 = false := by simpa using hlf
      refine wpOp_at rfl rfl ?_
      simp only [List.getElem_toArray, List.getElem_cons_zero, List.getElem_cons_succ]
      simp [Region.binds] at haf
      obtain ⟨a0, a1⟩ := haf
      subst a0 a1
      refine op_val (v := (.bool true)) ?_ (show RemB.J wr bl bh g n cs s nm lt sc As vT vB vD vI a0 _ _ _ from ⟨hB, b0, b1, b2, b3, b4, true, b6, b7, b8, true, true, b11, b12, b13, b14, b15, b16, b17, b18, b19, b20, b21, b22, b23, b24, b25, b26, b27, b28, b29, b30, b31, b32, b33, rfl, RemB.p10 .., hinv⟩)
      simp only [execOp, RemB.e9 hs0]
      have K0 := cell_on (W := wr) hinv hl
      go_simp
    · obtain rfl : b11 = false := by simpa using hlf
      simp [Region.binds] at haf
      subst haf
      refine wpOp_skip rfl rfl (yielded_of rfl rfl (by rw [RemB.size, hs0]; decide) (RemB.e10 hs0)) (by decide) ?_
      exact (show RemB.J wr bl bh g n cs s nm lt sc As vT vB vD vI a0 _ _ _ from ⟨hB, b0, b1, b2, b3, b4, b5, b6, b7, b8, b9, true, true, b12, b13, b14, b15, b16, b17, b18, b19, b20, b21, b22, b23, b24, b25, b26, b27, b28, b29, b30, b31, b32, b33, rfl, RemB.p11 .., hinv⟩)
    · obtain rfl : b12 = false := by simpa using hlf
      simp [Region.binds] at haf
      obtain ⟨a0, a1⟩ := haf
      subst a0 a1
      refine wpOp_skip rfl rfl (yielded_of rfl rfl (by rw [RemB.size, hs0]; decide) (RemB.e10 hs0)) (by decide) ?_
      exact (show RemB.J wr bl bh g n cs s nm lt sc As vT vB vD vI a0 _ _ _ from ⟨hB, b0, b1, b2, b3, b4, b5, b6, b7, b8, b9, true, true, true, b13, b14, b15, b16, b17, b18, b19, b20, b21, b22, b23, b24, b25, b26, b27, b28, b29, b30, b31, b32, b33, rfl, RemB.p12 .., hinv⟩)
    · obtain rfl : b13 = false := by simpa using hlf
      simp [Region.binds] at haf
      obtain ⟨a0, a1⟩ := haf
      subst a0 a1
      refine wpOp_skip rfl rfl (yielded_of rfl rfl (by rw [RemB.size, hs0]; decide) (RemB.e10 hs0)) (by decide) ?_
      exact (show RemB.J wr bl bh g n cs s nm lt sc As vT vB vD vI a0 _ _ _ from ⟨hB, b0, b1, b2, b3, b4, b5, b6, b7, b8, b9, true, b11, true, true, b14, b15, b16, b17, b18, b19, b20, b21, b22, b23, b24, b25, b26, b27, b28, b29, b30, b31, b32, b33, rfl, RemB.p13 .., hinv⟩)
    · obtain rfl : b14 = false := by simpa using hlf
      simp [Region.binds] at haf
      subst haf
      refine wpOp_skip rfl rfl (yielded_of rfl rfl (by rw [RemB.size, hs0]; decide) (RemB.e10 hs0)) (by decide) ?_
      exact (show RemB.J wr bl bh g n cs s nm lt sc As vT vB vD vI a0 _ _ _ from ⟨hB, b0, b1, b2, b3, b4, b5, b6, b7, b8, b9, true, b11, b12, b13, true, b15, b16, b17, b18, b19, b20, b21, b22, b23, b24, b25, b26, b27, b28, b29, b30, b31, b32, b33, rfl, RemB.p14 .., hinv⟩)
    · obtain rfl : b15 = false := by simpa using hlf
      simp [Region.binds] at haf
      obtain ⟨a0, a1, a2⟩ := haf
      subst a0 a1 a2
      refine wpOp_skip rfl rfl (yielded_of rfl rfl (by rw [RemB.size, hs0]; decide) (RemB.e10 hs0)) (by decide) ?_
      exact (show RemB.J wr bl bh g n cs s nm lt sc As vT vB vD vI a0 _ _ _ from ⟨hB, b0, b1, b2, b3, b4, b5, b6, b7, b8, b9, true, b11, b12, true, true, true, b16, b17, b18, b19, b20, b21, b22, b23, b24, b25, b26, b27, b28, b29, b30, b31, b32, b33, rfl, RemB.p15 .., hinv⟩)
    · obtain rfl : b16 = false := by simpa using hlf
      simp [Region.binds] at haf
      obtain ⟨a0, a1⟩ := haf
      subst a0 a1
      refine wpOp_skip rfl rfl (yielded_of rfl rfl (by rw [RemB.size, hs0]; decide) (RemB.e10 hs0)) (by decide) ?_
      exact (show RemB.J wr bl bh g n cs s nm lt sc As vT vB vD vI a0 _ _ _ from ⟨hB, b0, b1, b2, b3, b4, b5, b6, b7, b8, b9, true, b11, b12, b13, b14, true, true, b17, b18, b19, b20, b21, b22, b23, b24, b25, b26, b27, b28, b29, b30, b31, b32, b33, rfl, RemB.p16 .., hinv⟩)
    · obtain rfl : b17 = false := by simpa using hlf
      simp [Region.binds] at haf
      obtain ⟨a0, a1⟩ := haf
      subst a0 a1
      refine wpOp_skip rfl rfl (yielded_of rfl rfl (by rw [RemB.size, hs0]; decide) (RemB.e10 hs0)) (by decide) ?_
      exact (show RemB.J wr bl bh g n cs s nm lt sc As vT vB vD vI a0 _ _ _ from ⟨hB, b0, b1, b2, b3, b4, b5, b6, b7, b8, b9, true, b11, b12, b13, b14, b15, true, true, b18, b19, b20, b21, b22, b23, b24, b25, b26, b27, b28, b29, b30, b31, b32, b33, rfl, RemB.p17 .., hinv⟩)
    · obtain rfl : b18 = false := by simpa using hlf
      simp [Region.binds] at haf
      obtain ⟨a0, a1⟩ := haf
      subst a0 a1
      refine wpOp_skip rfl rfl (yielded_of rfl rfl (by rw [RemB.size, hs0]; decide) (RemB.e10 hs0)) (by decide) ?_
      exact (show RemB.J wr bl bh g n cs s nm lt sc As vT vB vD vI a0 _ _ _ from ⟨hB, b0, b1, b2, b3, b4, b5, b6, b7, b8, b9, true, b11, b12, b13, b14, b15, b16, true, true, b19, b20, b21, b22, b23, b24, b25, b26, b27, b28, b29, b30, b31, b32, b33, rfl, RemB.p18 .., hinv⟩)
    · obtain rfl : b19 = false := by simpa using hlf
      refine wpOp_at rfl rfl ?_
      simp only [List.getElem_toArray, List.getElem_cons_zero, List.getElem_cons_succ]
      simp [Region.binds] at haf
      obtain ⟨a0, a1⟩ := haf
      subst a0 a1
      refine op_val (v := (.bool true)) ?_ (show RemB.J wr bl bh g n cs s nm lt sc As vT vB vD vI a0 _ _ _ from ⟨hB, b0, b1, b2, b3, b4, b5, b6, b7, b8, b9, true, b11, b12, b13, b14, b15, b16, b17, true, true, b20, b21, b22, b23, b24, b25, b26, b27, b28, b29, b30, b31, b32, b33, rfl, RemB.p19 .., hinv⟩)
      simp only [execOp, RemB.e10 hs0, RemB.e18 hs0]
      have K0 := cell_on (W := wr) hinv hl
      go_simp
    · obtain rfl : b20 = false := by simpa using hlf
      refine wpOp_at rfl rfl ?_
      simp only [List.getElem_toArray, List.getElem_cons_zero, List.getElem_cons_succ]
      simp [Region.binds] at haf
      obtain ⟨a0, a1⟩ := haf
      subst a0 a1
      refine op_val (v := (.bool true)) ?_ (show RemB.J wr bl bh g n cs s nm lt sc As vT vB vD vI a0 _ _ _ from ⟨hB, b0, b1, b2, b3, b4, b5, b6, b7, b8, b9, b10, b11, true, b13, b14, b15, b16, b17, b18, true, true, b21, b22, b23, b24, b25, b26, b27, b28, b29, b30, b31, b32, b33, rfl, RemB.p20 .., hinv⟩)
      simp only [execOp, RemB.e19 hs0]
      have K0 := cell_on (W := wr) hinv hl
      go_simp
    · obtain rfl : b21 = false := by simpa using hlf
      simp [Region.binds] at haf
      subst haf
      refine wpOp_skip rfl rfl (yielded_of rfl rfl (by rw [RemB.size, hs0]; decide) (RemB.e20 hs0)) (by decide) ?_
      exact (show RemB.J wr bl bh g n cs s nm lt sc As vT vB vD vI a0 _ _ _ from ⟨hB, b0, b1, b2, b3, b4, b5, b6, b7, b8, b9, b10, b11, b12, b13, b14, b15, b16, b17, b18, b19, true, true, b22, b23, b24, b25, b26, b27, b28, b29, b30, b31, b32, b33, rfl, RemB.p21 .., hinv⟩)
    · obtain rfl : b22 = false := by simpa using hlf
      simp [Region.binds] at haf
      subst haf
      refine wpOp_skip rfl rfl (yielded_of rfl rfl (by rw [RemB.size, hs0]; decide) (RemB.e20 hs0)) (by decide) ?_
      exact (show RemB.J wr bl bh g n cs s nm lt sc As vT vB vD vI a0 _ _ _ from ⟨hB, b0, b1, b2, b3, b4, b5, b6, b7, b8, b9, b10, b11, b12, b13, b14, b15, b16, b17, b18, b19, true, b21, true, b23, b24, b25, b26, b27, b28, b29, b30, b31, b32, b33, rfl, RemB.p22 .., hinv⟩)
    · obtain rfl : b23 = false := by simpa using hlf
      simp [Region.binds] at haf
      subst haf
      refine wpOp_skip rfl rfl (yielded_of rfl rfl (by rw [RemB.size, hs0]; decide) (RemB.e20 hs0)) (by decide) ?_
      exact (show RemB.J wr bl bh g n cs s nm lt sc As vT vB vD vI a0 _ _ _ from ⟨hB, b0, b1, b2, b3, b4, b5, b6, b7, b8, b9, b10, b11, b12, b13, b14, b15, b16, b17, b18, b19, true, b21, b22, true, b24, b25, b26, b27, b28, b29, b30, b31, b32, b33, rfl, RemB.p23 .., hinv⟩)
    · obtain rfl : b24 = false := by simpa using hlf
      simp [Region.binds] at haf
      obtain ⟨a0, a1⟩ := haf
      subst a0 a1
      refine wpOp_skip rfl rfl (yielded_of rfl rfl (by rw [RemB.size, hs0]; decide) (RemB.e20 hs0)) (by decide) ?_
      exact (show RemB.J wr bl bh g n cs s nm lt sc As vT vB vD vI a0 _ _ _ from ⟨hB, b0, b1, b2, b3, b4, b5, b6, b7, b8, b9, b10, b11, b12, b13, b14, b15, b16, b17, b18, b19, true, b21, b22, true, true, b25, b26, b27, b28, b29, b30, b31, b32, b33, rfl, RemB.p24 .., hinv⟩)
    · obtain rfl : b25 = false := by simpa using hlf
      simp [Region.binds] at haf
      obtain ⟨a0, a1⟩ := haf
      subst a0 a1
      refine wpOp_skip rfl rfl (yielded_of rfl rfl (by rw [RemB.size, hs0]; decide) (RemB.e20 hs0)) (by decide) ?_
      exact (show RemB.J wr bl bh g n cs s nm lt sc As vT vB vD vI a0 _ _ _ from ⟨hB, b0, b1, b2, b3, b4, b5, b6, b7, b8, b9, b10, b11, b12, b13, b14, b15, b16, b17, b18, b19, true, b21, b22, b23, true, true, b26, b27, b28, b29, b30, b31, b32, b33, rfl, RemB.p25 .., hinv⟩)
    · obtain rfl : b26 = false := by simpa using hlf
      simp [Region.binds] at haf
      subst haf
      refine wpOp_skip rfl rfl (yielded_of rfl rfl (by rw [RemB.size, hs0]; decide) (RemB.e20 hs0)) (by decide) ?_
      exact (show RemB.J wr bl bh g n cs s nm lt sc As vT vB vD vI a0 _ _ _ from ⟨hB, b0, b1, b2, b3, b4, b5, b6, b7, b8, b9, b10, b11, b12, b13, b14, b15, b16, b17, b18, b19, true, b21, b22, b23, b24, b25, true, b27, b28, b29, b30, b31, b32, b33, rfl, RemB.p26 .., hinv⟩)
    · obtain rfl : b27 = false := by simpa using hlf
      simp [Region.binds] at haf
      obtain ⟨a0, a1, a2⟩ := haf
      subst a0 a1 a2
      refine wpOp_skip rfl rfl (yielded_of rfl rfl (by rw [RemB.size, hs0]; decide) (RemB.e20 hs0)) (by decide) ?_
      exact (show RemB.J wr bl bh g n cs s nm lt sc As vT vB vD vI a0 _ _ _ from ⟨hB, b0, b1, b2, b3, b4, b5, b6, b7, b8, b9, b10, b11, b12, b13, b14, b15, b16, b17, b18, b19, true, b21, b22, b23, b24, true, true, true, b28, b29, b30, b31, b32, b33, rfl, RemB.p27 .., hinv⟩)
    · obtain rfl : b28 = false := by simpa using hlf
      simp [Region.binds] at haf
      obtain ⟨a0, a1⟩ := haf
      subst a0 a1
      refine wpOp_skip rfl rfl (yielded_of rfl rfl (by rw [RemB.size, hs0]; decide) (RemB.e20 hs0)) (by decide) ?_
      exact (show RemB.J wr bl bh g n cs s nm lt sc As vT vB vD vI a0 _ _ _ from ⟨hB, b0, b1, b2, b3, b4, b5, b6, b7, b8, b9, b10, b11, b12, b13, b14, b15, b16, b17, b18, b19, true, b21, b22, b23, b24, b25, b26, true, true, b29, b30, b31, b32, b33, rfl, RemB.p28 .., hinv⟩)
    · obtain rfl : b29 = false := by simpa using hlf
      simp [Region.binds] at haf
      obtain ⟨a0, a1⟩ := haf
      subst a0 a1
      refine wpOp_skip rfl rfl (yielded_of rfl rfl (by rw [RemB.size, hs0]; decide) (RemB.e20 hs0)) (by decide) ?_
      exact (show RemB.J wr bl bh g n cs s nm lt sc As vT vB vD vI a0 _ _ _ from ⟨hB, b0, b1, b2, b3, b4, b5, b6, b7, b8, b9, b10, b11, b12, b13, b14, b15, b16, b17, b18, b19, true, b21, b22, b23, b24, b25, b26, b27, true, true, b30, b31, b32, b33, rfl, RemB.p29 .., hinv⟩)
    · obtain rfl : b30 = false := by simpa using hlf
      simp [Region.binds] at haf
      obtain ⟨a0, a1, a2, a3, a4⟩ := haf
      subst a0 a1 a2 a3 a4
      refine wpOp_skip rfl rfl (yielded_of rfl rfl (by rw [RemB.size, hs0]; decide) (RemB.e20 hs0)) (by decide) ?_
      exact (show RemB.J wr bl bh g n cs s nm lt sc As vT vB vD vI a0 _ _ _ from ⟨hB, b0, b1, b2, b3, b4, b5, b6, b7, b8, b9, b10, b11, b12, b13, b14, b15, b16, b17, b18, b19, true, true, true, b23, true, b25, b26, b27, b28, true, true, b31, b32, b33, rfl, RemB.p30 .., hinv⟩)
    · obtain rfl : b31 = false := by simpa using hlf
      simp [Region.binds] at haf
      obtain ⟨a0, a1⟩ := haf
      subst a0 a1
      refine wpOp_skip rfl rfl (yielded_of rfl rfl (by rw [RemB.size, hs0]; decide) (RemB.e20 hs0)) (by decide) ?_
      exact (show RemB.J wr bl bh g n cs s nm lt sc As vT vB vD vI a0 _ _ _ from ⟨hB, b0, b1, b2, b3, b4, b5, b6, b7, b8, b9, b10, b11, b12, b13, b14, b15, b16, b17, b18, b19, true, b21, b22, b23, b24, b25, b26, b27, b28, b29, true, true, b32, b33, rfl, RemB.p31 .., hinv⟩)
    · obtain rfl : b32 = false := by simpa using hlf
      refine wpOp_at rfl rfl ?_
      simp only [List.getElem_toArray, List.getElem_cons_zero, List.getElem_cons_succ]
      simp [Region.binds] at haf
      obtain ⟨a0, a1⟩ := haf
      subst a0 a1
      refine op_val (v := (.bool true)) ?_ (show RemB.J wr bl bh g n cs s nm lt sc As vT vB vD vI a0 _ _ _ from ⟨hB, b0, b1, b2, b3, b4, b5, b6, b7, b8, b9, b10, b11, b12, b13, b14, b15, b16, b17, b18, b19, true, b21, b22, b23, b24, b25, b26, b27, b28, b29, b30, true, true, b33, rfl, RemB.p32 .., hinv⟩)
      simp only [execOp, RemB.e20 hs0, RemB.e31 hs0]
      have K0 := cell_on (W := wr) hinv hl
      go_simp
    · obtain rfl : b33 = false := by simpa using hlf
      refine wpOp_at rfl rfl ?_
      simp only [List.getElem_toArray, List.getElem_cons_zero, List.getElem_cons_succ]
      simp [Region.binds] at haf
      obtain ⟨a0, a1, a2, a3, a4, a5, a6, a7, a8, a9, a10, a11, a12, a13, a14, a15, a16, a17, a18, a19, a20, a21, a22, a23, a24, a25, a26, a27, a28, a29, a30, a31, a32, a33, a34⟩ := haf
      subst a0 a1 a2 a3 a4 a5 a6 a7 a8 a9 a10 a11 a12 a13 a14 a15 a16 a17 a18 a19 a20 a21 a22 a23 a24 a25 a26 a27 a28 a29 a30 a31 a33
      refine op_val (v := (.bool true)) ?_ (show RemB.J wr bl bh g n cs s nm lt sc As vT vB vD vI a0 _ _ _ from ⟨hB, true, true, true, true, true, true, true, true, true, true, true, true, true, true, true, true, true, true, true, true, true, true, true, true, true, true, true, true, true, true, true, true, true, true, rfl, RemB.p33 .., hinv⟩)
      simp only [execOp, RemB.e32 hs0]
      have K0 := cell_on (W := wr) hinv hl
      go_simp
end Go.Proofs.Ytekfbafljilchaa
