/- choose.Select's closure: its drawn region, where no conditions are handed in (printed by sel4.py). -/
import Derived.Test.YtekfbafljilchaaS1
import Derived.Test.YtekfbafljilchaaG1
import Derived.Test.YtekfbafljilchaaM1
set_option linter.unusedVariables false
set_option linter.unusedSimpArgs false
namespace Go.Proofs.Ytekfbafljilchaa
open Go.RowKit Go.Lib

theorem yielded_undef {ops : Array Oper} {a : Act} {j d : Nat} {o : Oper} (ho : ops[j]? = some o) (hd : o.dst = some d) (ht : d < a.tmps.size) (he : a.eval (.tmp d) = undef) : yielded ops a.tmps j = none := by
  have h : a.tmps[d] = undef := by simpa [Act.eval, ht] using he
  simp [yielded, ho, hd, ht, h, undef]
theorem wpOp_skip0 {P : Program} {ops : Array Oper} {Q : Exit → Act → World → Prop} {i : Nat} {K : Act → World → Prop} {a : Act} {w : World} {o : Oper} {j : Nat} {b : Bool} (ho : ops[i]? = some o) (hg : o.guard = some (j, b)) (hy : yielded ops a.tmps j = none) (h : K (a.put o.dst undef) w) : wpOp P ops Q i K a w := by
  have hw : Region.wanted o (yielded ops a.tmps) = false := by simp [Region.wanted, hg, hy]
  unfold wpOp
  simp only [ho, hw]
  exact h

/-- The frame inside the region: what has come up lies in its slots. -/
def SelT.A (wr : World) (x13 x9 x10 x11 gt ot j n ct : Nat) (nm : ByteArray) (ev : Bool) (A : Option Addr) (k d : Nat)  (b0 b1 b2 b3 b4 b5 b6 b7 b8 b9 b10 b11 b12 b13 b14 b15 b16 b17 : Bool) (a0 : Act) : Act := putIf b0 21 (.pointer (some ⟨x13, 4, none⟩)) (putIf b1 22 (.slice (some ⟨gt, ot, none⟩) n ct) (putIf b2 23 (.int .i64 j) (putIf b3 24 (.pointer (some ⟨gt, ot + j * 6, none⟩)) (putIf b4 25 (.pointer (some ⟨gt, ot + j * 6 + 1, none⟩)) (putIf b5 26 (.slice A k d) (putIf b6 27 (.string nm) (putIf b7 28 (.bool ev) (putIf b8 29 (.bool true) (putIf b9 30 (.bool true) (putIf b10 31 .nilFunc (putIf b11 32 (.bool true) (putIf b12 33 (.bool true) (putIf b13 34 undef (putIf b14 35 undef (putIf b15 36 undef (putIf b16 37 (.bool true) (putIf b17 38 (.bool true) (a0))))))))))))))))))
theorem SelT.p0 (wr : World) (x13 x9 x10 x11 gt ot j n ct : Nat) (nm : ByteArray) (ev : Bool) (A : Option Addr) (k d : Nat)   (b1 b2 b3 b4 b5 b6 b7 b8 b9 b10 b11 b12 b13 b14 b15 b16 b17 : Bool) (a0 : Act) :
    (SelT.A wr x13 x9 x10 x11 gt ot j n ct nm ev A k d  false b1 b2 b3 b4 b5 b6 b7 b8 b9 b10 b11 b12 b13 b14 b15 b16 b17 a0).put (some 21) (.pointer (some ⟨x13, 4, none⟩)) = SelT.A wr x13 x9 x10 x11 gt ot j n ct nm ev A k d  true b1 b2 b3 b4 b5 b6 b7 b8 b9 b10 b11 b12 b13 b14 b15 b16 b17 a0 := by
  simp only [SelT.A, putIf_put, ne_eq, Nat.reduceEqDiff, not_false_eq_true]
  rfl
theorem SelT.e0 {wr : World} {x13 x9 x10 x11 gt ot j n ct : Nat} {nm : ByteArray} {ev : Bool} {A : Option Addr} {k d : Nat}  {b1 b2 b3 b4 b5 b6 b7 b8 b9 b10 b11 b12 b13 b14 b15 b16 b17 : Bool} {a0 : Act} (hs : a0.tmps.size = 48) : (SelT.A wr x13 x9 x10 x11 gt ot j n ct nm ev A k d  true b1 b2 b3 b4 b5 b6 b7 b8 b9 b10 b11 b12 b13 b14 b15 b16 b17 a0).eval (.tmp 21) = (.pointer (some ⟨x13, 4, none⟩)) := by
  simp [SelT.A, eval_putIf, eval_put, size_putIf, hs]
theorem SelT.p1 (wr : World) (x13 x9 x10 x11 gt ot j n ct : Nat) (nm : ByteArray) (ev : Bool) (A : Option Addr) (k d : Nat)   (b0 b2 b3 b4 b5 b6 b7 b8 b9 b10 b11 b12 b13 b14 b15 b16 b17 : Bool) (a0 : Act) :
    (SelT.A wr x13 x9 x10 x11 gt ot j n ct nm ev A k d  b0 false b2 b3 b4 b5 b6 b7 b8 b9 b10 b11 b12 b13 b14 b15 b16 b17 a0).put (some 22) (.slice (some ⟨gt, ot, none⟩) n ct) = SelT.A wr x13 x9 x10 x11 gt ot j n ct nm ev A k d  b0 true b2 b3 b4 b5 b6 b7 b8 b9 b10 b11 b12 b13 b14 b15 b16 b17 a0 := by
  simp only [SelT.A, putIf_put, ne_eq, Nat.reduceEqDiff, not_false_eq_true]
  rfl
theorem SelT.e1 {wr : World} {x13 x9 x10 x11 gt ot j n ct : Nat} {nm : ByteArray} {ev : Bool} {A : Option Addr} {k d : Nat}  {b0 b2 b3 b4 b5 b6 b7 b8 b9 b10 b11 b12 b13 b14 b15 b16 b17 : Bool} {a0 : Act} (hs : a0.tmps.size = 48) : (SelT.A wr x13 x9 x10 x11 gt ot j n ct nm ev A k d  b0 true b2 b3 b4 b5 b6 b7 b8 b9 b10 b11 b12 b13 b14 b15 b16 b17 a0).eval (.tmp 22) = (.slice (some ⟨gt, ot, none⟩) n ct) := by
  simp [SelT.A, eval_putIf, eval_put, size_putIf, hs]
theorem SelT.p2 (wr : World) (x13 x9 x10 x11 gt ot j n ct : Nat) (nm : ByteArray) (ev : Bool) (A : Option Addr) (k d : Nat)   (b0 b1 b3 b4 b5 b6 b7 b8 b9 b10 b11 b12 b13 b14 b15 b16 b17 : Bool) (a0 : Act) :
    (SelT.A wr x13 x9 x10 x11 gt ot j n ct nm ev A k d  b0 b1 false b3 b4 b5 b6 b7 b8 b9 b10 b11 b12 b13 b14 b15 b16 b17 a0).put (some 23) (.int .i64 j) = SelT.A wr x13 x9 x10 x11 gt ot j n ct nm ev A k d  b0 b1 true b3 b4 b5 b6 b7 b8 b9 b10 b11 b12 b13 b14 b15 b16 b17 a0 := by
  simp only [SelT.A, putIf_put, ne_eq, Nat.reduceEqDiff, not_false_eq_true]
  rfl
theorem SelT.e2 {wr : World} {x13 x9 x10 x11 gt ot j n ct : Nat} {nm : ByteArray} {ev : Bool} {A : Option Addr} {k d : Nat}  {b0 b1 b3 b4 b5 b6 b7 b8 b9 b10 b11 b12 b13 b14 b15 b16 b17 : Bool} {a0 : Act} (hs : a0.tmps.size = 48) : (SelT.A wr x13 x9 x10 x11 gt ot j n ct nm ev A k d  b0 b1 true b3 b4 b5 b6 b7 b8 b9 b10 b11 b12 b13 b14 b15 b16 b17 a0).eval (.tmp 23) = (.int .i64 j) := by
  simp [SelT.A, eval_putIf, eval_put, size_putIf, hs]
theorem SelT.p3 (wr : World) (x13 x9 x10 x11 gt ot j n ct : Nat) (nm : ByteArray) (ev : Bool) (A : Option Addr) (k d : Nat)   (b0 b1 b2 b4 b5 b6 b7 b8 b9 b10 b11 b12 b13 b14 b15 b16 b17 : Bool) (a0 : Act) :
    (SelT.A wr x13 x9 x10 x11 gt ot j n ct nm ev A k d  b0 b1 b2 false b4 b5 b6 b7 b8 b9 b10 b11 b12 b13 b14 b15 b16 b17 a0).put (some 24) (.pointer (some ⟨gt, ot + j * 6, none⟩)) = SelT.A wr x13 x9 x10 x11 gt ot j n ct nm ev A k d  b0 b1 b2 true b4 b5 b6 b7 b8 b9 b10 b11 b12 b13 b14 b15 b16 b17 a0 := by
  simp only [SelT.A, putIf_put, ne_eq, Nat.reduceEqDiff, not_false_eq_true]
  rfl
theorem SelT.e3 {wr : World} {x13 x9 x10 x11 gt ot j n ct : Nat} {nm : ByteArray} {ev : Bool} {A : Option Addr} {k d : Nat}  {b0 b1 b2 b4 b5 b6 b7 b8 b9 b10 b11 b12 b13 b14 b15 b16 b17 : Bool} {a0 : Act} (hs : a0.tmps.size = 48) : (SelT.A wr x13 x9 x10 x11 gt ot j n ct nm ev A k d  b0 b1 b2 true b4 b5 b6 b7 b8 b9 b10 b11 b12 b13 b14 b15 b16 b17 a0).eval (.tmp 24) = (.pointer (some ⟨gt, ot + j * 6, none⟩)) := by
  simp [SelT.A, eval_putIf, eval_put, size_putIf, hs]
theorem SelT.p4 (wr : World) (x13 x9 x10 x11 gt ot j n ct : Nat) (nm : ByteArray) (ev : Bool) (A : Option Addr) (k d : Nat)   (b0 b1 b2 b3 b5 b6 b7 b8 b9 b10 b11 b12 b13 b14 b15 b16 b17 : Bool) (a0 : Act) :
    (SelT.A wr x13 x9 x10 x11 gt ot j n ct nm ev A k d  b0 b1 b2 b3 false b5 b6 b7 b8 b9 b10 b11 b12 b13 b14 b15 b16 b17 a0).put (some 25) (.pointer (some ⟨gt, ot + j * 6 + 1, none⟩)) = SelT.A wr x13 x9 x10 x11 gt ot j n ct nm ev A k d  b0 b1 b2 b3 true b5 b6 b7 b8 b9 b10 b11 b12 b13 b14 b15 b16 b17 a0 := by
  simp only [SelT.A, putIf_put, ne_eq, Nat.reduceEqDiff, not_false_eq_true]
  rfl
theorem SelT.e4 {wr : World} {x13 x9 x10 x11 gt ot j n ct : Nat} {nm : ByteArray} {ev : Bool} {A : Option Addr} {k d : Nat}  {b0 b1 b2 b3 b5 b6 b7 b8 b9 b10 b11 b12 b13 b14 b15 b16 b17 : Bool} {a0 : Act} (hs : a0.tmps.size = 48) : (SelT.A wr x13 x9 x10 x11 gt ot j n ct nm ev A k d  b0 b1 b2 b3 true b5 b6 b7 b8 b9 b10 b11 b12 b13 b14 b15 b16 b17 a0).eval (.tmp 25) = (.pointer (some ⟨gt, ot + j * 6 + 1, none⟩)) := by
  simp [SelT.A, eval_putIf, eval_put, size_putIf, hs]
theorem SelT.p5 (wr : World) (x13 x9 x10 x11 gt ot j n ct : Nat) (nm : ByteArray) (ev : Bool) (A : Option Addr) (k d : Nat)   (b0 b1 b2 b3 b4 b6 b7 b8 b9 b10 b11 b12 b13 b14 b15 b16 b17 : Bool) (a0 : Act) :
    (SelT.A wr x13 x9 x10 x11 gt ot j n ct nm ev A k d  b0 b1 b2 b3 b4 false b6 b7 b8 b9 b10 b11 b12 b13 b14 b15 b16 b17 a0).put (some 26) (.slice A k d) = SelT.A wr x13 x9 x10 x11 gt ot j n ct nm ev A k d  b0 b1 b2 b3 b4 true b6 b7 b8 b9 b10 b11 b12 b13 b14 b15 b16 b17 a0 := by
  simp only [SelT.A, putIf_put, ne_eq, Nat.reduceEqDiff, not_false_eq_true]
  rfl
theorem SelT.e5 {wr : World} {x13 x9 x10 x11 gt ot j n ct : Nat} {nm : ByteArray} {ev : Bool} {A : Option Addr} {k d : Nat}  {b0 b1 b2 b3 b4 b6 b7 b8 b9 b10 b11 b12 b13 b14 b15 b16 b17 : Bool} {a0 : Act} (hs : a0.tmps.size = 48) : (SelT.A wr x13 x9 x10 x11 gt ot j n ct nm ev A k d  b0 b1 b2 b3 b4 true b6 b7 b8 b9 b10 b11 b12 b13 b14 b15 b16 b17 a0).eval (.tmp 26) = (.slice A k d) := by
  simp [SelT.A, eval_putIf, eval_put, size_putIf, hs]
theorem SelT.p6 (wr : World) (x13 x9 x10 x11 gt ot j n ct : Nat) (nm : ByteArray) (ev : Bool) (A : Option Addr) (k d : Nat)   (b0 b1 b2 b3 b4 b5 b7 b8 b9 b10 b11 b12 b13 b14 b15 b16 b17 : Bool) (a0 : Act) :
    (SelT.A wr x13 x9 x10 x11 gt ot j n ct nm ev A k d  b0 b1 b2 b3 b4 b5 false b7 b8 b9 b10 b11 b12 b13 b14 b15 b16 b17 a0).put (some 27) (.string nm) = SelT.A wr x13 x9 x10 x11 gt ot j n ct nm ev A k d  b0 b1 b2 b3 b4 b5 true b7 b8 b9 b10 b11 b12 b13 b14 b15 b16 b17 a0 := by
  simp only [SelT.A, putIf_put, ne_eq, Nat.reduceEqDiff, not_false_eq_true]
  rfl
theorem SelT.e6 {wr : World} {x13 x9 x10 x11 gt ot j n ct : Nat} {nm : ByteArray} {ev : Bool} {A : Option Addr} {k d : Nat}  {b0 b1 b2 b3 b4 b5 b7 b8 b9 b10 b11 b12 b13 b14 b15 b16 b17 : Bool} {a0 : Act} (hs : a0.tmps.size = 48) : (SelT.A wr x13 x9 x10 x11 gt ot j n ct nm ev A k d  b0 b1 b2 b3 b4 b5 true b7 b8 b9 b10 b11 b12 b13 b14 b15 b16 b17 a0).eval (.tmp 27) = (.string nm) := by
  simp [SelT.A, eval_putIf, eval_put, size_putIf, hs]
theorem SelT.p7 (wr : World) (x13 x9 x10 x11 gt ot j n ct : Nat) (nm : ByteArray) (ev : Bool) (A : Option Addr) (k d : Nat)   (b0 b1 b2 b3 b4 b5 b6 b8 b9 b10 b11 b12 b13 b14 b15 b16 b17 : Bool) (a0 : Act) :
    (SelT.A wr x13 x9 x10 x11 gt ot j n ct nm ev A k d  b0 b1 b2 b3 b4 b5 b6 false b8 b9 b10 b11 b12 b13 b14 b15 b16 b17 a0).put (some 28) (.bool ev) = SelT.A wr x13 x9 x10 x11 gt ot j n ct nm ev A k d  b0 b1 b2 b3 b4 b5 b6 true b8 b9 b10 b11 b12 b13 b14 b15 b16 b17 a0 := by
  simp only [SelT.A, putIf_put, ne_eq, Nat.reduceEqDiff, not_false_eq_true]
  rfl
theorem SelT.e7 {wr : World} {x13 x9 x10 x11 gt ot j n ct : Nat} {nm : ByteArray} {ev : Bool} {A : Option Addr} {k d : Nat}  {b0 b1 b2 b3 b4 b5 b6 b8 b9 b10 b11 b12 b13 b14 b15 b16 b17 : Bool} {a0 : Act} (hs : a0.tmps.size = 48) : (SelT.A wr x13 x9 x10 x11 gt ot j n ct nm ev A k d  b0 b1 b2 b3 b4 b5 b6 true b8 b9 b10 b11 b12 b13 b14 b15 b16 b17 a0).eval (.tmp 28) = (.bool ev) := by
  simp [SelT.A, eval_putIf, eval_put, size_putIf, hs]
theorem SelT.p8 (wr : World) (x13 x9 x10 x11 gt ot j n ct : Nat) (nm : ByteArray) (ev : Bool) (A : Option Addr) (k d : Nat)   (b0 b1 b2 b3 b4 b5 b6 b7 b9 b10 b11 b12 b13 b14 b15 b16 b17 : Bool) (a0 : Act) :
    (SelT.A wr x13 x9 x10 x11 gt ot j n ct nm ev A k d  b0 b1 b2 b3 b4 b5 b6 b7 false b9 b10 b11 b12 b13 b14 b15 b16 b17 a0).put (some 29) (.bool true) = SelT.A wr x13 x9 x10 x11 gt ot j n ct nm ev A k d  b0 b1 b2 b3 b4 b5 b6 b7 true b9 b10 b11 b12 b13 b14 b15 b16 b17 a0 := by
  simp only [SelT.A, putIf_put, ne_eq, Nat.reduceEqDiff, not_false_eq_true]
  rfl
theorem SelT.e8 {wr : World} {x13 x9 x10 x11 gt ot j n ct : Nat} {nm : ByteArray} {ev : Bool} {A : Option Addr} {k d : Nat}  {b0 b1 b2 b3 b4 b5 b6 b7 b9 b10 b11 b12 b13 b14 b15 b16 b17 : Bool} {a0 : Act} (hs : a0.tmps.size = 48) : (SelT.A wr x13 x9 x10 x11 gt ot j n ct nm ev A k d  b0 b1 b2 b3 b4 b5 b6 b7 true b9 b10 b11 b12 b13 b14 b15 b16 b17 a0).eval (.tmp 29) = (.bool true) := by
  simp [SelT.A, eval_putIf, eval_put, size_putIf, hs]
theorem SelT.p9 (wr : World) (x13 x9 x10 x11 gt ot j n ct : Nat) (nm : ByteArray) (ev : Bool) (A : Option Addr) (k d : Nat)   (b0 b1 b2 b3 b4 b5 b6 b7 b8 b10 b11 b12 b13 b14 b15 b16 b17 : Bool) (a0 : Act) :
    (SelT.A wr x13 x9 x10 x11 gt ot j n ct nm ev A k d  b0 b1 b2 b3 b4 b5 b6 b7 b8 false b10 b11 b12 b13 b14 b15 b16 b17 a0).put (some 30) (.bool true) = SelT.A wr x13 x9 x10 x11 gt ot j n ct nm ev A k d  b0 b1 b2 b3 b4 b5 b6 b7 b8 true b10 b11 b12 b13 b14 b15 b16 b17 a0 := by
  simp only [SelT.A, putIf_put, ne_eq, Nat.reduceEqDiff, not_false_eq_true]
  rfl
theorem SelT.e9 {wr : World} {x13 x9 x10 x11 gt ot j n ct : Nat} {nm : ByteArray} {ev : Bool} {A : Option Addr} {k d : Nat}  {b0 b1 b2 b3 b4 b5 b6 b7 b8 b10 b11 b12 b13 b14 b15 b16 b17 : Bool} {a0 : Act} (hs : a0.tmps.size = 48) : (SelT.A wr x13 x9 x10 x11 gt ot j n ct nm ev A k d  b0 b1 b2 b3 b4 b5 b6 b7 b8 true b10 b11 b12 b13 b14 b15 b16 b17 a0).eval (.tmp 30) = (.bool true) := by
  simp [SelT.A, eval_putIf, eval_put, size_putIf, hs]
theorem SelT.p10 (wr : World) (x13 x9 x10 x11 gt ot j n ct : Nat) (nm : ByteArray) (ev : Bool) (A : Option Addr) (k d : Nat)   (b0 b1 b2 b3 b4 b5 b6 b7 b8 b9 b11 b12 b13 b14 b15 b16 b17 : Bool) (a0 : Act) :
    (SelT.A wr x13 x9 x10 x11 gt ot j n ct nm ev A k d  b0 b1 b2 b3 b4 b5 b6 b7 b8 b9 false b11 b12 b13 b14 b15 b16 b17 a0).put (some 31) .nilFunc = SelT.A wr x13 x9 x10 x11 gt ot j n ct nm ev A k d  b0 b1 b2 b3 b4 b5 b6 b7 b8 b9 true b11 b12 b13 b14 b15 b16 b17 a0 := by
  simp only [SelT.A, putIf_put, ne_eq, Nat.reduceEqDiff, not_false_eq_true]
  rfl
theorem SelT.e10 {wr : World} {x13 x9 x10 x11 gt ot j n ct : Nat} {nm : ByteArray} {ev : Bool} {A : Option Addr} {k d : Nat}  {b0 b1 b2 b3 b4 b5 b6 b7 b8 b9 b11 b12 b13 b14 b15 b16 b17 : Bool} {a0 : Act} (hs : a0.tmps.size = 48) : (SelT.A wr x13 x9 x10 x11 gt ot j n ct nm ev A k d  b0 b1 b2 b3 b4 b5 b6 b7 b8 b9 true b11 b12 b13 b14 b15 b16 b17 a0).eval (.tmp 31) = .nilFunc := by
  simp [SelT.A, eval_putIf, eval_put, size_putIf, hs]
theorem SelT.p11 (wr : World) (x13 x9 x10 x11 gt ot j n ct : Nat) (nm : ByteArray) (ev : Bool) (A : Option Addr) (k d : Nat)   (b0 b1 b2 b3 b4 b5 b6 b7 b8 b9 b10 b12 b13 b14 b15 b16 b17 : Bool) (a0 : Act) :
    (SelT.A wr x13 x9 x10 x11 gt ot j n ct nm ev A k d  b0 b1 b2 b3 b4 b5 b6 b7 b8 b9 b10 false b12 b13 b14 b15 b16 b17 a0).put (some 32) (.bool true) = SelT.A wr x13 x9 x10 x11 gt ot j n ct nm ev A k d  b0 b1 b2 b3 b4 b5 b6 b7 b8 b9 b10 true b12 b13 b14 b15 b16 b17 a0 := by
  simp only [SelT.A, putIf_put, ne_eq, Nat.reduceEqDiff, not_false_eq_true]
  rfl
theorem SelT.e11 {wr : World} {x13 x9 x10 x11 gt ot j n ct : Nat} {nm : ByteArray} {ev : Bool} {A : Option Addr} {k d : Nat}  {b0 b1 b2 b3 b4 b5 b6 b7 b8 b9 b10 b12 b13 b14 b15 b16 b17 : Bool} {a0 : Act} (hs : a0.tmps.size = 48) : (SelT.A wr x13 x9 x10 x11 gt ot j n ct nm ev A k d  b0 b1 b2 b3 b4 b5 b6 b7 b8 b9 b10 true b12 b13 b14 b15 b16 b17 a0).eval (.tmp 32) = (.bool true) := by
  simp [SelT.A, eval_putIf, eval_put, size_putIf, hs]
theorem SelT.p12 (wr : World) (x13 x9 x10 x11 gt ot j n ct : Nat) (nm : ByteArray) (ev : Bool) (A : Option Addr) (k d : Nat)   (b0 b1 b2 b3 b4 b5 b6 b7 b8 b9 b10 b11 b13 b14 b15 b16 b17 : Bool) (a0 : Act) :
    (SelT.A wr x13 x9 x10 x11 gt ot j n ct nm ev A k d  b0 b1 b2 b3 b4 b5 b6 b7 b8 b9 b10 b11 false b13 b14 b15 b16 b17 a0).put (some 33) (.bool true) = SelT.A wr x13 x9 x10 x11 gt ot j n ct nm ev A k d  b0 b1 b2 b3 b4 b5 b6 b7 b8 b9 b10 b11 true b13 b14 b15 b16 b17 a0 := by
  simp only [SelT.A, putIf_put, ne_eq, Nat.reduceEqDiff, not_false_eq_true]
  rfl
theorem SelT.e12 {wr : World} {x13 x9 x10 x11 gt ot j n ct : Nat} {nm : ByteArray} {ev : Bool} {A : Option Addr} {k d : Nat}  {b0 b1 b2 b3 b4 b5 b6 b7 b8 b9 b10 b11 b13 b14 b15 b16 b17 : Bool} {a0 : Act} (hs : a0.tmps.size = 48) : (SelT.A wr x13 x9 x10 x11 gt ot j n ct nm ev A k d  b0 b1 b2 b3 b4 b5 b6 b7 b8 b9 b10 b11 true b13 b14 b15 b16 b17 a0).eval (.tmp 33) = (.bool true) := by
  simp [SelT.A, eval_putIf, eval_put, size_putIf, hs]
theorem SelT.p13 (wr : World) (x13 x9 x10 x11 gt ot j n ct : Nat) (nm : ByteArray) (ev : Bool) (A : Option Addr) (k d : Nat)   (b0 b1 b2 b3 b4 b5 b6 b7 b8 b9 b10 b11 b12 b14 b15 b16 b17 : Bool) (a0 : Act) :
    (SelT.A wr x13 x9 x10 x11 gt ot j n ct nm ev A k d  b0 b1 b2 b3 b4 b5 b6 b7 b8 b9 b10 b11 b12 false b14 b15 b16 b17 a0).put (some 34) undef = SelT.A wr x13 x9 x10 x11 gt ot j n ct nm ev A k d  b0 b1 b2 b3 b4 b5 b6 b7 b8 b9 b10 b11 b12 true b14 b15 b16 b17 a0 := by
  simp only [SelT.A, putIf_put, ne_eq, Nat.reduceEqDiff, not_false_eq_true]
  rfl
theorem SelT.e13 {wr : World} {x13 x9 x10 x11 gt ot j n ct : Nat} {nm : ByteArray} {ev : Bool} {A : Option Addr} {k d : Nat}  {b0 b1 b2 b3 b4 b5 b6 b7 b8 b9 b10 b11 b12 b14 b15 b16 b17 : Bool} {a0 : Act} (hs : a0.tmps.size = 48) : (SelT.A wr x13 x9 x10 x11 gt ot j n ct nm ev A k d  b0 b1 b2 b3 b4 b5 b6 b7 b8 b9 b10 b11 b12 true b14 b15 b16 b17 a0).eval (.tmp 34) = undef := by
  simp [SelT.A, eval_putIf, eval_put, size_putIf, hs]
theorem SelT.p14 (wr : World) (x13 x9 x10 x11 gt ot j n ct : Nat) (nm : ByteArray) (ev : Bool) (A : Option Addr) (k d : Nat)   (b0 b1 b2 b3 b4 b5 b6 b7 b8 b9 b10 b11 b12 b13 b15 b16 b17 : Bool) (a0 : Act) :
    (SelT.A wr x13 x9 x10 x11 gt ot j n ct nm ev A k d  b0 b1 b2 b3 b4 b5 b6 b7 b8 b9 b10 b11 b12 b13 false b15 b16 b17 a0).put (some 35) undef = SelT.A wr x13 x9 x10 x11 gt ot j n ct nm ev A k d  b0 b1 b2 b3 b4 b5 b6 b7 b8 b9 b10 b11 b12 b13 true b15 b16 b17 a0 := by
  simp only [SelT.A, putIf_put, ne_eq, Nat.reduceEqDiff, not_false_eq_true]
  rfl
theorem SelT.e14 {wr : World} {x13 x9 x10 x11 gt ot j n ct : Nat} {nm : ByteArray} {ev : Bool} {A : Option Addr} {k d : Nat}  {b0 b1 b2 b3 b4 b5 b6 b7 b8 b9 b10 b11 b12 b13 b15 b16 b17 : Bool} {a0 : Act} (hs : a0.tmps.size = 48) : (SelT.A wr x13 x9 x10 x11 gt ot j n ct nm ev A k d  b0 b1 b2 b3 b4 b5 b6 b7 b8 b9 b10 b11 b12 b13 true b15 b16 b17 a0).eval (.tmp 35) = undef := by
  simp [SelT.A, eval_putIf, eval_put, size_putIf, hs]
theorem SelT.p15 (wr : World) (x13 x9 x10 x11 gt ot j n ct : Nat) (nm : ByteArray) (ev : Bool) (A : Option Addr) (k d : Nat)   (b0 b1 b2 b3 b4 b5 b6 b7 b8 b9 b10 b11 b12 b13 b14 b16 b17 : Bool) (a0 : Act) :
    (SelT.A wr x13 x9 x10 x11 gt ot j n ct nm ev A k d  b0 b1 b2 b3 b4 b5 b6 b7 b8 b9 b10 b11 b12 b13 b14 false b16 b17 a0).put (some 36) undef = SelT.A wr x13 x9 x10 x11 gt ot j n ct nm ev A k d  b0 b1 b2 b3 b4 b5 b6 b7 b8 b9 b10 b11 b12 b13 b14 true b16 b17 a0 := by
  simp only [SelT.A, putIf_put, ne_eq, Nat.reduceEqDiff, not_false_eq_true]
  rfl
theorem SelT.e15 {wr : World} {x13 x9 x10 x11 gt ot j n ct : Nat} {nm : ByteArray} {ev : Bool} {A : Option Addr} {k d : Nat}  {b0 b1 b2 b3 b4 b5 b6 b7 b8 b9 b10 b11 b12 b13 b14 b16 b17 : Bool} {a0 : Act} (hs : a0.tmps.size = 48) : (SelT.A wr x13 x9 x10 x11 gt ot j n ct nm ev A k d  b0 b1 b2 b3 b4 b5 b6 b7 b8 b9 b10 b11 b12 b13 b14 true b16 b17 a0).eval (.tmp 36) = undef := by
  simp [SelT.A, eval_putIf, eval_put, size_putIf, hs]
theorem SelT.p16 (wr : World) (x13 x9 x10 x11 gt ot j n ct : Nat) (nm : ByteArray) (ev : Bool) (A : Option Addr) (k d : Nat)   (b0 b1 b2 b3 b4 b5 b6 b7 b8 b9 b10 b11 b12 b13 b14 b15 b17 : Bool) (a0 : Act) :
    (SelT.A wr x13 x9 x10 x11 gt ot j n ct nm ev A k d  b0 b1 b2 b3 b4 b5 b6 b7 b8 b9 b10 b11 b12 b13 b14 b15 false b17 a0).put (some 37) (.bool true) = SelT.A wr x13 x9 x10 x11 gt ot j n ct nm ev A k d  b0 b1 b2 b3 b4 b5 b6 b7 b8 b9 b10 b11 b12 b13 b14 b15 true b17 a0 := by
  simp only [SelT.A, putIf_put, ne_eq, Nat.reduceEqDiff, not_false_eq_true]
  rfl
theorem SelT.e16 {wr : World} {x13 x9 x10 x11 gt ot j n ct : Nat} {nm : ByteArray} {ev : Bool} {A : Option Addr} {k d : Nat}  {b0 b1 b2 b3 b4 b5 b6 b7 b8 b9 b10 b11 b12 b13 b14 b15 b17 : Bool} {a0 : Act} (hs : a0.tmps.size = 48) : (SelT.A wr x13 x9 x10 x11 gt ot j n ct nm ev A k d  b0 b1 b2 b3 b4 b5 b6 b7 b8 b9 b10 b11 b12 b13 b14 b15 true b17 a0).eval (.tmp 37) = (.bool true) := by
  simp [SelT.A, eval_putIf, eval_put, size_putIf, hs]
theorem SelT.p17 (wr : World) (x13 x9 x10 x11 gt ot j n ct : Nat) (nm : ByteArray) (ev : Bool) (A : Option Addr) (k d : Nat)   (b0 b1 b2 b3 b4 b5 b6 b7 b8 b9 b10 b11 b12 b13 b14 b15 b16 : Bool) (a0 : Act) :
    (SelT.A wr x13 x9 x10 x11 gt ot j n ct nm ev A k d  b0 b1 b2 b3 b4 b5 b6 b7 b8 b9 b10 b11 b12 b13 b14 b15 b16 false a0).put (some 38) (.bool true) = SelT.A wr x13 x9 x10 x11 gt ot j n ct nm ev A k d  b0 b1 b2 b3 b4 b5 b6 b7 b8 b9 b10 b11 b12 b13 b14 b15 b16 true a0 := by
  simp only [SelT.A, putIf_put, ne_eq, Nat.reduceEqDiff, not_false_eq_true]
  rfl
theorem SelT.e17 {wr : World} {x13 x9 x10 x11 gt ot j n ct : Nat} {nm : ByteArray} {ev : Bool} {A : Option Addr} {k d : Nat}  {b0 b1 b2 b3 b4 b5 b6 b7 b8 b9 b10 b11 b12 b13 b14 b15 b16 : Bool} {a0 : Act} (hs : a0.tmps.size = 48) : (SelT.A wr x13 x9 x10 x11 gt ot j n ct nm ev A k d  b0 b1 b2 b3 b4 b5 b6 b7 b8 b9 b10 b11 b12 b13 b14 b15 b16 true a0).eval (.tmp 38) = (.bool true) := by
  simp [SelT.A, eval_putIf, eval_put, size_putIf, hs]
theorem SelT.z (wr : World) (x13 x9 x10 x11 gt ot j n ct : Nat) (nm : ByteArray) (ev : Bool) (A : Option Addr) (k d : Nat)  (a0 : Act) : a0 = SelT.A wr x13 x9 x10 x11 gt ot j n ct nm ev A k d  false false false false false false false false false false false false false false false false false false a0 := rfl
theorem SelT.size {wr : World} {x13 x9 x10 x11 gt ot j n ct : Nat} {nm : ByteArray} {ev : Bool} {A : Option Addr} {k d : Nat}  {b0 b1 b2 b3 b4 b5 b6 b7 b8 b9 b10 b11 b12 b13 b14 b15 b16 b17 : Bool} {a0 : Act} : (SelT.A wr x13 x9 x10 x11 gt ot j n ct nm ev A k d  b0 b1 b2 b3 b4 b5 b6 b7 b8 b9 b10 b11 b12 b13 b14 b15 b16 b17 a0).tmps.size = a0.tmps.size := by
  simp [SelT.A, size_putIf]
theorem SelT.f1 {wr : World} {x13 x9 x10 x11 gt ot j n ct : Nat} {nm : ByteArray} {ev : Bool} {A : Option Addr} {k d : Nat}  {b0 b1 b2 b3 b4 b5 b6 b7 b8 b9 b10 b11 b12 b13 b14 b15 b16 b17 : Bool} {a0 : Act} : (SelT.A wr x13 x9 x10 x11 gt ot j n ct nm ev A k d  b0 b1 b2 b3 b4 b5 b6 b7 b8 b9 b10 b11 b12 b13 b14 b15 b16 b17 a0).eval (.tmp 1) = a0.eval (.tmp 1) := by
  simp [SelT.A, eval_putIf]
theorem SelT.f2 {wr : World} {x13 x9 x10 x11 gt ot j n ct : Nat} {nm : ByteArray} {ev : Bool} {A : Option Addr} {k d : Nat}  {b0 b1 b2 b3 b4 b5 b6 b7 b8 b9 b10 b11 b12 b13 b14 b15 b16 b17 : Bool} {a0 : Act} : (SelT.A wr x13 x9 x10 x11 gt ot j n ct nm ev A k d  b0 b1 b2 b3 b4 b5 b6 b7 b8 b9 b10 b11 b12 b13 b14 b15 b16 b17 a0).eval (.tmp 2) = a0.eval (.tmp 2) := by
  simp [SelT.A, eval_putIf]
theorem SelT.f3 {wr : World} {x13 x9 x10 x11 gt ot j n ct : Nat} {nm : ByteArray} {ev : Bool} {A : Option Addr} {k d : Nat}  {b0 b1 b2 b3 b4 b5 b6 b7 b8 b9 b10 b11 b12 b13 b14 b15 b16 b17 : Bool} {a0 : Act} : (SelT.A wr x13 x9 x10 x11 gt ot j n ct nm ev A k d  b0 b1 b2 b3 b4 b5 b6 b7 b8 b9 b10 b11 b12 b13 b14 b15 b16 b17 a0).eval (.tmp 3) = a0.eval (.tmp 3) := by
  simp [SelT.A, eval_putIf]
theorem SelT.f4 {wr : World} {x13 x9 x10 x11 gt ot j n ct : Nat} {nm : ByteArray} {ev : Bool} {A : Option Addr} {k d : Nat}  {b0 b1 b2 b3 b4 b5 b6 b7 b8 b9 b10 b11 b12 b13 b14 b15 b16 b17 : Bool} {a0 : Act} : (SelT.A wr x13 x9 x10 x11 gt ot j n ct nm ev A k d  b0 b1 b2 b3 b4 b5 b6 b7 b8 b9 b10 b11 b12 b13 b14 b15 b16 b17 a0).eval (.tmp 4) = a0.eval (.tmp 4) := by
  simp [SelT.A, eval_putIf]
theorem SelT.f9 {wr : World} {x13 x9 x10 x11 gt ot j n ct : Nat} {nm : ByteArray} {ev : Bool} {A : Option Addr} {k d : Nat}  {b0 b1 b2 b3 b4 b5 b6 b7 b8 b9 b10 b11 b12 b13 b14 b15 b16 b17 : Bool} {a0 : Act} : (SelT.A wr x13 x9 x10 x11 gt ot j n ct nm ev A k d  b0 b1 b2 b3 b4 b5 b6 b7 b8 b9 b10 b11 b12 b13 b14 b15 b16 b17 a0).eval (.tmp 9) = a0.eval (.tmp 9) := by
  simp [SelT.A, eval_putIf]
def SelT.B (wr : World) (x13 x9 x10 x11 gt ot j n ct : Nat) (nm : ByteArray) (ev : Bool) (A : Option Addr) (k d : Nat) (a0 : Act) : Prop := a0.tmps.size = 48 ∧ a0.eval (.tmp 1) = (.pointer (some ⟨x13, 0, none⟩)) ∧ a0.eval (.tmp 2) = (.pointer (some ⟨x9, 0, none⟩)) ∧ a0.eval (.tmp 3) = (.pointer (some ⟨x10, 0, none⟩)) ∧ a0.eval (.tmp 4) = (.pointer (some ⟨x11, 0, none⟩)) ∧ a0.eval (.tmp 9) = (.int .i64 j)
def SelT.I (wr : World) (x13 x9 x10 x11 gt ot j n ct : Nat) (nm : ByteArray) (ev : Bool) (A : Option Addr) (k d : Nat)  (b0 b1 b2 b3 b4 b5 b6 b7 b8 b9 b10 b11 b12 b13 b14 b15 b16 b17 : Bool) (w : World) : Prop := Fr [] wr w
/-- What stays true inside the region, whatever has come up. -/
def SelT.J (wr : World) (x13 x9 x10 x11 gt ot j n ct : Nat) (nm : ByteArray) (ev : Bool) (A : Option Addr) (k d : Nat) (a0 : Act) (l : Array Bool) (a : Act) (w : World) : Prop :=
  SelT.B wr x13 x9 x10 x11 gt ot j n ct nm ev A k d a0 ∧ ∃ b0 b1 b2 b3 b4 b5 b6 b7 b8 b9 b10 b11 b12 b13 b14 b15 b16 b17, l = #[b0, b1, b2, b3, b4, b5, b6, b7, b8, b9, b10, b11, b12, b13, b14, b15, b16, b17] ∧ a = SelT.A wr x13 x9 x10 x11 gt ot j n ct nm ev A k d  b0 b1 b2 b3 b4 b5 b6 b7 b8 b9 b10 b11 b12 b13 b14 b15 b16 b17 a0 ∧ SelT.I wr x13 x9 x10 x11 gt ot j n ct nm ev A k d  b0 b1 b2 b3 b4 b5 b6 b7 b8 b9 b10 b11 b12 b13 b14 b15 b16 b17 w
attribute [irreducible] SelT.A

set_option maxRecDepth 100000 in
set_option maxHeartbeats 8000000 in
theorem sel_t {Q : Exit → Act → World → Prop} {t0 t5 t6 t7 t8 t10 t11 t12 t13 t14 t15 t16 t17 t18 t19 t20 t21 t22 t23 t24 t25 t26 t27 t28 t29 t30 t31 t32 t33 t34 t35 t36 t37 t38 t39 t40 t41 t42 t43 t44 t45 t46 t47 : Value} {wr : World} {x13 x9 x10 x11 gt ot j n ct : Nat} {nm : ByteArray} {ev : Bool} {A : Option Addr} {k d : Nat} (h13 : wr.cell? ⟨x13, 4, none⟩ = some (.slice (some ⟨gt, ot, none⟩) n ct)) (h9 : wr.cell? ⟨x9, 0, none⟩ = some (.string nm)) (h10 : wr.cell? ⟨x10, 0, none⟩ = some (.bool ev)) (h11 : wr.cell? ⟨x11, 0, none⟩ = some .nilFunc)
    (hev : wr.cell? ⟨gt, ot + j * 6 + 1, none⟩ = some (.slice A k d)) (hj : j < n)
    (hc : ∀ w, Fr [] wr w → Calls Try.prog 55 #[.slice A k d, .string nm, .bool ev] w fun e w' => e = .returned (.bool true) ∧ Fr [] wr w')
    (hQ : ∀ (u21 u22 u23 u24 u25 u26 u27 u28 u29 u30 u31 u32 u33 u34 u35 u36 u37 u38 : Value) (wx : World), (Fr [] wr wx ∧ u38 = .bool true) → Q .normal ⟨#[t0, (.pointer (some ⟨x13, 0, none⟩)), (.pointer (some ⟨x9, 0, none⟩)), (.pointer (some ⟨x10, 0, none⟩)), (.pointer (some ⟨x11, 0, none⟩)), t5, t6, t7, t8, (.int .i64 j), t10, t11, t12, t13, t14, t15, t16, t17, t18, t19, t20, u21, u22, u23, u24, u25, u26, u27, u28, u29, u30, u31, u32, u33, u34, u35, u36, u37, u38, t39, t40, t41, t42, t43, t44, t45, t46, t47], []⟩ wx) :
    (regAt Try.f54 4).wp Try.prog Q ⟨#[t0, (.pointer (some ⟨x13, 0, none⟩)), (.pointer (some ⟨x9, 0, none⟩)), (.pointer (some ⟨x10, 0, none⟩)), (.pointer (some ⟨x11, 0, none⟩)), t5, t6, t7, t8, (.int .i64 j), t10, t11, t12, t13, t14, t15, t16, t17, t18, t19, t20, t21, t22, t23, t24, t25, t26, t27, t28, t29, t30, t31, t32, t33, t34, t35, t36, t37, t38, t39, t40, t41, t42, t43, t44, t45, t46, t47], []⟩ wr := by
  have p0 : (0 : Int) ≤ (j : Int) := by omega
  have p1 : (j : Int) < (n : Int) := by omega
  have hnf : ∀ w, (binOp .eql 68 .nilFunc .nilFunc).run Try.prog w = .ok (.bool true) w := fun _ => by kernel_rfl
  refine Code.wp_mono (Q := OnlyN (fun a w => Q .normal a w)) onlyN_imp ?_
  conv => arg 2; whnf
  dsimp only
  refine region_inv (by kernel_rfl) (fun a0 l a w => SelT.J wr x13 x9 x10 x11 gt ot j n ct nm ev A k d a0 l a w) ?_ ?_ ?_
  · exact ⟨⟨rfl, rfl, rfl, rfl, rfl, rfl⟩, false, false, false, false, false, false, false, false, false, false, false, false, false, false, false, false, false, false, rfl, SelT.z .., (Fr.refl _ _).drew⟩
  · intro l a' w' hJ hi
    obtain ⟨-, b0, b1, b2, b3, b4, b5, b6, b7, b8, b9, b10, b11, b12, b13, b14, b15, b16, b17, rfl, rfl, hinv⟩ := hJ
    have t0 : b0 = true := ready_nil hi 0 (by decide) (by simp [Region.binds])
    have t1 : b1 = true := ready_nil hi 1 (by decide) (by simp [Region.binds, t0])
    have t2 : b2 = true := ready_nil hi 2 (by decide) (by simp [Region.binds])
    have t3 : b3 = true := ready_nil hi 3 (by decide) (by simp [Region.binds, t1, t2])
    have t4 : b4 = true := ready_nil hi 4 (by decide) (by simp [Region.binds, t3])
    have t5 : b5 = true := ready_nil hi 5 (by decide) (by simp [Region.binds, t4])
    have t6 : b6 = true := ready_nil hi 6 (by decide) (by simp [Region.binds])
    have t7 : b7 = true := ready_nil hi 7 (by decide) (by simp [Region.binds])
    have t8 : b8 = true := ready_nil hi 8 (by decide) (by simp [Region.binds, t5, t6, t7])
    have t9 : b9 = true := ready_nil hi 9 (by decide) (by simp [Region.binds, t8])
    have t10 : b10 = true := ready_nil hi 10 (by decide) (by simp [Region.binds, t9])
    have t11 : b11 = true := ready_nil hi 11 (by decide) (by simp [Region.binds, t9, t10])
    have t12 : b12 = true := ready_nil hi 12 (by decide) (by simp [Region.binds, t9, t11])
    have t13 : b13 = true := ready_nil hi 13 (by decide) (by simp [Region.binds, t12])
    have t14 : b14 = true := ready_nil hi 14 (by decide) (by simp [Region.binds, t12])
    have t15 : b15 = true := ready_nil hi 15 (by decide) (by simp [Region.binds, t12, t13, t14])
    have t16 : b16 = true := ready_nil hi 16 (by decide) (by simp [Region.binds, t9, t12, t15])
    have t17 : b17 = true := ready_nil hi 17 (by decide) (by simp [Region.binds, t9, t16])
    subst t0 t1 t2 t3 t4 t5 t6 t7 t8 t9 t10 t11 t12 t13 t14 t15 t16 t17
    clear hi
    simp only [OnlyN, SelT.A, putIf_true, Act.put, List.setIfInBounds_toArray, List.set_cons_zero, List.set_cons_succ]
    exact hQ _ _ _ _ _ _ _ _ _ _ _ _ _ _ _ _ _ _ _ ⟨hinv, rfl⟩
  · intro a0 l a' w' i hJ hi
    obtain ⟨hB, b0, b1, b2, b3, b4, b5, b6, b7, b8, b9, b10, b11, b12, b13, b14, b15, b16, b17, rfl, rfl, hinv⟩ := hJ
    have hBB := hB
    obtain ⟨hs0, g1, g2, g3, g4, g9⟩ := hBB
    obtain ⟨h10, hlf, haf⟩ := mem_ready hi
    clear hi
    have hc : i = 0 ∨ i = 1 ∨ i = 2 ∨ i = 3 ∨ i = 4 ∨ i = 5 ∨ i = 6 ∨ i = 7 ∨ i = 8 ∨ i = 9 ∨ i = 10 ∨ i = 11 ∨ i = 12 ∨ i = 13 ∨ i = 14 ∨ i = 15 ∨ i = 16 ∨ i = 17 := by
      have : i < 18 := h10
      omega
    clear h10
    rcases hc with rfl | rfl | rfl | rfl | rfl | rfl | rfl | rfl | rfl | rfl | rfl | rfl | rfl | rfl | rfl | rfl | rfl | rfl
    · obtain rfl : b0 = false := by simpa using hlf
      refine wpOp_at rfl rfl ?_
      simp only [List.getElem_toArray, List.getElem_cons_zero, List.getElem_cons_succ]
      refine op_val (v := (.pointer (some ⟨x13, 4, none⟩))) ?_ (show SelT.J wr x13 x9 x10 x11 gt ot j n ct nm ev A k d a0 _ _ _ from ⟨hB, true, b1, b2, b3, b4, b5, b6, b7, b8, b9, b10, b11, b12, b13, b14, b15, b16, b17, rfl, SelT.p0 .., hinv⟩)
      simp only [execOp, SelT.f1, g1]
      have K0 := cell_on (W := wr) hinv h13
      have K1 := cell_on (W := wr) hinv h9
      have K2 := cell_on (W := wr) hinv h10
      have K3 := cell_on (W := wr) hinv h11
      have K4 := cell_on (W := wr) hinv hev
      go_simp
    · obtain rfl : b1 = false := by simpa using hlf
      refine wpOp_at rfl rfl ?_
      simp only [List.getElem_toArray, List.getElem_cons_zero, List.getElem_cons_succ]
      simp [Region.binds] at haf
      subst haf
      refine op_val (v := (.slice (some ⟨gt, ot, none⟩) n ct)) ?_ (show SelT.J wr x13 x9 x10 x11 gt ot j n ct nm ev A k d a0 _ _ _ from ⟨hB, true, true, b2, b3, b4, b5, b6, b7, b8, b9, b10, b11, b12, b13, b14, b15, b16, b17, rfl, SelT.p1 .., hinv⟩)
      simp only [execOp, SelT.e0 hs0]
      have K0 := cell_on (W := wr) hinv h13
      have K1 := cell_on (W := wr) hinv h9
      have K2 := cell_on (W := wr) hinv h10
      have K3 := cell_on (W := wr) hinv h11
      have K4 := cell_on (W := wr) hinv hev
      go_simp
    · obtain rfl : b2 = false := by simpa using hlf
      refine wpOp_at rfl rfl ?_
      simp only [List.getElem_toArray, List.getElem_cons_zero, List.getElem_cons_succ]
      refine op_val (v := (.int .i64 j)) ?_ (show SelT.J wr x13 x9 x10 x11 gt ot j n ct nm ev A k d a0 _ _ _ from ⟨hB, b0, b1, true, b3, b4, b5, b6, b7, b8, b9, b10, b11, b12, b13, b14, b15, b16, b17, rfl, SelT.p2 .., hinv⟩)
      simp only [execOp, SelT.f9, g9]
      have K0 := cell_on (W := wr) hinv h13
      have K1 := cell_on (W := wr) hinv h9
      have K2 := cell_on (W := wr) hinv h10
      have K3 := cell_on (W := wr) hinv h11
      have K4 := cell_on (W := wr) hinv hev
      go_simp
    · obtain rfl : b3 = false := by simpa using hlf
      refine wpOp_at rfl rfl ?_
      simp only [List.getElem_toArray, List.getElem_cons_zero, List.getElem_cons_succ]
      simp [Region.binds] at haf
      obtain ⟨a0, a1⟩ := haf
      subst a0 a1
      refine op_val (v := (.pointer (some ⟨gt, ot + j * 6, none⟩))) ?_ (show SelT.J wr x13 x9 x10 x11 gt ot j n ct nm ev A k d a0 _ _ _ from ⟨hB, b0, true, true, true, b4, b5, b6, b7, b8, b9, b10, b11, b12, b13, b14, b15, b16, b17, rfl, SelT.p3 .., hinv⟩)
      simp only [execOp, SelT.e1 hs0, SelT.e2 hs0]
      have K0 := cell_on (W := wr) hinv h13
      have K1 := cell_on (W := wr) hinv h9
      have K2 := cell_on (W := wr) hinv h10
      have K3 := cell_on (W := wr) hinv h11
      have K4 := cell_on (W := wr) hinv hev
      go_simp
    · obtain rfl : b4 = false := by simpa using hlf
      refine wpOp_at rfl rfl ?_
      simp only [List.getElem_toArray, List.getElem_cons_zero, List.getElem_cons_succ]
      simp [Region.binds] at haf
      subst haf
      refine op_val (v := (.pointer (some ⟨gt, ot + j * 6 + 1, none⟩))) ?_ (show SelT.J wr x13 x9 x10 x11 gt ot j n ct nm ev A k d a0 _ _ _ from ⟨hB, b0, b1, b2, true, true, b5, b6, b7, b8, b9, b10, b11, b12, b13, b14, b15, b16, b17, rfl, SelT.p4 .., hinv⟩)
      simp only [execOp, SelT.e3 hs0]
      have K0 := cell_on (W := wr) hinv h13
      have K1 := cell_on (W := wr) hinv h9
      have K2 := cell_on (W := wr) hinv h10
      have K3 := cell_on (W := wr) hinv h11
      have K4 := cell_on (W := wr) hinv hev
      go_simp
    · obtain rfl : b5 = false := by simpa using hlf
      refine wpOp_at rfl rfl ?_
      simp only [List.getElem_toArray, List.getElem_cons_zero, List.getElem_cons_succ]
      simp [Region.binds] at haf
      subst haf
      refine op_val (v := (.slice A k d)) ?_ (show SelT.J wr x13 x9 x10 x11 gt ot j n ct nm ev A k d a0 _ _ _ from ⟨hB, b0, b1, b2, b3, true, true, b6, b7, b8, b9, b10, b11, b12, b13, b14, b15, b16, b17, rfl, SelT.p5 .., hinv⟩)
      simp only [execOp, SelT.e4 hs0]
      have K0 := cell_on (W := wr) hinv h13
      have K1 := cell_on (W := wr) hinv h9
      have K2 := cell_on (W := wr) hinv h10
      have K3 := cell_on (W := wr) hinv h11
      have K4 := cell_on (W := wr) hinv hev
      go_simp
    · obtain rfl : b6 = false := by simpa using hlf
      refine wpOp_at rfl rfl ?_
      simp only [List.getElem_toArray, List.getElem_cons_zero, List.getElem_cons_succ]
      refine op_val (v := (.string nm)) ?_ (show SelT.J wr x13 x9 x10 x11 gt ot j n ct nm ev A k d a0 _ _ _ from ⟨hB, b0, b1, b2, b3, b4, b5, true, b7, b8, b9, b10, b11, b12, b13, b14, b15, b16, b17, rfl, SelT.p6 .., hinv⟩)
      simp only [execOp, SelT.f2, g2]
      have K0 := cell_on (W := wr) hinv h13
      have K1 := cell_on (W := wr) hinv h9
      have K2 := cell_on (W := wr) hinv h10
      have K3 := cell_on (W := wr) hinv h11
      have K4 := cell_on (W := wr) hinv hev
      go_simp
    · obtain rfl : b7 = false := by simpa using hlf
      refine wpOp_at rfl rfl ?_
      simp only [List.getElem_toArray, List.getElem_cons_zero, List.getElem_cons_succ]
      refine op_val (v := (.bool ev)) ?_ (show SelT.J wr x13 x9 x10 x11 gt ot j n ct nm ev A k d a0 _ _ _ from ⟨hB, b0, b1, b2, b3, b4, b5, b6, true, b8, b9, b10, b11, b12, b13, b14, b15, b16, b17, rfl, SelT.p7 .., hinv⟩)
      simp only [execOp, SelT.f3, g3]
      have K0 := cell_on (W := wr) hinv h13
      have K1 := cell_on (W := wr) hinv h9
      have K2 := cell_on (W := wr) hinv h10
      have K3 := cell_on (W := wr) hinv h11
      have K4 := cell_on (W := wr) hinv hev
      go_simp
    · obtain rfl : b8 = false := by simpa using hlf
      refine wpOp_at rfl rfl ?_
      simp only [List.getElem_toArray, List.getElem_cons_zero, List.getElem_cons_succ]
      simp [Region.binds] at haf
      obtain ⟨a0, a1, a2⟩ := haf
      subst a0 a1 a2
      have hF : Fr [] wr w' := hinv
      refine op_call (f := 55) rfl (vs := #[.slice A k d, .string nm, .bool ev]) (by simp [SelT.e5 hs0, SelT.e6 hs0, SelT.e7 hs0]) (fun w => enters_of Try.func55 (by kernel_rfl) rfl _ w) ?_
      refine (hc _ hF).mono ?_
      rintro e w3 ⟨rfl, hinv⟩
      exact ⟨_, rfl, (show SelT.J wr x13 x9 x10 x11 gt ot j n ct nm ev A k d a0 _ _ _ from ⟨hB, b0, b1, b2, b3, b4, true, true, true, true, b9, b10, b11, b12, b13, b14, b15, b16, b17, rfl, SelT.p8 .., hinv⟩)⟩
    · obtain rfl : b9 = false := by simpa using hlf
      refine wpOp_at rfl rfl ?_
      simp only [List.getElem_toArray, List.getElem_cons_zero, List.getElem_cons_succ]
      simp [Region.binds] at haf
      subst haf
      refine op_val (v := (.bool true)) ?_ (show SelT.J wr x13 x9 x10 x11 gt ot j n ct nm ev A k d a0 _ _ _ from ⟨hB, b0, b1, b2, b3, b4, b5, b6, b7, true, true, b10, b11, b12, b13, b14, b15, b16, b17, rfl, SelT.p9 .., hinv⟩)
      simp only [execOp, SelT.e8 hs0]
      have K0 := cell_on (W := wr) hinv h13
      have K1 := cell_on (W := wr) hinv h9
      have K2 := cell_on (W := wr) hinv h10
      have K3 := cell_on (W := wr) hinv h11
      have K4 := cell_on (W := wr) hinv hev
      go_simp
    · obtain rfl : b10 = false := by simpa using hlf
      simp [Region.binds] at haf
      subst haf
      refine wpOp_guard rfl rfl (yielded_of rfl rfl (by rw [SelT.size, hs0]; decide) (SelT.e9 hs0)) ?_
      simp only [List.getElem_toArray, List.getElem_cons_zero, List.getElem_cons_succ]
      refine op_val (v := .nilFunc) ?_ (show SelT.J wr x13 x9 x10 x11 gt ot j n ct nm ev A k d a0 _ _ _ from ⟨hB, b0, b1, b2, b3, b4, b5, b6, b7, b8, true, true, b11, b12, b13, b14, b15, b16, b17, rfl, SelT.p10 .., hinv⟩)
      simp only [execOp, SelT.f4, g4]
      have K0 := cell_on (W := wr) hinv h13
      have K1 := cell_on (W := wr) hinv h9
      have K2 := cell_on (W := wr) hinv h10
      have K3 := cell_on (W := wr) hinv h11
      have K4 := cell_on (W := wr) hinv hev
      go_simp
    · obtain rfl : b11 = false := by simpa using hlf
      simp [Region.binds] at haf
      obtain ⟨a0, a1⟩ := haf
      subst a0 a1
      refine wpOp_guard rfl rfl (yielded_of rfl rfl (by rw [SelT.size, hs0]; decide) (SelT.e9 hs0)) ?_
      simp only [List.getElem_toArray, List.getElem_cons_zero, List.getElem_cons_succ]
      refine op_val (v := (.bool true)) ?_ (show SelT.J wr x13 x9 x10 x11 gt ot j n ct nm ev A k d a0 _ _ _ from ⟨hB, b0, b1, b2, b3, b4, b5, b6, b7, b8, true, true, true, b12, b13, b14, b15, b16, b17, rfl, SelT.p11 .., hinv⟩)
      simp only [execOp, SelT.e10 hs0]
      have K0 := cell_on (W := wr) hinv h13
      have K1 := cell_on (W := wr) hinv h9
      have K2 := cell_on (W := wr) hinv h10
      have K3 := cell_on (W := wr) hinv h11
      have K4 := cell_on (W := wr) hinv hev
      go_simp
    · obtain rfl : b12 = false := by simpa using hlf
      simp [Region.binds] at haf
      obtain ⟨a0, a1⟩ := haf
      subst a0 a1
      refine wpOp_guard rfl rfl (yielded_of rfl rfl (by rw [SelT.size, hs0]; decide) (SelT.e9 hs0)) ?_
      simp only [List.getElem_toArray, List.getElem_cons_zero, List.getElem_cons_succ]
      refine op_val (v := (.bool true)) ?_ (show SelT.J wr x13 x9 x10 x11 gt ot j n ct nm ev A k d a0 _ _ _ from ⟨hB, b0, b1, b2, b3, b4, b5, b6, b7, b8, true, b10, true, true, b13, b14, b15, b16, b17, rfl, SelT.p12 .., hinv⟩)
      simp only [execOp, SelT.e11 hs0]
      have K0 := cell_on (W := wr) hinv h13
      have K1 := cell_on (W := wr) hinv h9
      have K2 := cell_on (W := wr) hinv h10
      have K3 := cell_on (W := wr) hinv h11
      have K4 := cell_on (W := wr) hinv hev
      go_simp
    · obtain rfl : b13 = false := by simpa using hlf
      simp [Region.binds] at haf
      subst haf
      refine wpOp_skip rfl rfl (yielded_of rfl rfl (by rw [SelT.size, hs0]; decide) (SelT.e12 hs0)) (by decide) ?_
      exact (show SelT.J wr x13 x9 x10 x11 gt ot j n ct nm ev A k d a0 _ _ _ from ⟨hB, b0, b1, b2, b3, b4, b5, b6, b7, b8, b9, b10, b11, true, true, b14, b15, b16, b17, rfl, SelT.p13 .., hinv⟩)
    · obtain rfl : b14 = false := by simpa using hlf
      simp [Region.binds] at haf
      subst haf
      refine wpOp_skip rfl rfl (yielded_of rfl rfl (by rw [SelT.size, hs0]; decide) (SelT.e12 hs0)) (by decide) ?_
      exact (show SelT.J wr x13 x9 x10 x11 gt ot j n ct nm ev A k d a0 _ _ _ from ⟨hB, b0, b1, b2, b3, b4, b5, b6, b7, b8, b9, b10, b11, true, b13, true, b15, b16, b17, rfl, SelT.p14 .., hinv⟩)
    · obtain rfl : b15 = false := by simpa using hlf
      simp [Region.binds] at haf
      obtain ⟨a0, a1, a2⟩ := haf
      subst a0 a1 a2
      refine wpOp_skip rfl rfl (yielded_of rfl rfl (by rw [SelT.size, hs0]; decide) (SelT.e12 hs0)) (by decide) ?_
      exact (show SelT.J wr x13 x9 x10 x11 gt ot j n ct nm ev A k d a0 _ _ _ from ⟨hB, b0, b1, b2, b3, b4, b5, b6, b7, b8, b9, b10, b11, true, true, true, true, b16, b17, rfl, SelT.p15 .., hinv⟩)
    · obtain rfl : b16 = false := by simpa using hlf
      simp [Region.binds] at haf
      obtain ⟨a0, a1, a2⟩ := haf
      subst a0 a1 a2
      refine wpOp_guard rfl rfl (yielded_of rfl rfl (by rw [SelT.size, hs0]; decide) (SelT.e9 hs0)) ?_
      simp only [List.getElem_toArray, List.getElem_cons_zero, List.getElem_cons_succ]
      refine op_val (v := (.bool true)) ?_ (show SelT.J wr x13 x9 x10 x11 gt ot j n ct nm ev A k d a0 _ _ _ from ⟨hB, b0, b1, b2, b3, b4, b5, b6, b7, b8, true, b10, b11, true, b13, b14, true, true, b17, rfl, SelT.p16 .., hinv⟩)
      simp only [execOp, SelT.e12 hs0, SelT.e15 hs0]
      have K0 := cell_on (W := wr) hinv h13
      have K1 := cell_on (W := wr) hinv h9
      have K2 := cell_on (W := wr) hinv h10
      have K3 := cell_on (W := wr) hinv h11
      have K4 := cell_on (W := wr) hinv hev
      go_simp
    · obtain rfl : b17 = false := by simpa using hlf
      refine wpOp_at rfl rfl ?_
      simp only [List.getElem_toArray, List.getElem_cons_zero, List.getElem_cons_succ]
      simp [Region.binds] at haf
      obtain ⟨a0, a1⟩ := haf
      subst a0 a1
      refine op_val (v := (.bool true)) ?_ (show SelT.J wr x13 x9 x10 x11 gt ot j n ct nm ev A k d a0 _ _ _ from ⟨hB, b0, b1, b2, b3, b4, b5, b6, b7, b8, true, b10, b11, b12, b13, b14, b15, true, true, rfl, SelT.p17 .., hinv⟩)
      simp only [execOp, SelT.e9 hs0, SelT.e16 hs0]
      have K0 := cell_on (W := wr) hinv h13
      have K1 := cell_on (W := wr) hinv h9
      have K2 := cell_on (W := wr) hinv h10
      have K3 := cell_on (W := wr) hinv h11
      have K4 := cell_on (W := wr) hinv hev
      go_simp
/-- The frame inside the region: what has come up lies in its slots. -/
def SelF.A (wr : World) (x13 x9 x10 x11 gt ot j n ct : Nat) (nm : ByteArray) (ev : Bool) (A : Option Addr) (k d : Nat)  (b0 b1 b2 b3 b4 b5 b6 b7 b8 b9 b10 b11 b12 b13 b14 b15 b16 b17 : Bool) (a0 : Act) : Act := putIf b0 21 (.pointer (some ⟨x13, 4, none⟩)) (putIf b1 22 (.slice (some ⟨gt, ot, none⟩) n ct) (putIf b2 23 (.int .i64 j) (putIf b3 24 (.pointer (some ⟨gt, ot + j * 6, none⟩)) (putIf b4 25 (.pointer (some ⟨gt, ot + j * 6 + 1, none⟩)) (putIf b5 26 (.slice A k d) (putIf b6 27 (.string nm) (putIf b7 28 (.bool ev) (putIf b8 29 (.bool false) (putIf b9 30 (.bool false) (putIf b10 31 undef (putIf b11 32 undef (putIf b12 33 undef (putIf b13 34 undef (putIf b14 35 undef (putIf b15 36 undef (putIf b16 37 undef (putIf b17 38 (.bool false) (a0))))))))))))))))))
theorem SelF.p0 (wr : World) (x13 x9 x10 x11 gt ot j n ct : Nat) (nm : ByteArray) (ev : Bool) (A : Option Addr) (k d : Nat)   (b1 b2 b3 b4 b5 b6 b7 b8 b9 b10 b11 b12 b13 b14 b15 b16 b17 : Bool) (a0 : Act) :
    (SelF.A wr x13 x9 x10 x11 gt ot j n ct nm ev A k d  false b1 b2 b3 b4 b5 b6 b7 b8 b9 b10 b11 b12 b13 b14 b15 b16 b17 a0).put (some 21) (.pointer (some ⟨x13, 4, none⟩)) = SelF.A wr x13 x9 x10 x11 gt ot j n ct nm ev A k d  true b1 b2 b3 b4 b5 b6 b7 b8 b9 b10 b11 b12 b13 b14 b15 b16 b17 a0 := by
  simp only [SelF.A, putIf_put, ne_eq, Nat.reduceEqDiff, not_false_eq_true]
  rfl
theorem SelF.e0 {wr : World} {x13 x9 x10 x11 gt ot j n ct : Nat} {nm : ByteArray} {ev : Bool} {A : Option Addr} {k d : Nat}  {b1 b2 b3 b4 b5 b6 b7 b8 b9 b10 b11 b12 b13 b14 b15 b16 b17 : Bool} {a0 : Act} (hs : a0.tmps.size = 48) : (SelF.A wr x13 x9 x10 x11 gt ot j n ct nm ev A k d  true b1 b2 b3 b4 b5 b6 b7 b8 b9 b10 b11 b12 b13 b14 b15 b16 b17 a0).eval (.tmp 21) = (.pointer (some ⟨x13, 4, none⟩)) := by
  simp [SelF.A, eval_putIf, eval_put, size_putIf, hs]
theorem SelF.p1 (wr : World) (x13 x9 x10 x11 gt ot j n ct : Nat) (nm : ByteArray) (ev : Bool) (A : Option Addr) (k d : Nat)   (b0 b2 b3 b4 b5 b6 b7 b8 b9 b10 b11 b12 b13 b14 b15 b16 b17 : Bool) (a0 : Act) :
    (SelF.A wr x13 x9 x10 x11 gt ot j n ct nm ev A k d  b0 false b2 b3 b4 b5 b6 b7 b8 b9 b10 b11 b12 b13 b14 b15 b16 b17 a0).put (some 22) (.slice (some ⟨gt, ot, none⟩) n ct) = SelF.A wr x13 x9 x10 x11 gt ot j n ct nm ev A k d  b0 true b2 b3 b4 b5 b6 b7 b8 b9 b10 b11 b12 b13 b14 b15 b16 b17 a0 := by
  simp only [SelF.A, putIf_put, ne_eq, Nat.reduceEqDiff, not_false_eq_true]
  rfl
theorem SelF.e1 {wr : World} {x13 x9 x10 x11 gt ot j n ct : Nat} {nm : ByteArray} {ev : Bool} {A : Option Addr} {k d : Nat}  {b0 b2 b3 b4 b5 b6 b7 b8 b9 b10 b11 b12 b13 b14 b15 b16 b17 : Bool} {a0 : Act} (hs : a0.tmps.size = 48) : (SelF.A wr x13 x9 x10 x11 gt ot j n ct nm ev A k d  b0 true b2 b3 b4 b5 b6 b7 b8 b9 b10 b11 b12 b13 b14 b15 b16 b17 a0).eval (.tmp 22) = (.slice (some ⟨gt, ot, none⟩) n ct) := by
  simp [SelF.A, eval_putIf, eval_put, size_putIf, hs]
theorem SelF.p2 (wr : World) (x13 x9 x10 x11 gt ot j n ct : Nat) (nm : ByteArray) (ev : Bool) (A : Option Addr) (k d : Nat)   (b0 b1 b3 b4 b5 b6 b7 b8 b9 b10 b11 b12 b13 b14 b15 b16 b17 : Bool) (a0 : Act) :
    (SelF.A wr x13 x9 x10 x11 gt ot j n ct nm ev A k d  b0 b1 false b3 b4 b5 b6 b7 b8 b9 b10 b11 b12 b13 b14 b15 b16 b17 a0).put (some 23) (.int .i64 j) = SelF.A wr x13 x9 x10 x11 gt ot j n ct nm ev A k d  b0 b1 true b3 b4 b5 b6 b7 b8 b9 b10 b11 b12 b13 b14 b15 b16 b17 a0 := by
  simp only [SelF.A, putIf_put, ne_eq, Nat.reduceEqDiff, not_false_eq_true]
  rfl
theorem SelF.e2 {wr : World} {x13 x9 x10 x11 gt ot j n ct : Nat} {nm : ByteArray} {ev : Bool} {A : Option Addr} {k d : Nat}  {b0 b1 b3 b4 b5 b6 b7 b8 b9 b10 b11 b12 b13 b14 b15 b16 b17 : Bool} {a0 : Act} (hs : a0.tmps.size = 48) : (SelF.A wr x13 x9 x10 x11 gt ot j n ct nm ev A k d  b0 b1 true b3 b4 b5 b6 b7 b8 b9 b10 b11 b12 b13 b14 b15 b16 b17 a0).eval (.tmp 23) = (.int .i64 j) := by
  simp [SelF.A, eval_putIf, eval_put, size_putIf, hs]
theorem SelF.p3 (wr : World) (x13 x9 x10 x11 gt ot j n ct : Nat) (nm : ByteArray) (ev : Bool) (A : Option Addr) (k d : Nat)   (b0 b1 b2 b4 b5 b6 b7 b8 b9 b10 b11 b12 b13 b14 b15 b16 b17 : Bool) (a0 : Act) :
    (SelF.A wr x13 x9 x10 x11 gt ot j n ct nm ev A k d  b0 b1 b2 false b4 b5 b6 b7 b8 b9 b10 b11 b12 b13 b14 b15 b16 b17 a0).put (some 24) (.pointer (some ⟨gt, ot + j * 6, none⟩)) = SelF.A wr x13 x9 x10 x11 gt ot j n ct nm ev A k d  b0 b1 b2 true b4 b5 b6 b7 b8 b9 b10 b11 b12 b13 b14 b15 b16 b17 a0 := by
  simp only [SelF.A, putIf_put, ne_eq, Nat.reduceEqDiff, not_false_eq_true]
  rfl
theorem SelF.e3 {wr : World} {x13 x9 x10 x11 gt ot j n ct : Nat} {nm : ByteArray} {ev : Bool} {A : Option Addr} {k d : Nat}  {b0 b1 b2 b4 b5 b6 b7 b8 b9 b10 b11 b12 b13 b14 b15 b16 b17 : Bool} {a0 : Act} (hs : a0.tmps.size = 48) : (SelF.A wr x13 x9 x10 x11 gt ot j n ct nm ev A k d  b0 b1 b2 true b4 b5 b6 b7 b8 b9 b10 b11 b12 b13 b14 b15 b16 b17 a0).eval (.tmp 24) = (.pointer (some ⟨gt, ot + j * 6, none⟩)) := by
  simp [SelF.A, eval_putIf, eval_put, size_putIf, hs]
theorem SelF.p4 (wr : World) (x13 x9 x10 x11 gt ot j n ct : Nat) (nm : ByteArray) (ev : Bool) (A : Option Addr) (k d : Nat)   (b0 b1 b2 b3 b5 b6 b7 b8 b9 b10 b11 b12 b13 b14 b15 b16 b17 : Bool) (a0 : Act) :
    (SelF.A wr x13 x9 x10 x11 gt ot j n ct nm ev A k d  b0 b1 b2 b3 false b5 b6 b7 b8 b9 b10 b11 b12 b13 b14 b15 b16 b17 a0).put (some 25) (.pointer (some ⟨gt, ot + j * 6 + 1, none⟩)) = SelF.A wr x13 x9 x10 x11 gt ot j n ct nm ev A k d  b0 b1 b2 b3 true b5 b6 b7 b8 b9 b10 b11 b12 b13 b14 b15 b16 b17 a0 := by
  simp only [SelF.A, putIf_put, ne_eq, Nat.reduceEqDiff, not_false_eq_true]
  rfl
theorem SelF.e4 {wr : World} {x13 x9 x10 x11 gt ot j n ct : Nat} {nm : ByteArray} {ev : Bool} {A : Option Addr} {k d : Nat}  {b0 b1 b2 b3 b5 b6 b7 b8 b9 b10 b11 b12 b13 b14 b15 b16 b17 : Bool} {a0 : Act} (hs : a0.tmps.size = 48) : (SelF.A wr x13 x9 x10 x11 gt ot j n ct nm ev A k d  b0 b1 b2 b3 true b5 b6 b7 b8 b9 b10 b11 b12 b13 b14 b15 b16 b17 a0).eval (.tmp 25) = (.pointer (some ⟨gt, ot + j * 6 + 1, none⟩)) := by
  simp [SelF.A, eval_putIf, eval_put, size_putIf, hs]
theorem SelF.p5 (wr : World) (x13 x9 x10 x11 gt ot j n ct : Nat) (nm : ByteArray) (ev : Bool) (A : Option Addr) (k d : Nat)   (b0 b1 b2 b3 b4 b6 b7 b8 b9 b10 b11 b12 b13 b14 b15 b16 b17 : Bool) (a0 : Act) :
    (SelF.A wr x13 x9 x10 x11 gt ot j n ct nm ev A k d  b0 b1 b2 b3 b4 false b6 b7 b8 b9 b10 b11 b12 b13 b14 b15 b16 b17 a0).put (some 26) (.slice A k d) = SelF.A wr x13 x9 x10 x11 gt ot j n ct nm ev A k d  b0 b1 b2 b3 b4 true b6 b7 b8 b9 b10 b11 b12 b13 b14 b15 b16 b17 a0 := by
  simp only [SelF.A, putIf_put, ne_eq, Nat.reduceEqDiff, not_false_eq_true]
  rfl
theorem SelF.e5 {wr : World} {x13 x9 x10 x11 gt ot j n ct : Nat} {nm : ByteArray} {ev : Bool} {A : Option Addr} {k d : Nat}  {b0 b1 b2 b3 b4 b6 b7 b8 b9 b10 b11 b12 b13 b14 b15 b16 b17 : Bool} {a0 : Act} (hs : a0.tmps.size = 48) : (SelF.A wr x13 x9 x10 x11 gt ot j n ct nm ev A k d  b0 b1 b2 b3 b4 true b6 b7 b8 b9 b10 b11 b12 b13 b14 b15 b16 b17 a0).eval (.tmp 26) = (.slice A k d) := by
  simp [SelF.A, eval_putIf, eval_put, size_putIf, hs]
theorem SelF.p6 (wr : World) (x13 x9 x10 x11 gt ot j n ct : Nat) (nm : ByteArray) (ev : Bool) (A : Option Addr) (k d : Nat)   (b0 b1 b2 b3 b4 b5 b7 b8 b9 b10 b11 b12 b13 b14 b15 b16 b17 : Bool) (a0 : Act) :
    (SelF.A wr x13 x9 x10 x11 gt ot j n ct nm ev A k d  b0 b1 b2 b3 b4 b5 false b7 b8 b9 b10 b11 b12 b13 b14 b15 b16 b17 a0).put (some 27) (.string nm) = SelF.A wr x13 x9 x10 x11 gt ot j n ct nm ev A k d  b0 b1 b2 b3 b4 b5 true b7 b8 b9 b10 b11 b12 b13 b14 b15 b16 b17 a0 := by
  simp only [SelF.A, putIf_put, ne_eq, Nat.reduceEqDiff, not_false_eq_true]
  rfl
theorem SelF.e6 {wr : World} {x13 x9 x10 x11 gt ot j n ct : Nat} {nm : ByteArray} {ev : Bool} {A : Option Addr} {k d : Nat}  {b0 b1 b2 b3 b4 b5 b7 b8 b9 b10 b11 b12 b13 b14 b15 b16 b17 : Bool} {a0 : Act} (hs : a0.tmps.size = 48) : (SelF.A wr x13 x9 x10 x11 gt ot j n ct nm ev A k d  b0 b1 b2 b3 b4 b5 true b7 b8 b9 b10 b11 b12 b13 b14 b15 b16 b17 a0).eval (.tmp 27) = (.string nm) := by
  simp [SelF.A, eval_putIf, eval_put, size_putIf, hs]
theorem SelF.p7 (wr : World) (x13 x9 x10 x11 gt ot j n ct : Nat) (nm : ByteArray) (ev : Bool) (A : Option Addr) (k d : Nat)   (b0 b1 b2 b3 b4 b5 b6 b8 b9 b10 b11 b12 b13 b14 b15 b16 b17 : Bool) (a0 : Act) :
    (SelF.A wr x13 x9 x10 x11 gt ot j n ct nm ev A k d  b0 b1 b2 b3 b4 b5 b6 false b8 b9 b10 b11 b12 b13 b14 b15 b16 b17 a0).put (some 28) (.bool ev) = SelF.A wr x13 x9 x10 x11 gt ot j n ct nm ev A k d  b0 b1 b2 b3 b4 b5 b6 true b8 b9 b10 b11 b12 b13 b14 b15 b16 b17 a0 := by
  simp only [SelF.A, putIf_put, ne_eq, Nat.reduceEqDiff, not_false_eq_true]
  rfl
theorem SelF.e7 {wr : World} {x13 x9 x10 x11 gt ot j n ct : Nat} {nm : ByteArray} {ev : Bool} {A : Option Addr} {k d : Nat}  {b0 b1 b2 b3 b4 b5 b6 b8 b9 b10 b11 b12 b13 b14 b15 b16 b17 : Bool} {a0 : Act} (hs : a0.tmps.size = 48) : (SelF.A wr x13 x9 x10 x11 gt ot j n ct nm ev A k d  b0 b1 b2 b3 b4 b5 b6 true b8 b9 b10 b11 b12 b13 b14 b15 b16 b17 a0).eval (.tmp 28) = (.bool ev) := by
  simp [SelF.A, eval_putIf, eval_put, size_putIf, hs]
theorem SelF.p8 (wr : World) (x13 x9 x10 x11 gt ot j n ct : Nat) (nm : ByteArray) (ev : Bool) (A : Option Addr) (k d : Nat)   (b0 b1 b2 b3 b4 b5 b6 b7 b9 b10 b11 b12 b13 b14 b15 b16 b17 : Bool) (a0 : Act) :
    (SelF.A wr x13 x9 x10 x11 gt ot j n ct nm ev A k d  b0 b1 b2 b3 b4 b5 b6 b7 false b9 b10 b11 b12 b13 b14 b15 b16 b17 a0).put (some 29) (.bool false) = SelF.A wr x13 x9 x10 x11 gt ot j n ct nm ev A k d  b0 b1 b2 b3 b4 b5 b6 b7 true b9 b10 b11 b12 b13 b14 b15 b16 b17 a0 := by
  simp only [SelF.A, putIf_put, ne_eq, Nat.reduceEqDiff, not_false_eq_true]
  rfl
theorem SelF.e8 {wr : World} {x13 x9 x10 x11 gt ot j n ct : Nat} {nm : ByteArray} {ev : Bool} {A : Option Addr} {k d : Nat}  {b0 b1 b2 b3 b4 b5 b6 b7 b9 b10 b11 b12 b13 b14 b15 b16 b17 : Bool} {a0 : Act} (hs : a0.tmps.size = 48) : (SelF.A wr x13 x9 x10 x11 gt ot j n ct nm ev A k d  b0 b1 b2 b3 b4 b5 b6 b7 true b9 b10 b11 b12 b13 b14 b15 b16 b17 a0).eval (.tmp 29) = (.bool false) := by
  simp [SelF.A, eval_putIf, eval_put, size_putIf, hs]
theorem SelF.p9 (wr : World) (x13 x9 x10 x11 gt ot j n ct : Nat) (nm : ByteArray) (ev : Bool) (A : Option Addr) (k d : Nat)   (b0 b1 b2 b3 b4 b5 b6 b7 b8 b10 b11 b12 b13 b14 b15 b16 b17 : Bool) (a0 : Act) :
    (SelF.A wr x13 x9 x10 x11 gt ot j n ct nm ev A k d  b0 b1 b2 b3 b4 b5 b6 b7 b8 false b10 b11 b12 b13 b14 b15 b16 b17 a0).put (some 30) (.bool false) = SelF.A wr x13 x9 x10 x11 gt ot j n ct nm ev A k d  b0 b1 b2 b3 b4 b5 b6 b7 b8 true b10 b11 b12 b13 b14 b15 b16 b17 a0 := by
  simp only [SelF.A, putIf_put, ne_eq, Nat.reduceEqDiff, not_false_eq_true]
  rfl
theorem SelF.e9 {wr : World} {x13 x9 x10 x11 gt ot j n ct : Nat} {nm : ByteArray} {ev : Bool} {A : Option Addr} {k d : Nat}  {b0 b1 b2 b3 b4 b5 b6 b7 b8 b10 b11 b12 b13 b14 b15 b16 b17 : Bool} {a0 : Act} (hs : a0.tmps.size = 48) : (SelF.A wr x13 x9 x10 x11 gt ot j n ct nm ev A k d  b0 b1 b2 b3 b4 b5 b6 b7 b8 true b10 b11 b12 b13 b14 b15 b16 b17 a0).eval (.tmp 30) = (.bool false) := by
  simp [SelF.A, eval_putIf, eval_put, size_putIf, hs]
theorem SelF.p10 (wr : World) (x13 x9 x10 x11 gt ot j n ct : Nat) (nm : ByteArray) (ev : Bool) (A : Option Addr) (k d : Nat)   (b0 b1 b2 b3 b4 b5 b6 b7 b8 b9 b11 b12 b13 b14 b15 b16 b17 : Bool) (a0 : Act) :
    (SelF.A wr x13 x9 x10 x11 gt ot j n ct nm ev A k d  b0 b1 b2 b3 b4 b5 b6 b7 b8 b9 false b11 b12 b13 b14 b15 b16 b17 a0).put (some 31) undef = SelF.A wr x13 x9 x10 x11 gt ot j n ct nm ev A k d  b0 b1 b2 b3 b4 b5 b6 b7 b8 b9 true b11 b12 b13 b14 b15 b16 b17 a0 := by
  simp only [SelF.A, putIf_put, ne_eq, Nat.reduceEqDiff, not_false_eq_true]
  rfl
theorem SelF.e10 {wr : World} {x13 x9 x10 x11 gt ot j n ct : Nat} {nm : ByteArray} {ev : Bool} {A : Option Addr} {k d : Nat}  {b0 b1 b2 b3 b4 b5 b6 b7 b8 b9 b11 b12 b13 b14 b15 b16 b17 : Bool} {a0 : Act} (hs : a0.tmps.size = 48) : (SelF.A wr x13 x9 x10 x11 gt ot j n ct nm ev A k d  b0 b1 b2 b3 b4 b5 b6 b7 b8 b9 true b11 b12 b13 b14 b15 b16 b17 a0).eval (.tmp 31) = undef := by
  simp [SelF.A, eval_putIf, eval_put, size_putIf, hs]
theorem SelF.p11 (wr : World) (x13 x9 x10 x11 gt ot j n ct : Nat) (nm : ByteArray) (ev : Bool) (A : Option Addr) (k d : Nat)   (b0 b1 b2 b3 b4 b5 b6 b7 b8 b9 b10 b12 b13 b14 b15 b16 b17 : Bool) (a0 : Act) :
    (SelF.A wr x13 x9 x10 x11 gt ot j n ct nm ev A k d  b0 b1 b2 b3 b4 b5 b6 b7 b8 b9 b10 false b12 b13 b14 b15 b16 b17 a0).put (some 32) undef = SelF.A wr x13 x9 x10 x11 gt ot j n ct nm ev A k d  b0 b1 b2 b3 b4 b5 b6 b7 b8 b9 b10 true b12 b13 b14 b15 b16 b17 a0 := by
  simp only [SelF.A, putIf_put, ne_eq, Nat.reduceEqDiff, not_false_eq_true]
  rfl
theorem SelF.e11 {wr : World} {x13 x9 x10 x11 gt ot j n ct : Nat} {nm : ByteArray} {ev : Bool} {A : Option Addr} {k d : Nat}  {b0 b1 b2 b3 b4 b5 b6 b7 b8 b9 b10 b12 b13 b14 b15 b16 b17 : Bool} {a0 : Act} (hs : a0.tmps.size = 48) : (SelF.A wr x13 x9 x10 x11 gt ot j n ct nm ev A k d  b0 b1 b2 b3 b4 b5 b6 b7 b8 b9 b10 true b12 b13 b14 b15 b16 b17 a0).eval (.tmp 32) = undef := by
  simp [SelF.A, eval_putIf, eval_put, size_putIf, hs]
theorem SelF.p12 (wr : World) (x13 x9 x10 x11 gt ot j n ct : Nat) (nm : ByteArray) (ev : Bool) (A : Option Addr) (k d : Nat)   (b0 b1 b2 b3 b4 b5 b6 b7 b8 b9 b10 b11 b13 b14 b15 b16 b17 : Bool) (a0 : Act) :
    (SelF.A wr x13 x9 x10 x11 gt ot j n ct nm ev A k d  b0 b1 b2 b3 b4 b5 b6 b7 b8 b9 b10 b11 false b13 b14 b15 b16 b17 a0).put (some 33) undef = SelF.A wr x13 x9 x10 x11 gt ot j n ct nm ev A k d  b0 b1 b2 b3 b4 b5 b6 b7 b8 b9 b10 b11 true b13 b14 b15 b16 b17 a0 := by
  simp only [SelF.A, putIf_put, ne_eq, Nat.reduceEqDiff, not_false_eq_true]
  rfl
theorem SelF.e12 {wr : World} {x13 x9 x10 x11 gt ot j n ct : Nat} {nm : ByteArray} {ev : Bool} {A : Option Addr} {k d : Nat}  {b0 b1 b2 b3 b4 b5 b6 b7 b8 b9 b10 b11 b13 b14 b15 b16 b17 : Bool} {a0 : Act} (hs : a0.tmps.size = 48) : (SelF.A wr x13 x9 x10 x11 gt ot j n ct nm ev A k d  b0 b1 b2 b3 b4 b5 b6 b7 b8 b9 b10 b11 true b13 b14 b15 b16 b17 a0).eval (.tmp 33) = undef := by
  simp [SelF.A, eval_putIf, eval_put, size_putIf, hs]
theorem SelF.p13 (wr : World) (x13 x9 x10 x11 gt ot j n ct : Nat) (nm : ByteArray) (ev : Bool) (A : Option Addr) (k d : Nat)   (b0 b1 b2 b3 b4 b5 b6 b7 b8 b9 b10 b11 b12 b14 b15 b16 b17 : Bool) (a0 : Act) :
    (SelF.A wr x13 x9 x10 x11 gt ot j n ct nm ev A k d  b0 b1 b2 b3 b4 b5 b6 b7 b8 b9 b10 b11 b12 false b14 b15 b16 b17 a0).put (some 34) undef = SelF.A wr x13 x9 x10 x11 gt ot j n ct nm ev A k d  b0 b1 b2 b3 b4 b5 b6 b7 b8 b9 b10 b11 b12 true b14 b15 b16 b17 a0 := by
  simp only [SelF.A, putIf_put, ne_eq, Nat.reduceEqDiff, not_false_eq_true]
  rfl
theorem SelF.e13 {wr : World} {x13 x9 x10 x11 gt ot j n ct : Nat} {nm : ByteArray} {ev : Bool} {A : Option Addr} {k d : Nat}  {b0 b1 b2 b3 b4 b5 b6 b7 b8 b9 b10 b11 b12 b14 b15 b16 b17 : Bool} {a0 : Act} (hs : a0.tmps.size = 48) : (SelF.A wr x13 x9 x10 x11 gt ot j n ct nm ev A k d  b0 b1 b2 b3 b4 b5 b6 b7 b8 b9 b10 b11 b12 true b14 b15 b16 b17 a0).eval (.tmp 34) = undef := by
  simp [SelF.A, eval_putIf, eval_put, size_putIf, hs]
theorem SelF.p14 (wr : World) (x13 x9 x10 x11 gt ot j n ct : Nat) (nm : ByteArray) (ev : Bool) (A : Option Addr) (k d : Nat)   (b0 b1 b2 b3 b4 b5 b6 b7 b8 b9 b10 b11 b12 b13 b15 b16 b17 : Bool) (a0 : Act) :
    (SelF.A wr x13 x9 x10 x11 gt ot j n ct nm ev A k d  b0 b1 b2 b3 b4 b5 b6 b7 b8 b9 b10 b11 b12 b13 false b15 b16 b17 a0).put (some 35) undef = SelF.A wr x13 x9 x10 x11 gt ot j n ct nm ev A k d  b0 b1 b2 b3 b4 b5 b6 b7 b8 b9 b10 b11 b12 b13 true b15 b16 b17 a0 := by
  simp only [SelF.A, putIf_put, ne_eq, Nat.reduceEqDiff, not_false_eq_true]
  rfl
theorem SelF.e14 {wr : World} {x13 x9 x10 x11 gt ot j n ct : Nat} {nm : ByteArray} {ev : Bool} {A : Option Addr} {k d : Nat}  {b0 b1 b2 b3 b4 b5 b6 b7 b8 b9 b10 b11 b12 b13 b15 b16 b17 : Bool} {a0 : Act} (hs : a0.tmps.size = 48) : (SelF.A wr x13 x9 x10 x11 gt ot j n ct nm ev A k d  b0 b1 b2 b3 b4 b5 b6 b7 b8 b9 b10 b11 b12 b13 true b15 b16 b17 a0).eval (.tmp 35) = undef := by
  simp [SelF.A, eval_putIf, eval_put, size_putIf, hs]
theorem SelF.p15 (wr : World) (x13 x9 x10 x11 gt ot j n ct : Nat) (nm : ByteArray) (ev : Bool) (A : Option Addr) (k d : Nat)   (b0 b1 b2 b3 b4 b5 b6 b7 b8 b9 b10 b11 b12 b13 b14 b16 b17 : Bool) (a0 : Act) :
    (SelF.A wr x13 x9 x10 x11 gt ot j n ct nm ev A k d  b0 b1 b2 b3 b4 b5 b6 b7 b8 b9 b10 b11 b12 b13 b14 false b16 b17 a0).put (some 36) undef = SelF.A wr x13 x9 x10 x11 gt ot j n ct nm ev A k d  b0 b1 b2 b3 b4 b5 b6 b7 b8 b9 b10 b11 b12 b13 b14 true b16 b17 a0 := by
  simp only [SelF.A, putIf_put, ne_eq, Nat.reduceEqDiff, not_false_eq_true]
  rfl
theorem SelF.e15 {wr : World} {x13 x9 x10 x11 gt ot j n ct : Nat} {nm : ByteArray} {ev : Bool} {A : Option Addr} {k d : Nat}  {b0 b1 b2 b3 b4 b5 b6 b7 b8 b9 b10 b11 b12 b13 b14 b16 b17 : Bool} {a0 : Act} (hs : a0.tmps.size = 48) : (SelF.A wr x13 x9 x10 x11 gt ot j n ct nm ev A k d  b0 b1 b2 b3 b4 b5 b6 b7 b8 b9 b10 b11 b12 b13 b14 true b16 b17 a0).eval (.tmp 36) = undef := by
  simp [SelF.A, eval_putIf, eval_put, size_putIf, hs]
theorem SelF.p16 (wr : World) (x13 x9 x10 x11 gt ot j n ct : Nat) (nm : ByteArray) (ev : Bool) (A : Option Addr) (k d : Nat)   (b0 b1 b2 b3 b4 b5 b6 b7 b8 b9 b10 b11 b12 b13 b14 b15 b17 : Bool) (a0 : Act) :
    (SelF.A wr x13 x9 x10 x11 gt ot j n ct nm ev A k d  b0 b1 b2 b3 b4 b5 b6 b7 b8 b9 b10 b11 b12 b13 b14 b15 false b17 a0).put (some 37) undef = SelF.A wr x13 x9 x10 x11 gt ot j n ct nm ev A k d  b0 b1 b2 b3 b4 b5 b6 b7 b8 b9 b10 b11 b12 b13 b14 b15 true b17 a0 := by
  simp only [SelF.A, putIf_put, ne_eq, Nat.reduceEqDiff, not_false_eq_true]
  rfl
theorem SelF.e16 {wr : World} {x13 x9 x10 x11 gt ot j n ct : Nat} {nm : ByteArray} {ev : Bool} {A : Option Addr} {k d : Nat}  {b0 b1 b2 b3 b4 b5 b6 b7 b8 b9 b10 b11 b12 b13 b14 b15 b17 : Bool} {a0 : Act} (hs : a0.tmps.size = 48) : (SelF.A wr x13 x9 x10 x11 gt ot j n ct nm ev A k d  b0 b1 b2 b3 b4 b5 b6 b7 b8 b9 b10 b11 b12 b13 b14 b15 true b17 a0).eval (.tmp 37) = undef := by
  simp [SelF.A, eval_putIf, eval_put, size_putIf, hs]
theorem SelF.p17 (wr : World) (x13 x9 x10 x11 gt ot j n ct : Nat) (nm : ByteArray) (ev : Bool) (A : Option Addr) (k d : Nat)   (b0 b1 b2 b3 b4 b5 b6 b7 b8 b9 b10 b11 b12 b13 b14 b15 b16 : Bool) (a0 : Act) :
    (SelF.A wr x13 x9 x10 x11 gt ot j n ct nm ev A k d  b0 b1 b2 b3 b4 b5 b6 b7 b8 b9 b10 b11 b12 b13 b14 b15 b16 false a0).put (some 38) (.bool false) = SelF.A wr x13 x9 x10 x11 gt ot j n ct nm ev A k d  b0 b1 b2 b3 b4 b5 b6 b7 b8 b9 b10 b11 b12 b13 b14 b15 b16 true a0 := by
  simp only [SelF.A, putIf_put, ne_eq, Nat.reduceEqDiff, not_false_eq_true]
  rfl
theorem SelF.e17 {wr : World} {x13 x9 x10 x11 gt ot j n ct : Nat} {nm : ByteArray} {ev : Bool} {A : Option Addr} {k d : Nat}  {b0 b1 b2 b3 b4 b5 b6 b7 b8 b9 b10 b11 b12 b13 b14 b15 b16 : Bool} {a0 : Act} (hs : a0.tmps.size = 48) : (SelF.A wr x13 x9 x10 x11 gt ot j n ct nm ev A k d  b0 b1 b2 b3 b4 b5 b6 b7 b8 b9 b10 b11 b12 b13 b14 b15 b16 true a0).eval (.tmp 38) = (.bool false) := by
  simp [SelF.A, eval_putIf, eval_put, size_putIf, hs]
theorem SelF.z (wr : World) (x13 x9 x10 x11 gt ot j n ct : Nat) (nm : ByteArray) (ev : Bool) (A : Option Addr) (k d : Nat)  (a0 : Act) : a0 = SelF.A wr x13 x9 x10 x11 gt ot j n ct nm ev A k d  false false false false false false false false false false false false false false false false false false a0 := rfl
theorem SelF.size {wr : World} {x13 x9 x10 x11 gt ot j n ct : Nat} {nm : ByteArray} {ev : Bool} {A : Option Addr} {k d : Nat}  {b0 b1 b2 b3 b4 b5 b6 b7 b8 b9 b10 b11 b12 b13 b14 b15 b16 b17 : Bool} {a0 : Act} : (SelF.A wr x13 x9 x10 x11 gt ot j n ct nm ev A k d  b0 b1 b2 b3 b4 b5 b6 b7 b8 b9 b10 b11 b12 b13 b14 b15 b16 b17 a0).tmps.size = a0.tmps.size := by
  simp [SelF.A, size_putIf]
theorem SelF.f1 {wr : World} {x13 x9 x10 x11 gt ot j n ct : Nat} {nm : ByteArray} {ev : Bool} {A : Option Addr} {k d : Nat}  {b0 b1 b2 b3 b4 b5 b6 b7 b8 b9 b10 b11 b12 b13 b14 b15 b16 b17 : Bool} {a0 : Act} : (SelF.A wr x13 x9 x10 x11 gt ot j n ct nm ev A k d  b0 b1 b2 b3 b4 b5 b6 b7 b8 b9 b10 b11 b12 b13 b14 b15 b16 b17 a0).eval (.tmp 1) = a0.eval (.tmp 1) := by
  simp [SelF.A, eval_putIf]
theorem SelF.f2 {wr : World} {x13 x9 x10 x11 gt ot j n ct : Nat} {nm : ByteArray} {ev : Bool} {A : Option Addr} {k d : Nat}  {b0 b1 b2 b3 b4 b5 b6 b7 b8 b9 b10 b11 b12 b13 b14 b15 b16 b17 : Bool} {a0 : Act} : (SelF.A wr x13 x9 x10 x11 gt ot j n ct nm ev A k d  b0 b1 b2 b3 b4 b5 b6 b7 b8 b9 b10 b11 b12 b13 b14 b15 b16 b17 a0).eval (.tmp 2) = a0.eval (.tmp 2) := by
  simp [SelF.A, eval_putIf]
theorem SelF.f3 {wr : World} {x13 x9 x10 x11 gt ot j n ct : Nat} {nm : ByteArray} {ev : Bool} {A : Option Addr} {k d : Nat}  {b0 b1 b2 b3 b4 b5 b6 b7 b8 b9 b10 b11 b12 b13 b14 b15 b16 b17 : Bool} {a0 : Act} : (SelF.A wr x13 x9 x10 x11 gt ot j n ct nm ev A k d  b0 b1 b2 b3 b4 b5 b6 b7 b8 b9 b10 b11 b12 b13 b14 b15 b16 b17 a0).eval (.tmp 3) = a0.eval (.tmp 3) := by
  simp [SelF.A, eval_putIf]
theorem SelF.f4 {wr : World} {x13 x9 x10 x11 gt ot j n ct : Nat} {nm : ByteArray} {ev : Bool} {A : Option Addr} {k d : Nat}  {b0 b1 b2 b3 b4 b5 b6 b7 b8 b9 b10 b11 b12 b13 b14 b15 b16 b17 : Bool} {a0 : Act} : (SelF.A wr x13 x9 x10 x11 gt ot j n ct nm ev A k d  b0 b1 b2 b3 b4 b5 b6 b7 b8 b9 b10 b11 b12 b13 b14 b15 b16 b17 a0).eval (.tmp 4) = a0.eval (.tmp 4) := by
  simp [SelF.A, eval_putIf]
theorem SelF.f9 {wr : World} {x13 x9 x10 x11 gt ot j n ct : Nat} {nm : ByteArray} {ev : Bool} {A : Option Addr} {k d : Nat}  {b0 b1 b2 b3 b4 b5 b6 b7 b8 b9 b10 b11 b12 b13 b14 b15 b16 b17 : Bool} {a0 : Act} : (SelF.A wr x13 x9 x10 x11 gt ot j n ct nm ev A k d  b0 b1 b2 b3 b4 b5 b6 b7 b8 b9 b10 b11 b12 b13 b14 b15 b16 b17 a0).eval (.tmp 9) = a0.eval (.tmp 9) := by
  simp [SelF.A, eval_putIf]
def SelF.B (wr : World) (x13 x9 x10 x11 gt ot j n ct : Nat) (nm : ByteArray) (ev : Bool) (A : Option Addr) (k d : Nat) (a0 : Act) : Prop := a0.tmps.size = 48 ∧ a0.eval (.tmp 1) = (.pointer (some ⟨x13, 0, none⟩)) ∧ a0.eval (.tmp 2) = (.pointer (some ⟨x9, 0, none⟩)) ∧ a0.eval (.tmp 3) = (.pointer (some ⟨x10, 0, none⟩)) ∧ a0.eval (.tmp 4) = (.pointer (some ⟨x11, 0, none⟩)) ∧ a0.eval (.tmp 9) = (.int .i64 j)
def SelF.I (wr : World) (x13 x9 x10 x11 gt ot j n ct : Nat) (nm : ByteArray) (ev : Bool) (A : Option Addr) (k d : Nat)  (b0 b1 b2 b3 b4 b5 b6 b7 b8 b9 b10 b11 b12 b13 b14 b15 b16 b17 : Bool) (w : World) : Prop := Fr [] wr w
/-- What stays true inside the region, whatever has come up. -/
def SelF.J (wr : World) (x13 x9 x10 x11 gt ot j n ct : Nat) (nm : ByteArray) (ev : Bool) (A : Option Addr) (k d : Nat) (a0 : Act) (l : Array Bool) (a : Act) (w : World) : Prop :=
  SelF.B wr x13 x9 x10 x11 gt ot j n ct nm ev A k d a0 ∧ ∃ b0 b1 b2 b3 b4 b5 b6 b7 b8 b9 b10 b11 b12 b13 b14 b15 b16 b17, l = #[b0, b1, b2, b3, b4, b5, b6, b7, b8, b9, b10, b11, b12, b13, b14, b15, b16, b17] ∧ a = SelF.A wr x13 x9 x10 x11 gt ot j n ct nm ev A k d  b0 b1 b2 b3 b4 b5 b6 b7 b8 b9 b10 b11 b12 b13 b14 b15 b16 b17 a0 ∧ SelF.I wr x13 x9 x10 x11 gt ot j n ct nm ev A k d  b0 b1 b2 b3 b4 b5 b6 b7 b8 b9 b10 b11 b12 b13 b14 b15 b16 b17 w
attribute [irreducible] SelF.A

set_option maxRecDepth 100000 in
set_option maxHeartbeats 8000000 in
theorem sel_f {Q : Exit → Act → World → Prop} {t0 t5 t6 t7 t8 t10 t11 t12 t13 t14 t15 t16 t17 t18 t19 t20 t21 t22 t23 t24 t25 t26 t27 t28 t29 t30 t31 t32 t33 t34 t35 t36 t37 t38 t39 t40 t41 t42 t43 t44 t45 t46 t47 : Value} {wr : World} {x13 x9 x10 x11 gt ot j n ct : Nat} {nm : ByteArray} {ev : Bool} {A : Option Addr} {k d : Nat} (h13 : wr.cell? ⟨x13, 4, none⟩ = some (.slice (some ⟨gt, ot, none⟩) n ct)) (h9 : wr.cell? ⟨x9, 0, none⟩ = some (.string nm)) (h10 : wr.cell? ⟨x10, 0, none⟩ = some (.bool ev)) (h11 : wr.cell? ⟨x11, 0, none⟩ = some .nilFunc)
    (hev : wr.cell? ⟨gt, ot + j * 6 + 1, none⟩ = some (.slice A k d)) (hj : j < n)
    (hc : ∀ w, Fr [] wr w → Calls Try.prog 55 #[.slice A k d, .string nm, .bool ev] w fun e w' => e = .returned (.bool false) ∧ Fr [] wr w')
    (hQ : ∀ (u21 u22 u23 u24 u25 u26 u27 u28 u29 u30 u31 u32 u33 u34 u35 u36 u37 u38 : Value) (wx : World), (Fr [] wr wx ∧ u38 = .bool false) → Q .normal ⟨#[t0, (.pointer (some ⟨x13, 0, none⟩)), (.pointer (some ⟨x9, 0, none⟩)), (.pointer (some ⟨x10, 0, none⟩)), (.pointer (some ⟨x11, 0, none⟩)), t5, t6, t7, t8, (.int .i64 j), t10, t11, t12, t13, t14, t15, t16, t17, t18, t19, t20, u21, u22, u23, u24, u25, u26, u27, u28, u29, u30, u31, u32, u33, u34, u35, u36, u37, u38, t39, t40, t41, t42, t43, t44, t45, t46, t47], []⟩ wx) :
    (regAt Try.f54 4).wp Try.prog Q ⟨#[t0, (.pointer (some ⟨x13, 0, none⟩)), (.pointer (some ⟨x9, 0, none⟩)), (.pointer (some ⟨x10, 0, none⟩)), (.pointer (some ⟨x11, 0, none⟩)), t5, t6, t7, t8, (.int .i64 j), t10, t11, t12, t13, t14, t15, t16, t17, t18, t19, t20, t21, t22, t23, t24, t25, t26, t27, t28, t29, t30, t31, t32, t33, t34, t35, t36, t37, t38, t39, t40, t41, t42, t43, t44, t45, t46, t47], []⟩ wr := by
  have p0 : (0 : Int) ≤ (j : Int) := by omega
  have p1 : (j : Int) < (n : Int) := by omega
  have hnf : ∀ w, (binOp .eql 68 .nilFunc .nilFunc).run Try.prog w = .ok (.bool true) w := fun _ => by kernel_rfl
  refine Code.wp_mono (Q := OnlyN (fun a w => Q .normal a w)) onlyN_imp ?_
  conv => arg 2; whnf
  dsimp only
  refine region_inv (by kernel_rfl) (fun a0 l a w => SelF.J wr x13 x9 x10 x11 gt ot j n ct nm ev A k d a0 l a w) ?_ ?_ ?_
  · exact ⟨⟨rfl, rfl, rfl, rfl, rfl, rfl⟩, false, false, false, false, false, false, false, false, false, false, false, false, false, false, false, false, false, false, rfl, SelF.z .., (Fr.refl _ _).drew⟩
  · intro l a' w' hJ hi
    obtain ⟨-, b0, b1, b2, b3, b4, b5, b6, b7, b8, b9, b10, b11, b12, b13, b14, b15, b16, b17, rfl, rfl, hinv⟩ := hJ
    have t0 : b0 = true := ready_nil hi 0 (by decide) (by simp [Region.binds])
    have t1 : b1 = true := ready_nil hi 1 (by decide) (by simp [Region.binds, t0])
    have t2 : b2 = true := ready_nil hi 2 (by decide) (by simp [Region.binds])
    have t3 : b3 = true := ready_nil hi 3 (by decide) (by simp [Region.binds, t1, t2])
    have t4 : b4 = true := ready_nil hi 4 (by decide) (by simp [Region.binds, t3])
    have t5 : b5 = true := ready_nil hi 5 (by decide) (by simp [Region.binds, t4])
    have t6 : b6 = true := ready_nil hi 6 (by decide) (by simp [Region.binds])
    have t7 : b7 = true := ready_nil hi 7 (by decide) (by simp [Region.binds])
    have t8 : b8 = true := ready_nil hi 8 (by decide) (by simp [Region.binds, t5, t6, t7])
    have t9 : b9 = true := ready_nil hi 9 (by decide) (by simp [Region.binds, t8])
    have t10 : b10 = true := ready_nil hi 10 (by decide) (by simp [Region.binds, t9])
    have t11 : b11 = true := ready_nil hi 11 (by decide) (by simp [Region.binds, t9, t10])
    have t12 : b12 = true := ready_nil hi 12 (by decide) (by simp [Region.binds, t9, t11])
    have t13 : b13 = true := ready_nil hi 13 (by decide) (by simp [Region.binds, t12])
    have t14 : b14 = true := ready_nil hi 14 (by decide) (by simp [Region.binds, t12])
    have t15 : b15 = true := ready_nil hi 15 (by decide) (by simp [Region.binds, t12, t13, t14])
    have t16 : b16 = true := ready_nil hi 16 (by decide) (by simp [Region.binds, t9, t12, t15])
    have t17 : b17 = true := ready_nil hi 17 (by decide) (by simp [Region.binds, t9, t16])
    subst t0 t1 t2 t3 t4 t5 t6 t7 t8 t9 t10 t11 t12 t13 t14 t15 t16 t17
    clear hi
    simp only [OnlyN, SelF.A, putIf_true, Act.put, List.setIfInBounds_toArray, List.set_cons_zero, List.set_cons_succ]
    exact hQ _ _ _ _ _ _ _ _ _ _ _ _ _ _ _ _ _ _ _ ⟨hinv, rfl⟩
  · intro a0 l a' w' i hJ hi
    obtain ⟨hB, b0, b1, b2, b3, b4, b5, b6, b7, b8, b9, b10, b11, b12, b13, b14, b15, b16, b17, rfl, rfl, hinv⟩ := hJ
    have hBB := hB
    obtain ⟨hs0, g1, g2, g3, g4, g9⟩ := hBB
    obtain ⟨h10, hlf, haf⟩ := mem_ready hi
    clear hi
    have hc : i = 0 ∨ i = 1 ∨ i = 2 ∨ i = 3 ∨ i = 4 ∨ i = 5 ∨ i = 6 ∨ i = 7 ∨ i = 8 ∨ i = 9 ∨ i = 10 ∨ i = 11 ∨ i = 12 ∨ i = 13 ∨ i = 14 ∨ i = 15 ∨ i = 16 ∨ i = 17 := by
      have : i < 18 := h10
      omega
    clear h10
    rcases hc with rfl | rfl | rfl | rfl | rfl | rfl | rfl | rfl | rfl | rfl | rfl | rfl | rfl | rfl | rfl | rfl | rfl | rfl
    · obtain rfl : b0 = false := by simpa using hlf
      refine wpOp_at rfl rfl ?_
      simp only [List.getElem_toArray, List.getElem_cons_zero, List.getElem_cons_succ]
      refine op_val (v := (.pointer (some ⟨x13, 4, none⟩))) ?_ (show SelF.J wr x13 x9 x10 x11 gt ot j n ct nm ev A k d a0 _ _ _ from ⟨hB, true, b1, b2, b3, b4, b5, b6, b7, b8, b9, b10, b11, b12, b13, b14, b15, b16, b17, rfl, SelF.p0 .., hinv⟩)
      simp only [execOp, SelF.f1, g1]
      have K0 := cell_on (W := wr) hinv h13
      have K1 := cell_on (W := wr) hinv h9
      have K2 := cell_on (W := wr) hinv h10
      have K3 := cell_on (W := wr) hinv h11
      have K4 := cell_on (W := wr) hinv hev
      go_simp
    · obtain rfl : b1 = false := by simpa using hlf
      refine wpOp_at rfl rfl ?_
      simp only [List.getElem_toArray, List.getElem_cons_zero, List.getElem_cons_succ]
      simp [Region.binds] at haf
      subst haf
      refine op_val (v := (.slice (some ⟨gt, ot, none⟩) n ct)) ?_ (show SelF.J wr x13 x9 x10 x11 gt ot j n ct nm ev A k d a0 _ _ _ from ⟨hB, true, true, b2, b3, b4, b5, b6, b7, b8, b9, b10, b11, b12, b13, b14, b15, b16, b17, rfl, SelF.p1 .., hinv⟩)
      simp only [execOp, SelF.e0 hs0]
      have K0 := cell_on (W := wr) hinv h13
      have K1 := cell_on (W := wr) hinv h9
      have K2 := cell_on (W := wr) hinv h10
      have K3 := cell_on (W := wr) hinv h11
      have K4 := cell_on (W := wr) hinv hev
      go_simp
    · obtain rfl : b2 = false := by simpa using hlf
      refine wpOp_at rfl rfl ?_
      simp only [List.getElem_toArray, List.getElem_cons_zero, List.getElem_cons_succ]
      refine op_val (v := (.int .i64 j)) ?_ (show SelF.J wr x13 x9 x10 x11 gt ot j n ct nm ev A k d a0 _ _ _ from ⟨hB, b0, b1, true, b3, b4, b5, b6, b7, b8, b9, b10, b11, b12, b13, b14, b15, b16, b17, rfl, SelF.p2 .., hinv⟩)
      simp only [execOp, SelF.f9, g9]
      have K0 := cell_on (W := wr) hinv h13
      have K1 := cell_on (W := wr) hinv h9
      have K2 := cell_on (W := wr) hinv h10
      have K3 := cell_on (W := wr) hinv h11
      have K4 := cell_on (W := wr) hinv hev
      go_simp
    · obtain rfl : b3 = false := by simpa using hlf
      refine wpOp_at rfl rfl ?_
      simp only [List.getElem_toArray, List.getElem_cons_zero, List.getElem_cons_succ]
      simp [Region.binds] at haf
      obtain ⟨a0, a1⟩ := haf
      subst a0 a1
      refine op_val (v := (.pointer (some ⟨gt, ot + j * 6, none⟩))) ?_ (show SelF.J wr x13 x9 x10 x11 gt ot j n ct nm ev A k d a0 _ _ _ from ⟨hB, b0, true, true, true, b4, b5, b6, b7, b8, b9, b10, b11, b12, b13, b14, b15, b16, b17, rfl, SelF.p3 .., hinv⟩)
      simp only [execOp, SelF.e1 hs0, SelF.e2 hs0]
      have K0 := cell_on (W := wr) hinv h13
      have K1 := cell_on (W := wr) hinv h9
      have K2 := cell_on (W := wr) hinv h10
      have K3 := cell_on (W := wr) hinv h11
      have K4 := cell_on (W := wr) hinv hev
      go_simp
    · obtain rfl : b4 = false := by simpa using hlf
      refine wpOp_at rfl rfl ?_
      simp only [List.getElem_toArray, List.getElem_cons_zero, List.getElem_cons_succ]
      simp [Region.binds] at haf
      subst haf
      refine op_val (v := (.pointer (some ⟨gt, ot + j * 6 + 1, none⟩))) ?_ (show SelF.J wr x13 x9 x10 x11 gt ot j n ct nm ev A k d a0 _ _ _ from ⟨hB, b0, b1, b2, true, true, b5, b6, b7, b8, b9, b10, b11, b12, b13, b14, b15, b16, b17, rfl, SelF.p4 .., hinv⟩)
      simp only [execOp, SelF.e3 hs0]
      have K0 := cell_on (W := wr) hinv h13
      have K1 := cell_on (W := wr) hinv h9
      have K2 := cell_on (W := wr) hinv h10
      have K3 := cell_on (W := wr) hinv h11
      have K4 := cell_on (W := wr) hinv hev
      go_simp
    · obtain rfl : b5 = false := by simpa using hlf
      refine wpOp_at rfl rfl ?_
      simp only [List.getElem_toArray, List.getElem_cons_zero, List.getElem_cons_succ]
      simp [Region.binds] at haf
      subst haf
      refine op_val (v := (.slice A k d)) ?_ (show SelF.J wr x13 x9 x10 x11 gt ot j n ct nm ev A k d a0 _ _ _ from ⟨hB, b0, b1, b2, b3, true, true, b6, b7, b8, b9, b10, b11, b12, b13, b14, b15, b16, b17, rfl, SelF.p5 .., hinv⟩)
      simp only [execOp, SelF.e4 hs0]
      have K0 := cell_on (W := wr) hinv h13
      have K1 := cell_on (W := wr) hinv h9
      have K2 := cell_on (W := wr) hinv h10
      have K3 := cell_on (W := wr) hinv h11
      have K4 := cell_on (W := wr) hinv hev
      go_simp
    · obtain rfl : b6 = false := by simpa using hlf
      refine wpOp_at rfl rfl ?_
      simp only [List.getElem_toArray, List.getElem_cons_zero, List.getElem_cons_succ]
      refine op_val (v := (.string nm)) ?_ (show SelF.J wr x13 x9 x10 x11 gt ot j n ct nm ev A k d a0 _ _ _ from ⟨hB, b0, b1, b2, b3, b4, b5, true, b7, b8, b9, b10, b11, b12, b13, b14, b15, b16, b17, rfl, SelF.p6 .., hinv⟩)
      simp only [execOp, SelF.f2, g2]
      have K0 := cell_on (W := wr) hinv h13
      have K1 := cell_on (W := wr) hinv h9
      have K2 := cell_on (W := wr) hinv h10
      have K3 := cell_on (W := wr) hinv h11
      have K4 := cell_on (W := wr) hinv hev
      go_simp
    · obtain rfl : b7 = false := by simpa using hlf
      refine wpOp_at rfl rfl ?_
      simp only [List.getElem_toArray, List.getElem_cons_zero, List.getElem_cons_succ]
      refine op_val (v := (.bool ev)) ?_ (show SelF.J wr x13 x9 x10 x11 gt ot j n ct nm ev A k d a0 _ _ _ from ⟨hB, b0, b1, b2, b3, b4, b5, b6, true, b8, b9, b10, b11, b12, b13, b14, b15, b16, b17, rfl, SelF.p7 .., hinv⟩)
      simp only [execOp, SelF.f3, g3]
      have K0 := cell_on (W := wr) hinv h13
      have K1 := cell_on (W := wr) hinv h9
      have K2 := cell_on (W := wr) hinv h10
      have K3 := cell_on (W := wr) hinv h11
      have K4 := cell_on (W := wr) hinv hev
      go_simp
    · obtain rfl : b8 = false := by simpa using hlf
      refine wpOp_at rfl rfl ?_
      simp only [List.getElem_toArray, List.getElem_cons_zero, List.getElem_cons_succ]
      simp [Region.binds] at haf
      obtain ⟨a0, a1, a2⟩ := haf
      subst a0 a1 a2
      have hF : Fr [] wr w' := hinv
      refine op_call (f := 55) rfl (vs := #[.slice A k d, .string nm, .bool ev]) (by simp [SelF.e5 hs0, SelF.e6 hs0, SelF.e7 hs0]) (fun w => enters_of Try.func55 (by kernel_rfl) rfl _ w) ?_
      refine (hc _ hF).mono ?_
      rintro e w3 ⟨rfl, hinv⟩
      exact ⟨_, rfl, (show SelF.J wr x13 x9 x10 x11 gt ot j n ct nm ev A k d a0 _ _ _ from ⟨hB, b0, b1, b2, b3, b4, true, true, true, true, b9, b10, b11, b12, b13, b14, b15, b16, b17, rfl, SelF.p8 .., hinv⟩)⟩
    · obtain rfl : b9 = false := by simpa using hlf
      refine wpOp_at rfl rfl ?_
      simp only [List.getElem_toArray, List.getElem_cons_zero, List.getElem_cons_succ]
      simp [Region.binds] at haf
      subst haf
      refine op_val (v := (.bool false)) ?_ (show SelF.J wr x13 x9 x10 x11 gt ot j n ct nm ev A k d a0 _ _ _ from ⟨hB, b0, b1, b2, b3, b4, b5, b6, b7, true, true, b10, b11, b12, b13, b14, b15, b16, b17, rfl, SelF.p9 .., hinv⟩)
      simp only [execOp, SelF.e8 hs0]
      have K0 := cell_on (W := wr) hinv h13
      have K1 := cell_on (W := wr) hinv h9
      have K2 := cell_on (W := wr) hinv h10
      have K3 := cell_on (W := wr) hinv h11
      have K4 := cell_on (W := wr) hinv hev
      go_simp
    · obtain rfl : b10 = false := by simpa using hlf
      simp [Region.binds] at haf
      subst haf
      refine wpOp_skip rfl rfl (yielded_of rfl rfl (by rw [SelF.size, hs0]; decide) (SelF.e9 hs0)) (by decide) ?_
      exact (show SelF.J wr x13 x9 x10 x11 gt ot j n ct nm ev A k d a0 _ _ _ from ⟨hB, b0, b1, b2, b3, b4, b5, b6, b7, b8, true, true, b11, b12, b13, b14, b15, b16, b17, rfl, SelF.p10 .., hinv⟩)
    · obtain rfl : b11 = false := by simpa using hlf
      simp [Region.binds] at haf
      obtain ⟨a0, a1⟩ := haf
      subst a0 a1
      refine wpOp_skip rfl rfl (yielded_of rfl rfl (by rw [SelF.size, hs0]; decide) (SelF.e9 hs0)) (by decide) ?_
      exact (show SelF.J wr x13 x9 x10 x11 gt ot j n ct nm ev A k d a0 _ _ _ from ⟨hB, b0, b1, b2, b3, b4, b5, b6, b7, b8, true, true, true, b12, b13, b14, b15, b16, b17, rfl, SelF.p11 .., hinv⟩)
    · obtain rfl : b12 = false := by simpa using hlf
      simp [Region.binds] at haf
      obtain ⟨a0, a1⟩ := haf
      subst a0 a1
      refine wpOp_skip rfl rfl (yielded_of rfl rfl (by rw [SelF.size, hs0]; decide) (SelF.e9 hs0)) (by decide) ?_
      exact (show SelF.J wr x13 x9 x10 x11 gt ot j n ct nm ev A k d a0 _ _ _ from ⟨hB, b0, b1, b2, b3, b4, b5, b6, b7, b8, true, b10, true, true, b13, b14, b15, b16, b17, rfl, SelF.p12 .., hinv⟩)
    · obtain rfl : b13 = false := by simpa using hlf
      simp [Region.binds] at haf
      subst haf
      refine wpOp_skip0 rfl rfl (yielded_undef rfl rfl (by rw [SelF.size, hs0]; decide) (SelF.e12 hs0)) ?_
      exact (show SelF.J wr x13 x9 x10 x11 gt ot j n ct nm ev A k d a0 _ _ _ from ⟨hB, b0, b1, b2, b3, b4, b5, b6, b7, b8, b9, b10, b11, true, true, b14, b15, b16, b17, rfl, SelF.p13 .., hinv⟩)
    · obtain rfl : b14 = false := by simpa using hlf
      simp [Region.binds] at haf
      subst haf
      refine wpOp_skip0 rfl rfl (yielded_undef rfl rfl (by rw [SelF.size, hs0]; decide) (SelF.e12 hs0)) ?_
      exact (show SelF.J wr x13 x9 x10 x11 gt ot j n ct nm ev A k d a0 _ _ _ from ⟨hB, b0, b1, b2, b3, b4, b5, b6, b7, b8, b9, b10, b11, true, b13, true, b15, b16, b17, rfl, SelF.p14 .., hinv⟩)
    · obtain rfl : b15 = false := by simpa using hlf
      simp [Region.binds] at haf
      obtain ⟨a0, a1, a2⟩ := haf
      subst a0 a1 a2
      refine wpOp_skip0 rfl rfl (yielded_undef rfl rfl (by rw [SelF.size, hs0]; decide) (SelF.e12 hs0)) ?_
      exact (show SelF.J wr x13 x9 x10 x11 gt ot j n ct nm ev A k d a0 _ _ _ from ⟨hB, b0, b1, b2, b3, b4, b5, b6, b7, b8, b9, b10, b11, true, true, true, true, b16, b17, rfl, SelF.p15 .., hinv⟩)
    · obtain rfl : b16 = false := by simpa using hlf
      simp [Region.binds] at haf
      obtain ⟨a0, a1, a2⟩ := haf
      subst a0 a1 a2
      refine wpOp_skip rfl rfl (yielded_of rfl rfl (by rw [SelF.size, hs0]; decide) (SelF.e9 hs0)) (by decide) ?_
      exact (show SelF.J wr x13 x9 x10 x11 gt ot j n ct nm ev A k d a0 _ _ _ from ⟨hB, b0, b1, b2, b3, b4, b5, b6, b7, b8, true, b10, b11, true, b13, b14, true, true, b17, rfl, SelF.p16 .., hinv⟩)
    · obtain rfl : b17 = false := by simpa using hlf
      refine wpOp_at rfl rfl ?_
      simp only [List.getElem_toArray, List.getElem_cons_zero, List.getElem_cons_succ]
      simp [Region.binds] at haf
      obtain ⟨a0, a1⟩ := haf
      subst a0 a1
      refine op_val (v := (.bool false)) ?_ (show SelF.J wr x13 x9 x10 x11 gt ot j n ct nm ev A k d a0 _ _ _ from ⟨hB, b0, b1, b2, b3, b4, b5, b6, b7, b8, true, b10, b11, b12, b13, b14, b15, true, true, rfl, SelF.p17 .., hinv⟩)
      simp only [execOp, SelF.e9 hs0, SelF.e16 hs0]
      have K0 := cell_on (W := wr) hinv h13
      have K1 := cell_on (W := wr) hinv h9
      have K2 := cell_on (W := wr) hinv h10
      have K3 := cell_on (W := wr) hinv h11
      have K4 := cell_on (W := wr) hinv hev
      go_simp
end Go.Proofs.Ytekfbafljilchaa
