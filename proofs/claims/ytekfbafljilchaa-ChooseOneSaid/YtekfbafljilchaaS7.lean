/- sets.Domain: the drawn region that asks for what is common (printed by dom7.py). -/
import Derived.Test.YtekfbafljilchaaS5
import Derived.Test.YtekfbafljilchaaG1
import Derived.Test.YtekfbafljilchaaE1
import Derived.Deep.AppendLies
set_option linter.unusedVariables false
set_option linter.unusedSimpArgs false
namespace Go.Proofs.Ytekfbafljilchaa
open Go.RowKit Go.Lib

theorem own_one (w : World) (x : Int) : (w.alloc (.cells #[.int .i64 x] 3)).ownsRow w.heap.size 3 1 (.slice (some ⟨w.heap.size, 0, none⟩) 1 1) 1 [.int .i64 x] :=
  ⟨rfl, .inr ⟨w.heap.size, 1, _, rfl, Nat.le_refl _, heap_alloc_new w _, Nat.le_refl _, by unfold maxLen; omega, rfl, rfl⟩⟩
theorem plain_add (g o i : Nat) : (⟨g, o, none⟩ : Addr).add i = ⟨g, o + i, none⟩ := by
  unfold Addr.add
  split <;> simp_all
/-- The frame inside the region: what has come up lies in its slots. -/
def D7.A (wr : World) (bl bx g : Nat) (xs z : Int) (gl : List Int) (A1 : Option Addr) (d1 : Nat) (bn : Nat) (g2 : Nat) (cap2 : Nat) (b0 b1 b2 b3 b4 b5 b6 b7 b8 b9 : Bool) (a0 : Act) : Act := putIf b0 39 (.pointer (some ⟨g, 0, none⟩)) (putIf b1 40 (.pointer (some ⟨bx, 0, none⟩)) (putIf b2 41 (.int .i64 xs) (putIf b3 42 (.slice (some ⟨bn, 0, none⟩) 1 1) (putIf b4 43 (.slice A1 gl.length d1) (putIf b5 44 (.slice (some ⟨g2, 0, none⟩) (1 + gl.length) cap2) (putIf b6 45 (.int .i64 z) (putIf b7 46 (.int .i64 (max 0 z)) (putIf b8 6 (.int .i64 (max 0 z)) (putIf b9 7 (.bool true) (a0))))))))))
theorem D7.p0 (wr : World) (bl bx g : Nat) (xs z : Int) (gl : List Int) (A1 : Option Addr) (d1 : Nat) (bn : Nat) (g2 : Nat) (cap2 : Nat)  (b1 b2 b3 b4 b5 b6 b7 b8 b9 : Bool) (a0 : Act) :
    (D7.A wr bl bx g xs z gl A1 d1 bn g2 cap2 false b1 b2 b3 b4 b5 b6 b7 b8 b9 a0).put (some 39) (.pointer (some ⟨g, 0, none⟩)) = D7.A wr bl bx g xs z gl A1 d1 bn g2 cap2 true b1 b2 b3 b4 b5 b6 b7 b8 b9 a0 := by
  simp only [D7.A, putIf_put, ne_eq, Nat.reduceEqDiff, not_false_eq_true]
  rfl
theorem D7.e0 {wr : World} {bl bx g : Nat} {xs z : Int} {gl : List Int} {A1 : Option Addr} {d1 : Nat} {bn : Nat} {g2 : Nat} {cap2 : Nat} {b1 b2 b3 b4 b5 b6 b7 b8 b9 : Bool} {a0 : Act} (hs : a0.tmps.size = 47) : (D7.A wr bl bx g xs z gl A1 d1 bn g2 cap2 true b1 b2 b3 b4 b5 b6 b7 b8 b9 a0).eval (.tmp 39) = (.pointer (some ⟨g, 0, none⟩)) := by
  simp [D7.A, eval_putIf, eval_put, size_putIf, hs]
theorem D7.p1 (wr : World) (bl bx g : Nat) (xs z : Int) (gl : List Int) (A1 : Option Addr) (d1 : Nat) (bn : Nat) (g2 : Nat) (cap2 : Nat)  (b0 b2 b3 b4 b5 b6 b7 b8 b9 : Bool) (a0 : Act) :
    (D7.A wr bl bx g xs z gl A1 d1 bn g2 cap2 b0 false b2 b3 b4 b5 b6 b7 b8 b9 a0).put (some 40) (.pointer (some ⟨bx, 0, none⟩)) = D7.A wr bl bx g xs z gl A1 d1 bn g2 cap2 b0 true b2 b3 b4 b5 b6 b7 b8 b9 a0 := by
  simp only [D7.A, putIf_put, ne_eq, Nat.reduceEqDiff, not_false_eq_true]
  rfl
theorem D7.e1 {wr : World} {bl bx g : Nat} {xs z : Int} {gl : List Int} {A1 : Option Addr} {d1 : Nat} {bn : Nat} {g2 : Nat} {cap2 : Nat} {b0 b2 b3 b4 b5 b6 b7 b8 b9 : Bool} {a0 : Act} (hs : a0.tmps.size = 47) : (D7.A wr bl bx g xs z gl A1 d1 bn g2 cap2 b0 true b2 b3 b4 b5 b6 b7 b8 b9 a0).eval (.tmp 40) = (.pointer (some ⟨bx, 0, none⟩)) := by
  simp [D7.A, eval_putIf, eval_put, size_putIf, hs]
theorem D7.p2 (wr : World) (bl bx g : Nat) (xs z : Int) (gl : List Int) (A1 : Option Addr) (d1 : Nat) (bn : Nat) (g2 : Nat) (cap2 : Nat)  (b0 b1 b3 b4 b5 b6 b7 b8 b9 : Bool) (a0 : Act) :
    (D7.A wr bl bx g xs z gl A1 d1 bn g2 cap2 b0 b1 false b3 b4 b5 b6 b7 b8 b9 a0).put (some 41) (.int .i64 xs) = D7.A wr bl bx g xs z gl A1 d1 bn g2 cap2 b0 b1 true b3 b4 b5 b6 b7 b8 b9 a0 := by
  simp only [D7.A, putIf_put, ne_eq, Nat.reduceEqDiff, not_false_eq_true]
  rfl
theorem D7.e2 {wr : World} {bl bx g : Nat} {xs z : Int} {gl : List Int} {A1 : Option Addr} {d1 : Nat} {bn : Nat} {g2 : Nat} {cap2 : Nat} {b0 b1 b3 b4 b5 b6 b7 b8 b9 : Bool} {a0 : Act} (hs : a0.tmps.size = 47) : (D7.A wr bl bx g xs z gl A1 d1 bn g2 cap2 b0 b1 true b3 b4 b5 b6 b7 b8 b9 a0).eval (.tmp 41) = (.int .i64 xs) := by
  simp [D7.A, eval_putIf, eval_put, size_putIf, hs]
theorem D7.p3 (wr : World) (bl bx g : Nat) (xs z : Int) (gl : List Int) (A1 : Option Addr) (d1 : Nat) (bn : Nat) (g2 : Nat) (cap2 : Nat) (bn' : Nat) (b0 b1 b2 b4 b5 b6 b7 b8 b9 : Bool) (a0 : Act) :
    (D7.A wr bl bx g xs z gl A1 d1 bn' g2 cap2 b0 b1 b2 false b4 b5 b6 b7 b8 b9 a0).put (some 42) (.slice (some ⟨bn, 0, none⟩) 1 1) = D7.A wr bl bx g xs z gl A1 d1 bn g2 cap2 b0 b1 b2 true b4 b5 b6 b7 b8 b9 a0 := by
  simp only [D7.A, putIf_put, ne_eq, Nat.reduceEqDiff, not_false_eq_true]
  rfl
theorem D7.e3 {wr : World} {bl bx g : Nat} {xs z : Int} {gl : List Int} {A1 : Option Addr} {d1 : Nat} {bn : Nat} {g2 : Nat} {cap2 : Nat} {b0 b1 b2 b4 b5 b6 b7 b8 b9 : Bool} {a0 : Act} (hs : a0.tmps.size = 47) : (D7.A wr bl bx g xs z gl A1 d1 bn g2 cap2 b0 b1 b2 true b4 b5 b6 b7 b8 b9 a0).eval (.tmp 42) = (.slice (some ⟨bn, 0, none⟩) 1 1) := by
  simp [D7.A, eval_putIf, eval_put, size_putIf, hs]
theorem D7.p4 (wr : World) (bl bx g : Nat) (xs z : Int) (gl : List Int) (A1 : Option Addr) (d1 : Nat) (bn : Nat) (g2 : Nat) (cap2 : Nat)  (b0 b1 b2 b3 b5 b6 b7 b8 b9 : Bool) (a0 : Act) :
    (D7.A wr bl bx g xs z gl A1 d1 bn g2 cap2 b0 b1 b2 b3 false b5 b6 b7 b8 b9 a0).put (some 43) (.slice A1 gl.length d1) = D7.A wr bl bx g xs z gl A1 d1 bn g2 cap2 b0 b1 b2 b3 true b5 b6 b7 b8 b9 a0 := by
  simp only [D7.A, putIf_put, ne_eq, Nat.reduceEqDiff, not_false_eq_true]
  rfl
theorem D7.e4 {wr : World} {bl bx g : Nat} {xs z : Int} {gl : List Int} {A1 : Option Addr} {d1 : Nat} {bn : Nat} {g2 : Nat} {cap2 : Nat} {b0 b1 b2 b3 b5 b6 b7 b8 b9 : Bool} {a0 : Act} (hs : a0.tmps.size = 47) : (D7.A wr bl bx g xs z gl A1 d1 bn g2 cap2 b0 b1 b2 b3 true b5 b6 b7 b8 b9 a0).eval (.tmp 43) = (.slice A1 gl.length d1) := by
  simp [D7.A, eval_putIf, eval_put, size_putIf, hs]
theorem D7.p5 (wr : World) (bl bx g : Nat) (xs z : Int) (gl : List Int) (A1 : Option Addr) (d1 : Nat) (bn : Nat) (g2 : Nat) (cap2 : Nat) (g2' : Nat) (cap2' : Nat) (b0 b1 b2 b3 b4 b6 b7 b8 b9 : Bool) (a0 : Act) :
    (D7.A wr bl bx g xs z gl A1 d1 bn g2' cap2' b0 b1 b2 b3 b4 false b6 b7 b8 b9 a0).put (some 44) (.slice (some ⟨g2, 0, none⟩) (1 + gl.length) cap2) = D7.A wr bl bx g xs z gl A1 d1 bn g2 cap2 b0 b1 b2 b3 b4 true b6 b7 b8 b9 a0 := by
  simp only [D7.A, putIf_put, ne_eq, Nat.reduceEqDiff, not_false_eq_true]
  rfl
theorem D7.e5 {wr : World} {bl bx g : Nat} {xs z : Int} {gl : List Int} {A1 : Option Addr} {d1 : Nat} {bn : Nat} {g2 : Nat} {cap2 : Nat} {b0 b1 b2 b3 b4 b6 b7 b8 b9 : Bool} {a0 : Act} (hs : a0.tmps.size = 47) : (D7.A wr bl bx g xs z gl A1 d1 bn g2 cap2 b0 b1 b2 b3 b4 true b6 b7 b8 b9 a0).eval (.tmp 44) = (.slice (some ⟨g2, 0, none⟩) (1 + gl.length) cap2) := by
  simp [D7.A, eval_putIf, eval_put, size_putIf, hs]
theorem D7.p6 (wr : World) (bl bx g : Nat) (xs z : Int) (gl : List Int) (A1 : Option Addr) (d1 : Nat) (bn : Nat) (g2 : Nat) (cap2 : Nat)  (b0 b1 b2 b3 b4 b5 b7 b8 b9 : Bool) (a0 : Act) :
    (D7.A wr bl bx g xs z gl A1 d1 bn g2 cap2 b0 b1 b2 b3 b4 b5 false b7 b8 b9 a0).put (some 45) (.int .i64 z) = D7.A wr bl bx g xs z gl A1 d1 bn g2 cap2 b0 b1 b2 b3 b4 b5 true b7 b8 b9 a0 := by
  simp only [D7.A, putIf_put, ne_eq, Nat.reduceEqDiff, not_false_eq_true]
  rfl
theorem D7.e6 {wr : World} {bl bx g : Nat} {xs z : Int} {gl : List Int} {A1 : Option Addr} {d1 : Nat} {bn : Nat} {g2 : Nat} {cap2 : Nat} {b0 b1 b2 b3 b4 b5 b7 b8 b9 : Bool} {a0 : Act} (hs : a0.tmps.size = 47) : (D7.A wr bl bx g xs z gl A1 d1 bn g2 cap2 b0 b1 b2 b3 b4 b5 true b7 b8 b9 a0).eval (.tmp 45) = (.int .i64 z) := by
  simp [D7.A, eval_putIf, eval_put, size_putIf, hs]
theorem D7.p7 (wr : World) (bl bx g : Nat) (xs z : Int) (gl : List Int) (A1 : Option Addr) (d1 : Nat) (bn : Nat) (g2 : Nat) (cap2 : Nat)  (b0 b1 b2 b3 b4 b5 b6 b8 b9 : Bool) (a0 : Act) :
    (D7.A wr bl bx g xs z gl A1 d1 bn g2 cap2 b0 b1 b2 b3 b4 b5 b6 false b8 b9 a0).put (some 46) (.int .i64 (max 0 z)) = D7.A wr bl bx g xs z gl A1 d1 bn g2 cap2 b0 b1 b2 b3 b4 b5 b6 true b8 b9 a0 := by
  simp only [D7.A, putIf_put, ne_eq, Nat.reduceEqDiff, not_false_eq_true]
  rfl
theorem D7.e7 {wr : World} {bl bx g : Nat} {xs z : Int} {gl : List Int} {A1 : Option Addr} {d1 : Nat} {bn : Nat} {g2 : Nat} {cap2 : Nat} {b0 b1 b2 b3 b4 b5 b6 b8 b9 : Bool} {a0 : Act} (hs : a0.tmps.size = 47) : (D7.A wr bl bx g xs z gl A1 d1 bn g2 cap2 b0 b1 b2 b3 b4 b5 b6 true b8 b9 a0).eval (.tmp 46) = (.int .i64 (max 0 z)) := by
  simp [D7.A, eval_putIf, eval_put, size_putIf, hs]
theorem D7.p8 (wr : World) (bl bx g : Nat) (xs z : Int) (gl : List Int) (A1 : Option Addr) (d1 : Nat) (bn : Nat) (g2 : Nat) (cap2 : Nat)  (b0 b1 b2 b3 b4 b5 b6 b7 b9 : Bool) (a0 : Act) :
    (D7.A wr bl bx g xs z gl A1 d1 bn g2 cap2 b0 b1 b2 b3 b4 b5 b6 b7 false b9 a0).put (some 6) (.int .i64 (max 0 z)) = D7.A wr bl bx g xs z gl A1 d1 bn g2 cap2 b0 b1 b2 b3 b4 b5 b6 b7 true b9 a0 := by
  simp only [D7.A, putIf_put, ne_eq, Nat.reduceEqDiff, not_false_eq_true]
  rfl
theorem D7.e8 {wr : World} {bl bx g : Nat} {xs z : Int} {gl : List Int} {A1 : Option Addr} {d1 : Nat} {bn : Nat} {g2 : Nat} {cap2 : Nat} {b0 b1 b2 b3 b4 b5 b6 b7 b9 : Bool} {a0 : Act} (hs : a0.tmps.size = 47) : (D7.A wr bl bx g xs z gl A1 d1 bn g2 cap2 b0 b1 b2 b3 b4 b5 b6 b7 true b9 a0).eval (.tmp 6) = (.int .i64 (max 0 z)) := by
  simp [D7.A, eval_putIf, eval_put, size_putIf, hs]
theorem D7.p9 (wr : World) (bl bx g : Nat) (xs z : Int) (gl : List Int) (A1 : Option Addr) (d1 : Nat) (bn : Nat) (g2 : Nat) (cap2 : Nat)  (b0 b1 b2 b3 b4 b5 b6 b7 b8 : Bool) (a0 : Act) :
    (D7.A wr bl bx g xs z gl A1 d1 bn g2 cap2 b0 b1 b2 b3 b4 b5 b6 b7 b8 false a0).put (some 7) (.bool true) = D7.A wr bl bx g xs z gl A1 d1 bn g2 cap2 b0 b1 b2 b3 b4 b5 b6 b7 b8 true a0 := by
  simp only [D7.A, putIf_put, ne_eq, Nat.reduceEqDiff, not_false_eq_true]
  rfl
theorem D7.e9 {wr : World} {bl bx g : Nat} {xs z : Int} {gl : List Int} {A1 : Option Addr} {d1 : Nat} {bn : Nat} {g2 : Nat} {cap2 : Nat} {b0 b1 b2 b3 b4 b5 b6 b7 b8 : Bool} {a0 : Act} (hs : a0.tmps.size = 47) : (D7.A wr bl bx g xs z gl A1 d1 bn g2 cap2 b0 b1 b2 b3 b4 b5 b6 b7 b8 true a0).eval (.tmp 7) = (.bool true) := by
  simp [D7.A, eval_putIf, eval_put, size_putIf, hs]
theorem D7.z (wr : World) (bl bx g : Nat) (xs z : Int) (gl : List Int) (A1 : Option Addr) (d1 : Nat) (bn : Nat) (g2 : Nat) (cap2 : Nat) (a0 : Act) : a0 = D7.A wr bl bx g xs z gl A1 d1 bn g2 cap2 false false false false false false false false false false a0 := rfl
theorem D7.size {wr : World} {bl bx g : Nat} {xs z : Int} {gl : List Int} {A1 : Option Addr} {d1 : Nat} {bn : Nat} {g2 : Nat} {cap2 : Nat} {b0 b1 b2 b3 b4 b5 b6 b7 b8 b9 : Bool} {a0 : Act} : (D7.A wr bl bx g xs z gl A1 d1 bn g2 cap2 b0 b1 b2 b3 b4 b5 b6 b7 b8 b9 a0).tmps.size = a0.tmps.size := by
  simp [D7.A, size_putIf]
theorem D7.f3 {wr : World} {bl bx g : Nat} {xs z : Int} {gl : List Int} {A1 : Option Addr} {d1 : Nat} {bn : Nat} {g2 : Nat} {cap2 : Nat} {b0 b1 b2 b3 b4 b5 b6 b7 b8 b9 : Bool} {a0 : Act} : (D7.A wr bl bx g xs z gl A1 d1 bn g2 cap2 b0 b1 b2 b3 b4 b5 b6 b7 b8 b9 a0).eval (.tmp 3) = a0.eval (.tmp 3) := by
  simp [D7.A, eval_putIf]
theorem D7.f8 {wr : World} {bl bx g : Nat} {xs z : Int} {gl : List Int} {A1 : Option Addr} {d1 : Nat} {bn : Nat} {g2 : Nat} {cap2 : Nat} {b0 b1 b2 b3 b4 b5 b6 b7 b8 b9 : Bool} {a0 : Act} : (D7.A wr bl bx g xs z gl A1 d1 bn g2 cap2 b0 b1 b2 b3 b4 b5 b6 b7 b8 b9 a0).eval (.tmp 8) = a0.eval (.tmp 8) := by
  simp [D7.A, eval_putIf]
theorem D7.f9 {wr : World} {bl bx g : Nat} {xs z : Int} {gl : List Int} {A1 : Option Addr} {d1 : Nat} {bn : Nat} {g2 : Nat} {cap2 : Nat} {b0 b1 b2 b3 b4 b5 b6 b7 b8 b9 : Bool} {a0 : Act} : (D7.A wr bl bx g xs z gl A1 d1 bn g2 cap2 b0 b1 b2 b3 b4 b5 b6 b7 b8 b9 a0).eval (.tmp 9) = a0.eval (.tmp 9) := by
  simp [D7.A, eval_putIf]
def D7.B (wr : World) (bl bx g : Nat) (xs z : Int) (gl : List Int) (A1 : Option Addr) (d1 : Nat) (a0 : Act) : Prop := a0.tmps.size = 47 ∧ a0.eval (.tmp 3) = (.pointer (some ⟨bl, 0, none⟩)) ∧ a0.eval (.tmp 8) = (.slice A1 gl.length d1) ∧ a0.eval (.tmp 9) = (.pointer (some ⟨bx, 0, none⟩))
def D7.I (wr : World) (bl bx g : Nat) (xs z : Int) (gl : List Int) (A1 : Option Addr) (d1 : Nat) (bn : Nat) (g2 : Nat) (cap2 : Nat) (b0 b1 b2 b3 b4 b5 b6 b7 b8 b9 : Bool) (w : World) : Prop := Fr [] wr w ∧ (b3 = true → b5 = false → w.ownsRow wr.heap.size 3 1 (.slice (some ⟨bn, 0, none⟩) 1 1) 1 [.int .i64 xs]) ∧ (b5 = true → Sl rInt (fun _ => True) w (.slice (some ⟨g2, 0, none⟩) (1 + gl.length) cap2) (xs :: gl)) ∧ (b5 = true → b3 = true)
/-- What stays true inside the region, whatever has come up. -/
def D7.J (wr : World) (bl bx g : Nat) (xs z : Int) (gl : List Int) (A1 : Option Addr) (d1 : Nat) (a0 : Act) (l : Array Bool) (a : Act) (w : World) : Prop :=
  D7.B wr bl bx g xs z gl A1 d1 a0 ∧ ∃ b0 b1 b2 b3 b4 b5 b6 b7 b8 b9 bn g2 cap2, l = #[b0, b1, b2, b3, b4, b5, b6, b7, b8, b9] ∧ a = D7.A wr bl bx g xs z gl A1 d1 bn g2 cap2 b0 b1 b2 b3 b4 b5 b6 b7 b8 b9 a0 ∧ D7.I wr bl bx g xs z gl A1 d1 bn g2 cap2 b0 b1 b2 b3 b4 b5 b6 b7 b8 b9 w
attribute [irreducible] D7.A

set_option maxRecDepth 100000 in
set_option maxHeartbeats 8000000 in
theorem dom7 {Q : Exit → Act → World → Prop} {t0 t1 t2 t4 t5 t6 t7 t10 t11 t12 t13 t14 t15 t16 t17 t18 t19 t20 t21 t22 t23 t24 t25 t26 t27 t28 t29 t30 t31 t32 t33 t34 t35 t36 t37 t38 t39 t40 t41 t42 t43 t44 t45 t46 : Value} {wr : World} {bl bx g : Nat} {xs z : Int} {gl : List Int} {A1 : Option Addr} {d1 : Nat} (hl : wr.cell? ⟨bl, 0, none⟩ = some (.pointer (some ⟨g, 0, none⟩))) (hx : wr.cell? ⟨bx, 0, none⟩ = some (.int .i64 xs)) (hgl : Sl rInt (fun _ => True) wr (.slice A1 gl.length d1) gl) (hpos : 0 < gl.length) (hlen : gl.length ≤ 128)
    (hcom : ∀ w A d, Fr [] wr w → Sl rInt (fun _ => True) w (.slice A (1 + gl.length) d) (xs :: gl) → Calls Try.prog 35 #[.pointer (some ⟨g, 0, none⟩), .slice A (1 + gl.length) d] w fun e w' => e = .returned (.int .i64 z) ∧ Fr [] w w')
    (hQ : ∀ (u6 u7 u39 u40 u41 u42 u43 u44 u45 u46 : Value) (wx : World), Fr [] wr wx ∧ u6 = .int .i64 (max 0 z) ∧ u7 = .bool true → Q .normal ⟨#[t0, t1, t2, (.pointer (some ⟨bl, 0, none⟩)), t4, t5, u6, u7, (.slice A1 gl.length d1), (.pointer (some ⟨bx, 0, none⟩)), t10, t11, t12, t13, t14, t15, t16, t17, t18, t19, t20, t21, t22, t23, t24, t25, t26, t27, t28, t29, t30, t31, t32, t33, t34, t35, t36, t37, t38, u39, u40, u41, u42, u43, u44, u45, u46], []⟩ wx) :
    (regAt Try.f21 7).wp Try.prog Q ⟨#[t0, t1, t2, (.pointer (some ⟨bl, 0, none⟩)), t4, t5, t6, t7, (.slice A1 gl.length d1), (.pointer (some ⟨bx, 0, none⟩)), t10, t11, t12, t13, t14, t15, t16, t17, t18, t19, t20, t21, t22, t23, t24, t25, t26, t27, t28, t29, t30, t31, t32, t33, t34, t35, t36, t37, t38, t39, t40, t41, t42, t43, t44, t45, t46], []⟩ wr := by
  refine Code.wp_mono (Q := OnlyN (fun a w => Q .normal a w)) onlyN_imp ?_
  conv => arg 2; whnf
  dsimp only
  refine region_inv (by kernel_rfl) (fun a0 l a w => D7.J wr bl bx g xs z gl A1 d1 a0 l a w) ?_ ?_ ?_
  · exact ⟨⟨rfl, rfl, rfl, rfl⟩, false, false, false, false, false, false, false, false, false, false, 0, 0, 0, rfl, D7.z .., (Fr.refl _ _).drew, (fun h => by cases h), (fun h => by cases h), (fun h => by cases h)⟩
  · intro l a' w' hJ hi
    obtain ⟨-, b0, b1, b2, b3, b4, b5, b6, b7, b8, b9, bn, g2, cap2, rfl, rfl, hinv⟩ := hJ
    have t0 : b0 = true := ready_nil hi 0 (by decide) (by simp [Region.binds])
    have t1 : b1 = true := ready_nil hi 1 (by decide) (by simp [Region.binds])
    have t2 : b2 = true := ready_nil hi 2 (by decide) (by simp [Region.binds, t1])
    have t3 : b3 = true := ready_nil hi 3 (by decide) (by simp [Region.binds, t2])
    have t4 : b4 = true := ready_nil hi 4 (by decide) (by simp [Region.binds])
    have t5 : b5 = true := ready_nil hi 5 (by decide) (by simp [Region.binds, t3, t4])
    have t6 : b6 = true := ready_nil hi 6 (by decide) (by simp [Region.binds, t0, t5])
    have t7 : b7 = true := ready_nil hi 7 (by decide) (by simp [Region.binds, t6])
    have t8 : b8 = true := ready_nil hi 8 (by decide) (by simp [Region.binds, t0, t1, t2, t3, t4, t5, t6, t7])
    have t9 : b9 = true := ready_nil hi 9 (by decide) (by simp [Region.binds, t0, t1, t2, t3, t4, t5, t6, t7, t8])
    subst t0 t1 t2 t3 t4 t5 t6 t7 t8 t9
    clear hi
    simp only [OnlyN, D7.A, putIf_true, Act.put, List.setIfInBounds_toArray, List.set_cons_zero, List.set_cons_succ]
    exact hQ _ _ _ _ _ _ _ _ _ _ _ ⟨hinv.1, rfl, rfl⟩
  · intro a0 l a' w' i hJ hi
    obtain ⟨hB, b0, b1, b2, b3, b4, b5, b6, b7, b8, b9, bn, g2, cap2, rfl, rfl, hinv⟩ := hJ
    have hBB := hB
    obtain ⟨hs0, g3, g8, g9⟩ := hBB
    obtain ⟨h10, hlf, haf⟩ := mem_ready hi
    clear hi
    have hc : i = 0 ∨ i = 1 ∨ i = 2 ∨ i = 3 ∨ i = 4 ∨ i = 5 ∨ i = 6 ∨ i = 7 ∨ i = 8 ∨ i = 9 := by
      have : i < 10 := h10
      omega
    clear h10
    rcases hc with rfl | rfl | rfl | rfl | rfl | rfl | rfl | rfl | rfl | rfl
    · obtain rfl : b0 = false := by simpa using hlf
      refine wpOp_at rfl rfl ?_
      simp only [List.getElem_toArray, List.getElem_cons_zero, List.getElem_cons_succ]
      refine op_val (v := (.pointer (some ⟨g, 0, none⟩))) ?_ (show D7.J wr bl bx g xs z gl A1 d1 a0 _ _ _ from ⟨hB, true, b1, b2, b3, b4, b5, b6, b7, b8, b9, bn, g2, cap2, rfl, D7.p0 .., hinv⟩)
      simp only [execOp, D7.f3, g3]
      have K0 := cell_on (W := wr) hinv.1 hl
      have K1 := cell_on (W := wr) hinv.1 hx
      go_simp
    · obtain rfl : b1 = false := by simpa using hlf
      refine wpOp_at rfl rfl ?_
      simp only [List.getElem_toArray, List.getElem_cons_zero, List.getElem_cons_succ]
      refine op_val (v := (.pointer (some ⟨bx, 0, none⟩))) ?_ (show D7.J wr bl bx g xs z gl A1 d1 a0 _ _ _ from ⟨hB, b0, true, b2, b3, b4, b5, b6, b7, b8, b9, bn, g2, cap2, rfl, D7.p1 .., hinv⟩)
      simp only [execOp, D7.f9, g9]
      have K0 := cell_on (W := wr) hinv.1 hl
      have K1 := cell_on (W := wr) hinv.1 hx
      go_simp
    · obtain rfl : b2 = false := by simpa using hlf
      refine wpOp_at rfl rfl ?_
      simp only [List.getElem_toArray, List.getElem_cons_zero, List.getElem_cons_succ]
      simp [Region.binds] at haf
      subst haf
      refine op_val (v := (.int .i64 xs)) ?_ (show D7.J wr bl bx g xs z gl A1 d1 a0 _ _ _ from ⟨hB, b0, true, true, b3, b4, b5, b6, b7, b8, b9, bn, g2, cap2, rfl, D7.p2 .., hinv⟩)
      simp only [execOp, D7.e1 hs0]
      have K0 := cell_on (W := wr) hinv.1 hl
      have K1 := cell_on (W := wr) hinv.1 hx
      go_simp
    · obtain rfl : b3 = false := by simpa using hlf
      refine wpOp_at rfl rfl ?_
      simp only [List.getElem_toArray, List.getElem_cons_zero, List.getElem_cons_succ]
      simp [Region.binds] at haf
      subst haf
      obtain ⟨h1, h2, h3, h4⟩ := hinv
      have e5 : b5 = false := by
        cases hb : b5 with
        | false => rfl
        | true => have := h4 hb; cases this
      subst e5
      refine op_run (v := .slice (some ⟨w'.heap.size, 0, none⟩) 1 1) (w' := w'.alloc (.cells #[.int .i64 xs] 3)) ?_ (show D7.J wr bl bx g xs z gl A1 d1 a0 _ _ _ from ⟨hB, b0, b1, true, true, b4, false, b6, b7, b8, b9, w'.heap.size, g2, cap2, rfl, D7.p3 .., h1.alloc _, fun _ _ => own_low (own_one w' xs) h1.size, (fun h => by cases h), (fun h => by cases h)⟩)
      simp only [execOp, List.map_toArray, List.map_cons, List.map_nil, D7.e2 hs0]
      go_simp
    · obtain rfl : b4 = false := by simpa using hlf
      refine wpOp_at rfl rfl ?_
      simp only [List.getElem_toArray, List.getElem_cons_zero, List.getElem_cons_succ]
      refine op_val (v := (.slice A1 gl.length d1)) ?_ (show D7.J wr bl bx g xs z gl A1 d1 a0 _ _ _ from ⟨hB, b0, b1, b2, b3, true, b5, b6, b7, b8, b9, bn, g2, cap2, rfl, D7.p4 .., hinv⟩)
      simp only [execOp, D7.f8, g8]
      have K0 := cell_on (W := wr) hinv.1 hl
      have K1 := cell_on (W := wr) hinv.1 hx
      go_simp
    · obtain rfl : b5 = false := by simpa using hlf
      refine wpOp_at rfl rfl ?_
      simp only [List.getElem_toArray, List.getElem_cons_zero, List.getElem_cons_succ]
      simp [Region.binds] at haf
      obtain ⟨a0, a1⟩ := haf
      subst a0 a1
      obtain ⟨h1, h2, h3, h4⟩ := hinv
      obtain ⟨i0, hi, hz0, hz1, hz2⟩ := info_parts info3
      obtain ⟨gb, ob, eA, _, hgb, _⟩ := hgl.int_at 0 hpos
      have hnews : ∀ j u, (I64s gl)[j]? = some u → w'.cell? ((⟨gb, ob, none⟩ : Addr).add j) = some u := fun j u hu => by
        have hj : j < gl.length := by have := (List.getElem?_eq_some_iff.1 hu).1; simpa using this
        obtain ⟨gb', ob', eA', _, _, hc⟩ := hgl.int_at j hj
        rw [eA] at eA'
        injection eA' with eA'
        injection eA' with e1 e2
        subst e1 e2
        rw [List.getElem?_map, List.getElem?_eq_getElem hj] at hu
        have hu' : Value.int .i64 gl[j] = u := by simpa using hu
        rw [← hu']
        have := cell_on h1 hc
        rw [plain_add]
        exact this
      subst eA
      refine wp_append_lies _ _ _ 29 rfl wr.heap.size 3 i0 _ 1 8 Try.underlying29 hi hz0 hz1 hz2 (by rfl) (by decide) (.slice (some ⟨bn, 0, none⟩) 1 1) 1 [.int .i64 xs] (by simp only [D7.e3 hs0, D7.e4 hs0]) (h2 rfl rfl) ⟨gb, ob, none⟩ gl.length d1 (I64s gl) (by simp only [D7.e3 hs0, D7.e4 hs0]) (by simp) hnews (by simp [Value.oneCell']) hpos (by simp only [maxLen]; omega) (by omega) h1.size w'.heap.size rfl ?_
      intro g cap w1 hown1 hgrow hat hlt
      have f1 : Fr (Value.slice (some ⟨bn, 0, none⟩) 1 1).ownBlock.toList w' w1 := Fr.of_grown hgrow (fun k hk _ => by simp [hk])
      have hn := own_new (h2 rfl rfl)
      exact ⟨hB, b0, b1, b2, true, true, true, b6, b7, b8, b9, bn, g, cap, rfl, D7.p5 .., h1.trans f1 (fun x hx hlt => by have := hn x hx; omega), (fun _ h => by cases h), (fun _ => by
        have e : 1 + gl.length = (xs :: gl).length := by simp; omega
        rw [e] at hown1 ⊢
        exact (int_own' hown1 (by simp; omega)).fr (fun _ _ _ => ⟨trivial, rfl⟩)), (fun _ => rfl)⟩
    · obtain rfl : b6 = false := by simpa using hlf
      refine wpOp_at rfl rfl ?_
      simp only [List.getElem_toArray, List.getElem_cons_zero, List.getElem_cons_succ]
      simp [Region.binds] at haf
      obtain ⟨a0, a1⟩ := haf
      subst a0 a1
      obtain ⟨h1, h2, h3, h4⟩ := hinv
      refine op_call (f := 35) rfl (vs := #[(.pointer (some ⟨g, 0, none⟩)), (.slice (some ⟨g2, 0, none⟩) (1 + gl.length) cap2)]) (by simp [D7.e0 hs0, D7.e5 hs0]) (fun w => enters_of Try.func35 (by kernel_rfl) rfl _ w) ?_
      refine (hcom w' _ _ h1 (h3 rfl)).mono ?_
      rintro e w3 ⟨rfl, f3⟩
      exact ⟨_, rfl, (show D7.J wr bl bx g xs z gl A1 d1 a0 _ _ _ from ⟨hB, true, b1, b2, b3, b4, true, true, b7, b8, b9, bn, g2, cap2, rfl, D7.p6 .., h1.trans' f3, (fun _ h => by cases h), (fun _ => (h3 rfl).fr (fun k _ hk => ⟨trivial, f3.block k hk (by simp)⟩)), h4⟩)⟩
    · obtain rfl : b7 = false := by simpa using hlf
      refine wpOp_at rfl rfl ?_
      simp only [List.getElem_toArray, List.getElem_cons_zero, List.getElem_cons_succ]
      simp [Region.binds] at haf
      subst haf
      refine op_val (v := (.int .i64 (max 0 z))) ?_ (show D7.J wr bl bx g xs z gl A1 d1 a0 _ _ _ from ⟨hB, b0, b1, b2, b3, b4, b5, true, true, b8, b9, bn, g2, cap2, rfl, D7.p7 .., hinv⟩)
      simp only [execOp, D7.e6 hs0]
      go_simp
      rw [show ∀ a : Act, a.tmps[45]?.getD undef = a.eval (.tmp 45) from fun _ => by simp [Act.eval], D7.e6 hs0]
      go_simp
      split <;> omega
    · obtain rfl : b8 = false := by simpa using hlf
      refine wpOp_at rfl rfl ?_
      simp only [List.getElem_toArray, List.getElem_cons_zero, List.getElem_cons_succ]
      simp [Region.binds] at haf
      obtain ⟨a0, a1, a2, a3, a4, a5, a6, a7, a8, a9⟩ := haf
      subst a0 a1 a2 a3 a4 a5 a6 a7
      refine op_val (v := (.int .i64 (max 0 z))) ?_ (show D7.J wr bl bx g xs z gl A1 d1 a0 _ _ _ from ⟨hB, true, true, true, true, true, true, true, true, true, b9, bn, g2, cap2, rfl, D7.p8 .., hinv⟩)
      simp only [execOp, D7.e7 hs0]
      have K0 := cell_on (W := wr) hinv.1 hl
      have K1 := cell_on (W := wr) hinv.1 hx
      go_simp
    · obtain rfl : b9 = false := by simpa using hlf
      refine wpOp_at rfl rfl ?_
      simp only [List.getElem_toArray, List.getElem_cons_zero, List.getElem_cons_succ]
      simp [Region.binds] at haf
      obtain ⟨a0, a1, a2, a3, a4, a5, a6, a7, a8, a9⟩ := haf
      subst a0 a1 a2 a3 a4 a5 a6 a7 a8
      refine op_val (v := (.bool true)) ?_ (show D7.J wr bl bx g xs z gl A1 d1 a0 _ _ _ from ⟨hB, true, true, true, true, true, true, true, true, true, true, bn, g2, cap2, rfl, D7.p9 .., hinv⟩)
      simp only [execOp, ]
      have K0 := cell_on (W := wr) hinv.1 hl
      have K1 := cell_on (W := wr) hinv.1 hx
      go_simp
end Go.Proofs.Ytekfbafljilchaa
