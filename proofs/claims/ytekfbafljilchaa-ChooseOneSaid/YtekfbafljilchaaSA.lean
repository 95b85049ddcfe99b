/- choose.Resolve: the drawn region that lays what a transition leaves into the map (printed by res9.py). -/
import Derived.Test.YtekfbafljilchaaS9
import Derived.Test.YtekfbafljilchaaS7
import Derived.Test.YtekfbafljilchaaH2
set_option linter.unusedVariables false
set_option linter.unusedSimpArgs false
namespace Go.Proofs.Ytekfbafljilchaa
open Go.RowKit Go.Lib

/-- The frame inside the region: what has come up lies in its slots. -/
def R9.A (wr : World) (b11 bm g : Nat) (t : Int) (vC vM : Value) (S : List Int) (f : Int → Value) (ex : List Int) (bn : Nat) (A9 : Option Addr) (d9 : Nat) (b0 b1 b2 b3 b4 b5 b6 b7 : Bool) (a0 : Act) : Act := putIf b0 47 (.map (some bm)) (putIf b1 48 (.int .i64 t) (putIf b2 49 (.pointer (some ⟨g, 0, none⟩)) (putIf b3 50 vC (putIf b4 51 vM (putIf b5 52 (.int .i64 t) (putIf b6 53 (.slice (some ⟨bn, 0, none⟩) 1 1) (putIf b7 54 (.slice A9 ex.length d9) (a0))))))))
theorem R9.p0 (wr : World) (b11 bm g : Nat) (t : Int) (vC vM : Value) (S : List Int) (f : Int → Value) (ex : List Int) (bn : Nat) (A9 : Option Addr) (d9 : Nat)  (b1 b2 b3 b4 b5 b6 b7 : Bool) (a0 : Act) :
    (R9.A wr b11 bm g t vC vM S f ex bn A9 d9 false b1 b2 b3 b4 b5 b6 b7 a0).put (some 47) (.map (some bm)) = R9.A wr b11 bm g t vC vM S f ex bn A9 d9 true b1 b2 b3 b4 b5 b6 b7 a0 := by
  simp only [R9.A, putIf_put, ne_eq, Nat.reduceEqDiff, not_false_eq_true]
  rfl
theorem R9.e0 {wr : World} {b11 bm g : Nat} {t : Int} {vC vM : Value} {S : List Int} {f : Int → Value} {ex : List Int} {bn : Nat} {A9 : Option Addr} {d9 : Nat} {b1 b2 b3 b4 b5 b6 b7 : Bool} {a0 : Act} (hs : a0.tmps.size = 97) : (R9.A wr b11 bm g t vC vM S f ex bn A9 d9 true b1 b2 b3 b4 b5 b6 b7 a0).eval (.tmp 47) = (.map (some bm)) := by
  simp [R9.A, eval_putIf, eval_put, size_putIf, hs]
theorem R9.p1 (wr : World) (b11 bm g : Nat) (t : Int) (vC vM : Value) (S : List Int) (f : Int → Value) (ex : List Int) (bn : Nat) (A9 : Option Addr) (d9 : Nat)  (b0 b2 b3 b4 b5 b6 b7 : Bool) (a0 : Act) :
    (R9.A wr b11 bm g t vC vM S f ex bn A9 d9 b0 false b2 b3 b4 b5 b6 b7 a0).put (some 48) (.int .i64 t) = R9.A wr b11 bm g t vC vM S f ex bn A9 d9 b0 true b2 b3 b4 b5 b6 b7 a0 := by
  simp only [R9.A, putIf_put, ne_eq, Nat.reduceEqDiff, not_false_eq_true]
  rfl
theorem R9.e1 {wr : World} {b11 bm g : Nat} {t : Int} {vC vM : Value} {S : List Int} {f : Int → Value} {ex : List Int} {bn : Nat} {A9 : Option Addr} {d9 : Nat} {b0 b2 b3 b4 b5 b6 b7 : Bool} {a0 : Act} (hs : a0.tmps.size = 97) : (R9.A wr b11 bm g t vC vM S f ex bn A9 d9 b0 true b2 b3 b4 b5 b6 b7 a0).eval (.tmp 48) = (.int .i64 t) := by
  simp [R9.A, eval_putIf, eval_put, size_putIf, hs]
theorem R9.p2 (wr : World) (b11 bm g : Nat) (t : Int) (vC vM : Value) (S : List Int) (f : Int → Value) (ex : List Int) (bn : Nat) (A9 : Option Addr) (d9 : Nat)  (b0 b1 b3 b4 b5 b6 b7 : Bool) (a0 : Act) :
    (R9.A wr b11 bm g t vC vM S f ex bn A9 d9 b0 b1 false b3 b4 b5 b6 b7 a0).put (some 49) (.pointer (some ⟨g, 0, none⟩)) = R9.A wr b11 bm g t vC vM S f ex bn A9 d9 b0 b1 true b3 b4 b5 b6 b7 a0 := by
  simp only [R9.A, putIf_put, ne_eq, Nat.reduceEqDiff, not_false_eq_true]
  rfl
theorem R9.e2 {wr : World} {b11 bm g : Nat} {t : Int} {vC vM : Value} {S : List Int} {f : Int → Value} {ex : List Int} {bn : Nat} {A9 : Option Addr} {d9 : Nat} {b0 b1 b3 b4 b5 b6 b7 : Bool} {a0 : Act} (hs : a0.tmps.size = 97) : (R9.A wr b11 bm g t vC vM S f ex bn A9 d9 b0 b1 true b3 b4 b5 b6 b7 a0).eval (.tmp 49) = (.pointer (some ⟨g, 0, none⟩)) := by
  simp [R9.A, eval_putIf, eval_put, size_putIf, hs]
theorem R9.p3 (wr : World) (b11 bm g : Nat) (t : Int) (vC vM : Value) (S : List Int) (f : Int → Value) (ex : List Int) (bn : Nat) (A9 : Option Addr) (d9 : Nat)  (b0 b1 b2 b4 b5 b6 b7 : Bool) (a0 : Act) :
    (R9.A wr b11 bm g t vC vM S f ex bn A9 d9 b0 b1 b2 false b4 b5 b6 b7 a0).put (some 50) vC = R9.A wr b11 bm g t vC vM S f ex bn A9 d9 b0 b1 b2 true b4 b5 b6 b7 a0 := by
  simp only [R9.A, putIf_put, ne_eq, Nat.reduceEqDiff, not_false_eq_true]
  rfl
theorem R9.e3 {wr : World} {b11 bm g : Nat} {t : Int} {vC vM : Value} {S : List Int} {f : Int → Value} {ex : List Int} {bn : Nat} {A9 : Option Addr} {d9 : Nat} {b0 b1 b2 b4 b5 b6 b7 : Bool} {a0 : Act} (hs : a0.tmps.size = 97) : (R9.A wr b11 bm g t vC vM S f ex bn A9 d9 b0 b1 b2 true b4 b5 b6 b7 a0).eval (.tmp 50) = vC := by
  simp [R9.A, eval_putIf, eval_put, size_putIf, hs]
theorem R9.p4 (wr : World) (b11 bm g : Nat) (t : Int) (vC vM : Value) (S : List Int) (f : Int → Value) (ex : List Int) (bn : Nat) (A9 : Option Addr) (d9 : Nat)  (b0 b1 b2 b3 b5 b6 b7 : Bool) (a0 : Act) :
    (R9.A wr b11 bm g t vC vM S f ex bn A9 d9 b0 b1 b2 b3 false b5 b6 b7 a0).put (some 51) vM = R9.A wr b11 bm g t vC vM S f ex bn A9 d9 b0 b1 b2 b3 true b5 b6 b7 a0 := by
  simp only [R9.A, putIf_put, ne_eq, Nat.reduceEqDiff, not_false_eq_true]
  rfl
theorem R9.e4 {wr : World} {b11 bm g : Nat} {t : Int} {vC vM : Value} {S : List Int} {f : Int → Value} {ex : List Int} {bn : Nat} {A9 : Option Addr} {d9 : Nat} {b0 b1 b2 b3 b5 b6 b7 : Bool} {a0 : Act} (hs : a0.tmps.size = 97) : (R9.A wr b11 bm g t vC vM S f ex bn A9 d9 b0 b1 b2 b3 true b5 b6 b7 a0).eval (.tmp 51) = vM := by
  simp [R9.A, eval_putIf, eval_put, size_putIf, hs]
theorem R9.p5 (wr : World) (b11 bm g : Nat) (t : Int) (vC vM : Value) (S : List Int) (f : Int → Value) (ex : List Int) (bn : Nat) (A9 : Option Addr) (d9 : Nat)  (b0 b1 b2 b3 b4 b6 b7 : Bool) (a0 : Act) :
    (R9.A wr b11 bm g t vC vM S f ex bn A9 d9 b0 b1 b2 b3 b4 false b6 b7 a0).put (some 52) (.int .i64 t) = R9.A wr b11 bm g t vC vM S f ex bn A9 d9 b0 b1 b2 b3 b4 true b6 b7 a0 := by
  simp only [R9.A, putIf_put, ne_eq, Nat.reduceEqDiff, not_false_eq_true]
  rfl
theorem R9.e5 {wr : World} {b11 bm g : Nat} {t : Int} {vC vM : Value} {S : List Int} {f : Int → Value} {ex : List Int} {bn : Nat} {A9 : Option Addr} {d9 : Nat} {b0 b1 b2 b3 b4 b6 b7 : Bool} {a0 : Act} (hs : a0.tmps.size = 97) : (R9.A wr b11 bm g t vC vM S f ex bn A9 d9 b0 b1 b2 b3 b4 true b6 b7 a0).eval (.tmp 52) = (.int .i64 t) := by
  simp [R9.A, eval_putIf, eval_put, size_putIf, hs]
theorem R9.p6 (wr : World) (b11 bm g : Nat) (t : Int) (vC vM : Value) (S : List Int) (f : Int → Value) (ex : List Int) (bn : Nat) (A9 : Option Addr) (d9 : Nat) (bn' : Nat) (b0 b1 b2 b3 b4 b5 b7 : Bool) (a0 : Act) :
    (R9.A wr b11 bm g t vC vM S f ex bn' A9 d9 b0 b1 b2 b3 b4 b5 false b7 a0).put (some 53) (.slice (some ⟨bn, 0, none⟩) 1 1) = R9.A wr b11 bm g t vC vM S f ex bn A9 d9 b0 b1 b2 b3 b4 b5 true b7 a0 := by
  simp only [R9.A, putIf_put, ne_eq, Nat.reduceEqDiff, not_false_eq_true]
  rfl
theorem R9.e6 {wr : World} {b11 bm g : Nat} {t : Int} {vC vM : Value} {S : List Int} {f : Int → Value} {ex : List Int} {bn : Nat} {A9 : Option Addr} {d9 : Nat} {b0 b1 b2 b3 b4 b5 b7 : Bool} {a0 : Act} (hs : a0.tmps.size = 97) : (R9.A wr b11 bm g t vC vM S f ex bn A9 d9 b0 b1 b2 b3 b4 b5 true b7 a0).eval (.tmp 53) = (.slice (some ⟨bn, 0, none⟩) 1 1) := by
  simp [R9.A, eval_putIf, eval_put, size_putIf, hs]
theorem R9.p7 (wr : World) (b11 bm g : Nat) (t : Int) (vC vM : Value) (S : List Int) (f : Int → Value) (ex : List Int) (bn : Nat) (A9 : Option Addr) (d9 : Nat) (A9' : Option Addr) (d9' : Nat) (b0 b1 b2 b3 b4 b5 b6 : Bool) (a0 : Act) :
    (R9.A wr b11 bm g t vC vM S f ex bn A9' d9' b0 b1 b2 b3 b4 b5 b6 false a0).put (some 54) (.slice A9 ex.length d9) = R9.A wr b11 bm g t vC vM S f ex bn A9 d9 b0 b1 b2 b3 b4 b5 b6 true a0 := by
  simp only [R9.A, putIf_put, ne_eq, Nat.reduceEqDiff, not_false_eq_true]
  rfl
theorem R9.e7 {wr : World} {b11 bm g : Nat} {t : Int} {vC vM : Value} {S : List Int} {f : Int → Value} {ex : List Int} {bn : Nat} {A9 : Option Addr} {d9 : Nat} {b0 b1 b2 b3 b4 b5 b6 : Bool} {a0 : Act} (hs : a0.tmps.size = 97) : (R9.A wr b11 bm g t vC vM S f ex bn A9 d9 b0 b1 b2 b3 b4 b5 b6 true a0).eval (.tmp 54) = (.slice A9 ex.length d9) := by
  simp [R9.A, eval_putIf, eval_put, size_putIf, hs]
theorem R9.z (wr : World) (b11 bm g : Nat) (t : Int) (vC vM : Value) (S : List Int) (f : Int → Value) (ex : List Int) (bn : Nat) (A9 : Option Addr) (d9 : Nat) (a0 : Act) : a0 = R9.A wr b11 bm g t vC vM S f ex bn A9 d9 false false false false false false false false a0 := rfl
theorem R9.size {wr : World} {b11 bm g : Nat} {t : Int} {vC vM : Value} {S : List Int} {f : Int → Value} {ex : List Int} {bn : Nat} {A9 : Option Addr} {d9 : Nat} {b0 b1 b2 b3 b4 b5 b6 b7 : Bool} {a0 : Act} : (R9.A wr b11 bm g t vC vM S f ex bn A9 d9 b0 b1 b2 b3 b4 b5 b6 b7 a0).tmps.size = a0.tmps.size := by
  simp [R9.A, size_putIf]
theorem R9.f0 {wr : World} {b11 bm g : Nat} {t : Int} {vC vM : Value} {S : List Int} {f : Int → Value} {ex : List Int} {bn : Nat} {A9 : Option Addr} {d9 : Nat} {b0 b1 b2 b3 b4 b5 b6 b7 : Bool} {a0 : Act} : (R9.A wr b11 bm g t vC vM S f ex bn A9 d9 b0 b1 b2 b3 b4 b5 b6 b7 a0).eval (.tmp 0) = a0.eval (.tmp 0) := by
  simp [R9.A, eval_putIf]
theorem R9.f1 {wr : World} {b11 bm g : Nat} {t : Int} {vC vM : Value} {S : List Int} {f : Int → Value} {ex : List Int} {bn : Nat} {A9 : Option Addr} {d9 : Nat} {b0 b1 b2 b3 b4 b5 b6 b7 : Bool} {a0 : Act} : (R9.A wr b11 bm g t vC vM S f ex bn A9 d9 b0 b1 b2 b3 b4 b5 b6 b7 a0).eval (.tmp 1) = a0.eval (.tmp 1) := by
  simp [R9.A, eval_putIf]
theorem R9.f2 {wr : World} {b11 bm g : Nat} {t : Int} {vC vM : Value} {S : List Int} {f : Int → Value} {ex : List Int} {bn : Nat} {A9 : Option Addr} {d9 : Nat} {b0 b1 b2 b3 b4 b5 b6 b7 : Bool} {a0 : Act} : (R9.A wr b11 bm g t vC vM S f ex bn A9 d9 b0 b1 b2 b3 b4 b5 b6 b7 a0).eval (.tmp 2) = a0.eval (.tmp 2) := by
  simp [R9.A, eval_putIf]
theorem R9.f11 {wr : World} {b11 bm g : Nat} {t : Int} {vC vM : Value} {S : List Int} {f : Int → Value} {ex : List Int} {bn : Nat} {A9 : Option Addr} {d9 : Nat} {b0 b1 b2 b3 b4 b5 b6 b7 : Bool} {a0 : Act} : (R9.A wr b11 bm g t vC vM S f ex bn A9 d9 b0 b1 b2 b3 b4 b5 b6 b7 a0).eval (.tmp 11) = a0.eval (.tmp 11) := by
  simp [R9.A, eval_putIf]
theorem R9.f13 {wr : World} {b11 bm g : Nat} {t : Int} {vC vM : Value} {S : List Int} {f : Int → Value} {ex : List Int} {bn : Nat} {A9 : Option Addr} {d9 : Nat} {b0 b1 b2 b3 b4 b5 b6 b7 : Bool} {a0 : Act} : (R9.A wr b11 bm g t vC vM S f ex bn A9 d9 b0 b1 b2 b3 b4 b5 b6 b7 a0).eval (.tmp 13) = a0.eval (.tmp 13) := by
  simp [R9.A, eval_putIf]
def R9.B (wr : World) (b11 bm g : Nat) (t : Int) (vC vM : Value) (S : List Int) (f : Int → Value) (ex : List Int) (a0 : Act) : Prop := a0.tmps.size = 97 ∧ a0.eval (.tmp 0) = (.pointer (some ⟨g, 0, none⟩)) ∧ a0.eval (.tmp 1) = vC ∧ a0.eval (.tmp 2) = vM ∧ a0.eval (.tmp 11) = (.pointer (some ⟨b11, 0, none⟩)) ∧ a0.eval (.tmp 13) = (.int .i64 t)
def R9.I (wr : World) (b11 bm g : Nat) (t : Int) (vC vM : Value) (S : List Int) (f : Int → Value) (ex : List Int) (bn : Nat) (A9 : Option Addr) (d9 : Nat) (b0 b1 b2 b3 b4 b5 b6 b7 b8 : Bool) (w : World) : Prop := (b8 = false → Fr [] wr w ∧ (b6 = true → b7 = false → Sl rInt (fun _ => True) w (.slice (some ⟨bn, 0, none⟩) 1 1) [t]) ∧ (b7 = true → w.ownsRow wr.heap.size 3 1 (.slice A9 ex.length d9) ex.length (I64s ex))) ∧ (b8 = true → Fr [bm] wr w ∧ VM w bm (add1 S t) (fun y => if y = t then (.slice A9 ex.length d9) else f y) ∧ w.ownsRow wr.heap.size 3 1 (.slice A9 ex.length d9) ex.length (I64s ex)) ∧ (b7 = true → b6 = true) ∧ (b8 = true → (b0 && b1 && b2 && b3 && b4 && b5 && b6 && b7) = true)
/-- What stays true inside the region, whatever has come up. -/
def R9.J (wr : World) (b11 bm g : Nat) (t : Int) (vC vM : Value) (S : List Int) (f : Int → Value) (ex : List Int) (a0 : Act) (l : Array Bool) (a : Act) (w : World) : Prop :=
  R9.B wr b11 bm g t vC vM S f ex a0 ∧ ∃ b0 b1 b2 b3 b4 b5 b6 b7 b8 bn A9 d9, l = #[b0, b1, b2, b3, b4, b5, b6, b7, b8] ∧ a = R9.A wr b11 bm g t vC vM S f ex bn A9 d9 b0 b1 b2 b3 b4 b5 b6 b7 a0 ∧ R9.I wr b11 bm g t vC vM S f ex bn A9 d9 b0 b1 b2 b3 b4 b5 b6 b7 b8 w
attribute [irreducible] R9.A

set_option maxRecDepth 100000 in
set_option maxHeartbeats 8000000 in
theorem res9 {Q : Exit → Act → World → Prop} {t3 t4 t5 t6 t7 t8 t9 t10 t12 t14 t15 t16 t17 t18 t19 t20 t21 t22 t23 t24 t25 t26 t27 t28 t29 t30 t31 t32 t33 t34 t35 t36 t37 t38 t39 t40 t41 t42 t43 t44 t45 t46 t47 t48 t49 t50 t51 t52 t53 t54 t55 t56 t57 t58 t59 t60 t61 t62 t63 t64 t65 t66 t67 t68 t69 t70 t71 t72 t73 t74 t75 t76 t77 t78 t79 t80 t81 t82 t83 t84 t85 t86 t87 t88 t89 t90 t91 t92 t93 t94 t95 t96 : Value} {wr : World} {b11 bm g : Nat} {t : Int} {vC vM : Value} {S : List Int} {f : Int → Value} {ex : List Int} (h11 : wr.cell? ⟨b11, 0, none⟩ = some (.map (some bm))) (hVM : VM wr bm S f) (hS : S.length ≤ 1000) (hwf : (Lit.int .i64 t).wf = true)
    (hcall : ∀ w v, Fr [] wr w → Sl rInt (fun _ => True) w v [t] → Calls Try.prog 23 #[.pointer (some ⟨g, 0, none⟩), vC, vM, v] w (NewInts w ex))
    (hQ : ∀ (u47 u48 u49 u50 u51 u52 u53 u54 : Value) (wx : World), (∃ A9 d9, Fr [bm] wr wx ∧ VM wx bm (add1 S t) (fun y => if y = t then (.slice A9 ex.length d9) else f y) ∧ wx.ownsRow wr.heap.size 3 1 (.slice A9 ex.length d9) ex.length (I64s ex)) → Q .normal ⟨#[(.pointer (some ⟨g, 0, none⟩)), vC, vM, t3, t4, t5, t6, t7, t8, t9, t10, (.pointer (some ⟨b11, 0, none⟩)), t12, (.int .i64 t), t14, t15, t16, t17, t18, t19, t20, t21, t22, t23, t24, t25, t26, t27, t28, t29, t30, t31, t32, t33, t34, t35, t36, t37, t38, t39, t40, t41, t42, t43, t44, t45, t46, u47, u48, u49, u50, u51, u52, u53, u54, t55, t56, t57, t58, t59, t60, t61, t62, t63, t64, t65, t66, t67, t68, t69, t70, t71, t72, t73, t74, t75, t76, t77, t78, t79, t80, t81, t82, t83, t84, t85, t86, t87, t88, t89, t90, t91, t92, t93, t94, t95, t96], []⟩ wx) :
    (regAt Try.f48 9).wp Try.prog Q ⟨#[(.pointer (some ⟨g, 0, none⟩)), vC, vM, t3, t4, t5, t6, t7, t8, t9, t10, (.pointer (some ⟨b11, 0, none⟩)), t12, (.int .i64 t), t14, t15, t16, t17, t18, t19, t20, t21, t22, t23, t24, t25, t26, t27, t28, t29, t30, t31, t32, t33, t34, t35, t36, t37, t38, t39, t40, t41, t42, t43, t44, t45, t46, t47, t48, t49, t50, t51, t52, t53, t54, t55, t56, t57, t58, t59, t60, t61, t62, t63, t64, t65, t66, t67, t68, t69, t70, t71, t72, t73, t74, t75, t76, t77, t78, t79, t80, t81, t82, t83, t84, t85, t86, t87, t88, t89, t90, t91, t92, t93, t94, t95, t96], []⟩ wr := by
  refine Code.wp_mono (Q := OnlyN (fun a w => Q .normal a w)) onlyN_imp ?_
  conv => arg 2; whnf
  dsimp only
  refine region_inv (by kernel_rfl) (fun a0 l a w => R9.J wr b11 bm g t vC vM S f ex a0 l a w) ?_ ?_ ?_
  · exact ⟨⟨rfl, rfl, rfl, rfl, rfl, rfl⟩, false, false, false, false, false, false, false, false, false, 0, none, 0, rfl, R9.z .., (fun _ => ⟨(Fr.refl _ _).drew, (fun h => by cases h), (fun h => by cases h)⟩), (fun h => by cases h), (fun h => by cases h), (fun h => by cases h)⟩
  · intro l a' w' hJ hi
    obtain ⟨-, b0, b1, b2, b3, b4, b5, b6, b7, b8, bn, A9, d9, rfl, rfl, hinv⟩ := hJ
    have t0 : b0 = true := ready_nil hi 0 (by decide) (by simp [Region.binds])
    have t1 : b1 = true := ready_nil hi 1 (by decide) (by simp [Region.binds])
    have t2 : b2 = true := ready_nil hi 2 (by decide) (by simp [Region.binds])
    have t3 : b3 = true := ready_nil hi 3 (by decide) (by simp [Region.binds])
    have t4 : b4 = true := ready_nil hi 4 (by decide) (by simp [Region.binds])
    have t5 : b5 = true := ready_nil hi 5 (by decide) (by simp [Region.binds])
    have t6 : b6 = true := ready_nil hi 6 (by decide) (by simp [Region.binds, t5])
    have t7 : b7 = true := ready_nil hi 7 (by decide) (by simp [Region.binds, t2, t3, t4, t6])
    have t8 : b8 = true := ready_nil hi 8 (by decide) (by simp [Region.binds, t0, t1, t2, t3, t4, t5, t6, t7])
    subst t0 t1 t2 t3 t4 t5 t6 t7 t8
    clear hi
    simp only [OnlyN, R9.A, putIf_true, Act.put, List.setIfInBounds_toArray, List.set_cons_zero, List.set_cons_succ]
    exact hQ _ _ _ _ _ _ _ _ _ ⟨_, _, hinv.2.1 rfl⟩
  · intro a0 l a' w' i hJ hi
    obtain ⟨hB, b0, b1, b2, b3, b4, b5, b6, b7, b8, bn, A9, d9, rfl, rfl, hinv⟩ := hJ
    have hBB := hB
    obtain ⟨hs0, g0, g1, g2, g11, g13⟩ := hBB
    obtain ⟨h10, hlf, haf⟩ := mem_ready hi
    clear hi
    have hc : i = 0 ∨ i = 1 ∨ i = 2 ∨ i = 3 ∨ i = 4 ∨ i = 5 ∨ i = 6 ∨ i = 7 ∨ i = 8 := by
      have : i < 9 := h10
      omega
    clear h10
    rcases hc with rfl | rfl | rfl | rfl | rfl | rfl | rfl | rfl | rfl
    · obtain rfl : b0 = false := by simpa using hlf
      refine wpOp_at rfl rfl ?_
      simp only [List.getElem_toArray, List.getElem_cons_zero, List.getElem_cons_succ]
      obtain ⟨h1, h2, h3, h4⟩ := hinv
      have e8 : b8 = false := by
        cases hb : b8 with
        | false => rfl
        | true => have := h4 hb; simp at this
      subst e8
      obtain ⟨q1, q2, q3⟩ := h1 rfl
      refine op_val (v := (.map (some bm))) ?_ (show R9.J wr b11 bm g t vC vM S f ex a0 _ _ _ from ⟨hB, true, b1, b2, b3, b4, b5, b6, b7, false, bn, A9, d9, rfl, R9.p0 .., (fun _ => ⟨q1, q2, q3⟩), (fun h => by cases h), h3, (fun h => by cases h)⟩)
      simp only [execOp, R9.f11, g11]
      have K0 := cell_on q1 h11
      go_simp
    · obtain rfl : b1 = false := by simpa using hlf
      refine wpOp_at rfl rfl ?_
      simp only [List.getElem_toArray, List.getElem_cons_zero, List.getElem_cons_succ]
      obtain ⟨h1, h2, h3, h4⟩ := hinv
      have e8 : b8 = false := by
        cases hb : b8 with
        | false => rfl
        | true => have := h4 hb; simp at this
      subst e8
      obtain ⟨q1, q2, q3⟩ := h1 rfl
      refine op_val (v := (.int .i64 t)) ?_ (show R9.J wr b11 bm g t vC vM S f ex a0 _ _ _ from ⟨hB, b0, true, b2, b3, b4, b5, b6, b7, false, bn, A9, d9, rfl, R9.p1 .., (fun _ => ⟨q1, q2, q3⟩), (fun h => by cases h), h3, (fun h => by cases h)⟩)
      simp only [execOp, R9.f13, g13]
      have K0 := cell_on q1 h11
      go_simp
    · obtain rfl : b2 = false := by simpa using hlf
      refine wpOp_at rfl rfl ?_
      simp only [List.getElem_toArray, List.getElem_cons_zero, List.getElem_cons_succ]
      obtain ⟨h1, h2, h3, h4⟩ := hinv
      have e8 : b8 = false := by
        cases hb : b8 with
        | false => rfl
        | true => have := h4 hb; simp at this
      subst e8
      obtain ⟨q1, q2, q3⟩ := h1 rfl
      refine op_val (v := (.pointer (some ⟨g, 0, none⟩))) ?_ (show R9.J wr b11 bm g t vC vM S f ex a0 _ _ _ from ⟨hB, b0, b1, true, b3, b4, b5, b6, b7, false, bn, A9, d9, rfl, R9.p2 .., (fun _ => ⟨q1, q2, q3⟩), (fun h => by cases h), h3, (fun h => by cases h)⟩)
      simp only [execOp, R9.f0, g0]
      have K0 := cell_on q1 h11
      go_simp
    · obtain rfl : b3 = false := by simpa using hlf
      refine wpOp_at rfl rfl ?_
      simp only [List.getElem_toArray, List.getElem_cons_zero, List.getElem_cons_succ]
      obtain ⟨h1, h2, h3, h4⟩ := hinv
      have e8 : b8 = false := by
        cases hb : b8 with
        | false => rfl
        | true => have := h4 hb; simp at this
      subst e8
      obtain ⟨q1, q2, q3⟩ := h1 rfl
      refine op_val (v := vC) ?_ (show R9.J wr b11 bm g t vC vM S f ex a0 _ _ _ from ⟨hB, b0, b1, b2, true, b4, b5, b6, b7, false, bn, A9, d9, rfl, R9.p3 .., (fun _ => ⟨q1, q2, q3⟩), (fun h => by cases h), h3, (fun h => by cases h)⟩)
      simp only [execOp, R9.f1, g1]
      have K0 := cell_on q1 h11
      go_simp
    · obtain rfl : b4 = false := by simpa using hlf
      refine wpOp_at rfl rfl ?_
      simp only [List.getElem_toArray, List.getElem_cons_zero, List.getElem_cons_succ]
      obtain ⟨h1, h2, h3, h4⟩ := hinv
      have e8 : b8 = false := by
        cases hb : b8 with
        | false => rfl
        | true => have := h4 hb; simp at this
      subst e8
      obtain ⟨q1, q2, q3⟩ := h1 rfl
      refine op_val (v := vM) ?_ (show R9.J wr b11 bm g t vC vM S f ex a0 _ _ _ from ⟨hB, b0, b1, b2, b3, true, b5, b6, b7, false, bn, A9, d9, rfl, R9.p4 .., (fun _ => ⟨q1, q2, q3⟩), (fun h => by cases h), h3, (fun h => by cases h)⟩)
      simp only [execOp, R9.f2, g2]
      have K0 := cell_on q1 h11
      go_simp
    · obtain rfl : b5 = false := by simpa using hlf
      refine wpOp_at rfl rfl ?_
      simp only [List.getElem_toArray, List.getElem_cons_zero, List.getElem_cons_succ]
      obtain ⟨h1, h2, h3, h4⟩ := hinv
      have e8 : b8 = false := by
        cases hb : b8 with
        | false => rfl
        | true => have := h4 hb; simp at this
      subst e8
      obtain ⟨q1, q2, q3⟩ := h1 rfl
      refine op_val (v := (.int .i64 t)) ?_ (show R9.J wr b11 bm g t vC vM S f ex a0 _ _ _ from ⟨hB, b0, b1, b2, b3, b4, true, b6, b7, false, bn, A9, d9, rfl, R9.p5 .., (fun _ => ⟨q1, q2, q3⟩), (fun h => by cases h), h3, (fun h => by cases h)⟩)
      simp only [execOp, R9.f13, g13]
      have K0 := cell_on q1 h11
      go_simp
    · obtain rfl : b6 = false := by simpa using hlf
      refine wpOp_at rfl rfl ?_
      simp only [List.getElem_toArray, List.getElem_cons_zero, List.getElem_cons_succ]
      simp [Region.binds] at haf
      subst haf
      obtain ⟨h1, h2, h3, h4⟩ := hinv
      have e8 : b8 = false := by
        cases hb : b8 with
        | false => rfl
        | true => have := h4 hb; simp at this
      subst e8
      obtain ⟨q1, q2, q3⟩ := h1 rfl
      have e7 : b7 = false := by
        cases hb : b7 with
        | false => rfl
        | true => have := h3 hb; cases this
      subst e7
      refine op_run (v := .slice (some ⟨w'.heap.size, 0, none⟩) 1 1) (w' := w'.alloc (.cells #[.int .i64 t] 3)) ?_ (show R9.J wr b11 bm g t vC vM S f ex a0 _ _ _ from ⟨hB, b0, b1, b2, b3, b4, true, true, false, false, w'.heap.size, A9, d9, rfl, R9.p6 .., (fun _ => ⟨q1.alloc _, fun _ _ => ints_new w' [t] (by simp), (fun h => by cases h)⟩), (fun h => by cases h), (fun h => by cases h), (fun h => by cases h)⟩)
      simp only [execOp, List.map_toArray, List.map_cons, List.map_nil, R9.e5 hs0]
      go_simp
    · obtain rfl : b7 = false := by simpa using hlf
      refine wpOp_at rfl rfl ?_
      simp only [List.getElem_toArray, List.getElem_cons_zero, List.getElem_cons_succ]
      simp [Region.binds] at haf
      obtain ⟨a0, a1, a2, a3⟩ := haf
      subst a0 a1 a2 a3
      obtain ⟨h1, h2, h3, h4⟩ := hinv
      have e8 : b8 = false := by
        cases hb : b8 with
        | false => rfl
        | true => have := h4 hb; simp at this
      subst e8
      obtain ⟨q1, q2, q3⟩ := h1 rfl
      refine op_call (f := 23) rfl (vs := #[(.pointer (some ⟨g, 0, none⟩)), vC, vM, (.slice (some ⟨bn, 0, none⟩) 1 1)]) (by simp [R9.e2 hs0, R9.e3 hs0, R9.e4 hs0, R9.e6 hs0]) (fun w => enters_of Try.func23 (by kernel_rfl) rfl _ w) ?_
      refine (hcall w' _ q1 (q2 rfl rfl)).mono ?_
      rintro e w3 ⟨A, d, rfl, f3, own3⟩
      exact ⟨_, rfl, (show R9.J wr b11 bm g t vC vM S f ex a0 _ _ _ from ⟨hB, b0, b1, true, true, true, b5, true, true, false, bn, A, d, rfl, R9.p7 .., (fun _ => ⟨q1.trans' f3, (fun _ h => by cases h), fun _ => own_low own3 q1.size⟩), (fun h => by cases h), (fun _ => rfl), (fun h => by cases h)⟩)⟩
    · obtain rfl : b8 = false := by simpa using hlf
      refine wpOp_at rfl rfl ?_
      simp only [List.getElem_toArray, List.getElem_cons_zero, List.getElem_cons_succ]
      simp [Region.binds] at haf
      obtain ⟨a0, a1, a2, a3, a4, a5, a6, a7, a8, a9, a10⟩ := haf
      subst a0 a1 a2 a5 a6 a7 a8 a9
      obtain ⟨h1, h2, h3, h4⟩ := hinv
      obtain ⟨q1, q2, q3⟩ := h1 rfl
      have hvm := hVM.fr q1 (by simp)
      refine op_mapset _ _ _ rfl (b := bm) (S := S) (f := f) (x := t) (u := (.slice A9 ex.length d9)) (by simp only [R9.e0 hs0, R9.e1 hs0, R9.e7 hs0]) hvm hS (by simp only [R9.e0 hs0, R9.e1 hs0, R9.e7 hs0]) (by simp only [R9.e0 hs0, R9.e1 hs0, R9.e7 hs0]) hwf ?_
      intro w2 hV2 hf2
      have ho2 := own_fr (q3 rfl) hf2 (fun k hk => by
        have h1 := ((q3 rfl).lt k hk).1
        have h2 := hVM.lt
        simp
        omega)
      exact (show R9.J wr b11 bm g t vC vM S f ex a0 _ _ _ from ⟨hB, true, true, true, true, true, true, true, true, true, bn, A9, d9, rfl, rfl, (fun h => by cases h), (fun _ => ⟨q1.nil.trans hf2 (fun _ h _ => h), hV2, ho2⟩), (fun _ => rfl), (fun _ => rfl)⟩)
end Go.Proofs.Ytekfbafljilchaa
