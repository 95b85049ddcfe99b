/- lattice.Clone: a transition's rows (region 14; printed by r14.py). -/
import Derived.Test.YtekfbafljilchaaA4
import Derived.Test.YtekfbafljilchaaO0
import Derived.Shelf.Abstract
import Derived.Deep.DrawnRows
set_option linter.unusedVariables false
set_option linter.unusedSimpArgs false
namespace Go.Proofs.Ytekfbafljilchaa
open Go.RowKit Go.Lib
attribute [local go_sem ↓] Go.wp_at_zero Go.wp_at_succ
/-- The frame inside the region: what has come up lies in its slots. -/
def R14.A (wr : World) (B2 g b k cap n : Nat) (css : List (List Value)) (y0 y5 : Int) (y2 : ByteArray) (y4 : Bool) (A0 A1 : Option Addr) (d0 d1 : Nat) (l0 : List ByteArray) (l1 : List Int) (E0 : Option Addr) (e0 : Nat) (E1 : Option Addr) (e1 : Nat) (b0 b1 b2 b3 b4 b5 b6 b7 b8 b9 b10 b11 b12 b13 b14 b15 b16 b17 b18 b19 b20 b21 b23 b24 : Bool) (a0 : Act) : Act := putIf b0 91 (.pointer (some ⟨b, 4, none⟩)) (putIf b1 92 (.slice (some ⟨g, 0, none⟩) n cap) (putIf b2 93 (.int .i64 (k : Int)) (putIf b3 94 (.pointer (some ⟨b, 4, none⟩)) (putIf b4 95 (.slice (some ⟨g, 0, none⟩) n cap) (putIf b5 96 (.int .i64 (k : Int)) (putIf b6 97 (.pointer (some ⟨b, 4, none⟩)) (putIf b7 98 (.slice (some ⟨g, 0, none⟩) n cap) (putIf b8 99 (.int .i64 (k : Int)) (putIf b9 100 (.pointer (some ⟨g, k * 6, none⟩)) (putIf b10 101 (.pointer (some ⟨g, k * 6 + 1, none⟩)) (putIf b11 102 (.slice A0 l0.length d0) (putIf b12 103 (.slice E0 l0.length e0) (putIf b13 104 (.pointer (some ⟨b, 4, none⟩)) (putIf b14 105 (.slice (some ⟨g, 0, none⟩) n cap) (putIf b15 106 (.int .i64 (k : Int)) (putIf b16 107 (.pointer (some ⟨g, k * 6, none⟩)) (putIf b17 108 (.pointer (some ⟨g, k * 6 + 3, none⟩)) (putIf b18 109 (.slice A1 l1.length d1) (putIf b19 110 (.slice E1 l1.length e1) (putIf b20 111 (.pointer (some ⟨g, k * 6, none⟩)) (putIf b21 112 (.pointer (some ⟨g, k * 6 + 1, none⟩)) (putIf b23 113 (.pointer (some ⟨g, k * 6, none⟩)) (putIf b24 114 (.pointer (some ⟨g, k * 6 + 3, none⟩)) (a0))))))))))))))))))))))))
theorem R14.p0 (wr : World) (B2 g b k cap n : Nat) (css : List (List Value)) (y0 y5 : Int) (y2 : ByteArray) (y4 : Bool) (A0 A1 : Option Addr) (d0 d1 : Nat) (l0 : List ByteArray) (l1 : List Int) (E0 : Option Addr) (e0 : Nat) (E1 : Option Addr) (e1 : Nat)  (b1 b2 b3 b4 b5 b6 b7 b8 b9 b10 b11 b12 b13 b14 b15 b16 b17 b18 b19 b20 b21 b23 b24 : Bool) (a0 : Act) :
    (R14.A wr B2 g b k cap n css y0 y5 y2 y4 A0 A1 d0 d1 l0 l1 E0 e0 E1 e1 false b1 b2 b3 b4 b5 b6 b7 b8 b9 b10 b11 b12 b13 b14 b15 b16 b17 b18 b19 b20 b21 b23 b24 a0).put (some 91) (.pointer (some ⟨b, 4, none⟩)) = R14.A wr B2 g b k cap n css y0 y5 y2 y4 A0 A1 d0 d1 l0 l1 E0 e0 E1 e1 true b1 b2 b3 b4 b5 b6 b7 b8 b9 b10 b11 b12 b13 b14 b15 b16 b17 b18 b19 b20 b21 b23 b24 a0 := by
  simp only [R14.A, putIf_put, ne_eq, Nat.reduceEqDiff, not_false_eq_true]
  rfl
theorem R14.e0 {wr : World} {B2 g b k cap n : Nat} {css : List (List Value)} {y0 y5 : Int} {y2 : ByteArray} {y4 : Bool} {A0 A1 : Option Addr} {d0 d1 : Nat} {l0 : List ByteArray} {l1 : List Int} {E0 : Option Addr} {e0 : Nat} {E1 : Option Addr} {e1 : Nat} {b1 b2 b3 b4 b5 b6 b7 b8 b9 b10 b11 b12 b13 b14 b15 b16 b17 b18 b19 b20 b21 b23 b24 : Bool} {a0 : Act} (hs : a0.tmps.size = 204) : (R14.A wr B2 g b k cap n css y0 y5 y2 y4 A0 A1 d0 d1 l0 l1 E0 e0 E1 e1 true b1 b2 b3 b4 b5 b6 b7 b8 b9 b10 b11 b12 b13 b14 b15 b16 b17 b18 b19 b20 b21 b23 b24 a0).eval (.tmp 91) = (.pointer (some ⟨b, 4, none⟩)) := by
  simp [R14.A, eval_putIf, eval_put, size_putIf, hs]
theorem R14.p1 (wr : World) (B2 g b k cap n : Nat) (css : List (List Value)) (y0 y5 : Int) (y2 : ByteArray) (y4 : Bool) (A0 A1 : Option Addr) (d0 d1 : Nat) (l0 : List ByteArray) (l1 : List Int) (E0 : Option Addr) (e0 : Nat) (E1 : Option Addr) (e1 : Nat)  (b0 b2 b3 b4 b5 b6 b7 b8 b9 b10 b11 b12 b13 b14 b15 b16 b17 b18 b19 b20 b21 b23 b24 : Bool) (a0 : Act) :
    (R14.A wr B2 g b k cap n css y0 y5 y2 y4 A0 A1 d0 d1 l0 l1 E0 e0 E1 e1 b0 false b2 b3 b4 b5 b6 b7 b8 b9 b10 b11 b12 b13 b14 b15 b16 b17 b18 b19 b20 b21 b23 b24 a0).put (some 92) (.slice (some ⟨g, 0, none⟩) n cap) = R14.A wr B2 g b k cap n css y0 y5 y2 y4 A0 A1 d0 d1 l0 l1 E0 e0 E1 e1 b0 true b2 b3 b4 b5 b6 b7 b8 b9 b10 b11 b12 b13 b14 b15 b16 b17 b18 b19 b20 b21 b23 b24 a0 := by
  simp only [R14.A, putIf_put, ne_eq, Nat.reduceEqDiff, not_false_eq_true]
  rfl
theorem R14.e1 {wr : World} {B2 g b k cap n : Nat} {css : List (List Value)} {y0 y5 : Int} {y2 : ByteArray} {y4 : Bool} {A0 A1 : Option Addr} {d0 d1 : Nat} {l0 : List ByteArray} {l1 : List Int} {E0 : Option Addr} {e0 : Nat} {E1 : Option Addr} {e1 : Nat} {b0 b2 b3 b4 b5 b6 b7 b8 b9 b10 b11 b12 b13 b14 b15 b16 b17 b18 b19 b20 b21 b23 b24 : Bool} {a0 : Act} (hs : a0.tmps.size = 204) : (R14.A wr B2 g b k cap n css y0 y5 y2 y4 A0 A1 d0 d1 l0 l1 E0 e0 E1 e1 b0 true b2 b3 b4 b5 b6 b7 b8 b9 b10 b11 b12 b13 b14 b15 b16 b17 b18 b19 b20 b21 b23 b24 a0).eval (.tmp 92) = (.slice (some ⟨g, 0, none⟩) n cap) := by
  simp [R14.A, eval_putIf, eval_put, size_putIf, hs]
theorem R14.p2 (wr : World) (B2 g b k cap n : Nat) (css : List (List Value)) (y0 y5 : Int) (y2 : ByteArray) (y4 : Bool) (A0 A1 : Option Addr) (d0 d1 : Nat) (l0 : List ByteArray) (l1 : List Int) (E0 : Option Addr) (e0 : Nat) (E1 : Option Addr) (e1 : Nat)  (b0 b1 b3 b4 b5 b6 b7 b8 b9 b10 b11 b12 b13 b14 b15 b16 b17 b18 b19 b20 b21 b23 b24 : Bool) (a0 : Act) :
    (R14.A wr B2 g b k cap n css y0 y5 y2 y4 A0 A1 d0 d1 l0 l1 E0 e0 E1 e1 b0 b1 false b3 b4 b5 b6 b7 b8 b9 b10 b11 b12 b13 b14 b15 b16 b17 b18 b19 b20 b21 b23 b24 a0).put (some 93) (.int .i64 (k : Int)) = R14.A wr B2 g b k cap n css y0 y5 y2 y4 A0 A1 d0 d1 l0 l1 E0 e0 E1 e1 b0 b1 true b3 b4 b5 b6 b7 b8 b9 b10 b11 b12 b13 b14 b15 b16 b17 b18 b19 b20 b21 b23 b24 a0 := by
  simp only [R14.A, putIf_put, ne_eq, Nat.reduceEqDiff, not_false_eq_true]
  rfl
theorem R14.e2 {wr : World} {B2 g b k cap n : Nat} {css : List (List Value)} {y0 y5 : Int} {y2 : ByteArray} {y4 : Bool} {A0 A1 : Option Addr} {d0 d1 : Nat} {l0 : List ByteArray} {l1 : List Int} {E0 : Option Addr} {e0 : Nat} {E1 : Option Addr} {e1 : Nat} {b0 b1 b3 b4 b5 b6 b7 b8 b9 b10 b11 b12 b13 b14 b15 b16 b17 b18 b19 b20 b21 b23 b24 : Bool} {a0 : Act} (hs : a0.tmps.size = 204) : (R14.A wr B2 g b k cap n css y0 y5 y2 y4 A0 A1 d0 d1 l0 l1 E0 e0 E1 e1 b0 b1 true b3 b4 b5 b6 b7 b8 b9 b10 b11 b12 b13 b14 b15 b16 b17 b18 b19 b20 b21 b23 b24 a0).eval (.tmp 93) = (.int .i64 (k : Int)) := by
  simp [R14.A, eval_putIf, eval_put, size_putIf, hs]
theorem R14.p3 (wr : World) (B2 g b k cap n : Nat) (css : List (List Value)) (y0 y5 : Int) (y2 : ByteArray) (y4 : Bool) (A0 A1 : Option Addr) (d0 d1 : Nat) (l0 : List ByteArray) (l1 : List Int) (E0 : Option Addr) (e0 : Nat) (E1 : Option Addr) (e1 : Nat)  (b0 b1 b2 b4 b5 b6 b7 b8 b9 b10 b11 b12 b13 b14 b15 b16 b17 b18 b19 b20 b21 b23 b24 : Bool) (a0 : Act) :
    (R14.A wr B2 g b k cap n css y0 y5 y2 y4 A0 A1 d0 d1 l0 l1 E0 e0 E1 e1 b0 b1 b2 false b4 b5 b6 b7 b8 b9 b10 b11 b12 b13 b14 b15 b16 b17 b18 b19 b20 b21 b23 b24 a0).put (some 94) (.pointer (some ⟨b, 4, none⟩)) = R14.A wr B2 g b k cap n css y0 y5 y2 y4 A0 A1 d0 d1 l0 l1 E0 e0 E1 e1 b0 b1 b2 true b4 b5 b6 b7 b8 b9 b10 b11 b12 b13 b14 b15 b16 b17 b18 b19 b20 b21 b23 b24 a0 := by
  simp only [R14.A, putIf_put, ne_eq, Nat.reduceEqDiff, not_false_eq_true]
  rfl
theorem R14.e3 {wr : World} {B2 g b k cap n : Nat} {css : List (List Value)} {y0 y5 : Int} {y2 : ByteArray} {y4 : Bool} {A0 A1 : Option Addr} {d0 d1 : Nat} {l0 : List ByteArray} {l1 : List Int} {E0 : Option Addr} {e0 : Nat} {E1 : Option Addr} {e1 : Nat} {b0 b1 b2 b4 b5 b6 b7 b8 b9 b10 b11 b12 b13 b14 b15 b16 b17 b18 b19 b20 b21 b23 b24 : Bool} {a0 : Act} (hs : a0.tmps.size = 204) : (R14.A wr B2 g b k cap n css y0 y5 y2 y4 A0 A1 d0 d1 l0 l1 E0 e0 E1 e1 b0 b1 b2 true b4 b5 b6 b7 b8 b9 b10 b11 b12 b13 b14 b15 b16 b17 b18 b19 b20 b21 b23 b24 a0).eval (.tmp 94) = (.pointer (some ⟨b, 4, none⟩)) := by
  simp [R14.A, eval_putIf, eval_put, size_putIf, hs]
theorem R14.p4 (wr : World) (B2 g b k cap n : Nat) (css : List (List Value)) (y0 y5 : Int) (y2 : ByteArray) (y4 : Bool) (A0 A1 : Option Addr) (d0 d1 : Nat) (l0 : List ByteArray) (l1 : List Int) (E0 : Option Addr) (e0 : Nat) (E1 : Option Addr) (e1 : Nat)  (b0 b1 b2 b3 b5 b6 b7 b8 b9 b10 b11 b12 b13 b14 b15 b16 b17 b18 b19 b20 b21 b23 b24 : Bool) (a0 : Act) :
    (R14.A wr B2 g b k cap n css y0 y5 y2 y4 A0 A1 d0 d1 l0 l1 E0 e0 E1 e1 b0 b1 b2 b3 false b5 b6 b7 b8 b9 b10 b11 b12 b13 b14 b15 b16 b17 b18 b19 b20 b21 b23 b24 a0).put (some 95) (.slice (some ⟨g, 0, none⟩) n cap) = R14.A wr B2 g b k cap n css y0 y5 y2 y4 A0 A1 d0 d1 l0 l1 E0 e0 E1 e1 b0 b1 b2 b3 true b5 b6 b7 b8 b9 b10 b11 b12 b13 b14 b15 b16 b17 b18 b19 b20 b21 b23 b24 a0 := by
  simp only [R14.A, putIf_put, ne_eq, Nat.reduceEqDiff, not_false_eq_true]
  rfl
theorem R14.e4 {wr : World} {B2 g b k cap n : Nat} {css : List (List Value)} {y0 y5 : Int} {y2 : ByteArray} {y4 : Bool} {A0 A1 : Option Addr} {d0 d1 : Nat} {l0 : List ByteArray} {l1 : List Int} {E0 : Option Addr} {e0 : Nat} {E1 : Option Addr} {e1 : Nat} {b0 b1 b2 b3 b5 b6 b7 b8 b9 b10 b11 b12 b13 b14 b15 b16 b17 b18 b19 b20 b21 b23 b24 : Bool} {a0 : Act} (hs : a0.tmps.size = 204) : (R14.A wr B2 g b k cap n css y0 y5 y2 y4 A0 A1 d0 d1 l0 l1 E0 e0 E1 e1 b0 b1 b2 b3 true b5 b6 b7 b8 b9 b10 b11 b12 b13 b14 b15 b16 b17 b18 b19 b20 b21 b23 b24 a0).eval (.tmp 95) = (.slice (some ⟨g, 0, none⟩) n cap) := by
  simp [R14.A, eval_putIf, eval_put, size_putIf, hs]
theorem R14.p5 (wr : World) (B2 g b k cap n : Nat) (css : List (List Value)) (y0 y5 : Int) (y2 : ByteArray) (y4 : Bool) (A0 A1 : Option Addr) (d0 d1 : Nat) (l0 : List ByteArray) (l1 : List Int) (E0 : Option Addr) (e0 : Nat) (E1 : Option Addr) (e1 : Nat)  (b0 b1 b2 b3 b4 b6 b7 b8 b9 b10 b11 b12 b13 b14 b15 b16 b17 b18 b19 b20 b21 b23 b24 : Bool) (a0 : Act) :
    (R14.A wr B2 g b k cap n css y0 y5 y2 y4 A0 A1 d0 d1 l0 l1 E0 e0 E1 e1 b0 b1 b2 b3 b4 false b6 b7 b8 b9 b10 b11 b12 b13 b14 b15 b16 b17 b18 b19 b20 b21 b23 b24 a0).put (some 96) (.int .i64 (k : Int)) = R14.A wr B2 g b k cap n css y0 y5 y2 y4 A0 A1 d0 d1 l0 l1 E0 e0 E1 e1 b0 b1 b2 b3 b4 true b6 b7 b8 b9 b10 b11 b12 b13 b14 b15 b16 b17 b18 b19 b20 b21 b23 b24 a0 := by
  simp only [R14.A, putIf_put, ne_eq, Nat.reduceEqDiff, not_false_eq_true]
  rfl
theorem R14.e5 {wr : World} {B2 g b k cap n : Nat} {css : List (List Value)} {y0 y5 : Int} {y2 : ByteArray} {y4 : Bool} {A0 A1 : Option Addr} {d0 d1 : Nat} {l0 : List ByteArray} {l1 : List Int} {E0 : Option Addr} {e0 : Nat} {E1 : Option Addr} {e1 : Nat} {b0 b1 b2 b3 b4 b6 b7 b8 b9 b10 b11 b12 b13 b14 b15 b16 b17 b18 b19 b20 b21 b23 b24 : Bool} {a0 : Act} (hs : a0.tmps.size = 204) : (R14.A wr B2 g b k cap n css y0 y5 y2 y4 A0 A1 d0 d1 l0 l1 E0 e0 E1 e1 b0 b1 b2 b3 b4 true b6 b7 b8 b9 b10 b11 b12 b13 b14 b15 b16 b17 b18 b19 b20 b21 b23 b24 a0).eval (.tmp 96) = (.int .i64 (k : Int)) := by
  simp [R14.A, eval_putIf, eval_put, size_putIf, hs]
theorem R14.p6 (wr : World) (B2 g b k cap n : Nat) (css : List (List Value)) (y0 y5 : Int) (y2 : ByteArray) (y4 : Bool) (A0 A1 : Option Addr) (d0 d1 : Nat) (l0 : List ByteArray) (l1 : List Int) (E0 : Option Addr) (e0 : Nat) (E1 : Option Addr) (e1 : Nat)  (b0 b1 b2 b3 b4 b5 b7 b8 b9 b10 b11 b12 b13 b14 b15 b16 b17 b18 b19 b20 b21 b23 b24 : Bool) (a0 : Act) :
    (R14.A wr B2 g b k cap n css y0 y5 y2 y4 A0 A1 d0 d1 l0 l1 E0 e0 E1 e1 b0 b1 b2 b3 b4 b5 false b7 b8 b9 b10 b11 b12 b13 b14 b15 b16 b17 b18 b19 b20 b21 b23 b24 a0).put (some 97) (.pointer (some ⟨b, 4, none⟩)) = R14.A wr B2 g b k cap n css y0 y5 y2 y4 A0 A1 d0 d1 l0 l1 E0 e0 E1 e1 b0 b1 b2 b3 b4 b5 true b7 b8 b9 b10 b11 b12 b13 b14 b15 b16 b17 b18 b19 b20 b21 b23 b24 a0 := by
  simp only [R14.A, putIf_put, ne_eq, Nat.reduceEqDiff, not_false_eq_true]
  rfl
theorem R14.e6 {wr : World} {B2 g b k cap n : Nat} {css : List (List Value)} {y0 y5 : Int} {y2 : ByteArray} {y4 : Bool} {A0 A1 : Option Addr} {d0 d1 : Nat} {l0 : List ByteArray} {l1 : List Int} {E0 : Option Addr} {e0 : Nat} {E1 : Option Addr} {e1 : Nat} {b0 b1 b2 b3 b4 b5 b7 b8 b9 b10 b11 b12 b13 b14 b15 b16 b17 b18 b19 b20 b21 b23 b24 : Bool} {a0 : Act} (hs : a0.tmps.size = 204) : (R14.A wr B2 g b k cap n css y0 y5 y2 y4 A0 A1 d0 d1 l0 l1 E0 e0 E1 e1 b0 b1 b2 b3 b4 b5 true b7 b8 b9 b10 b11 b12 b13 b14 b15 b16 b17 b18 b19 b20 b21 b23 b24 a0).eval (.tmp 97) = (.pointer (some ⟨b, 4, none⟩)) := by
  simp [R14.A, eval_putIf, eval_put, size_putIf, hs]
theorem R14.p7 (wr : World) (B2 g b k cap n : Nat) (css : List (List Value)) (y0 y5 : Int) (y2 : ByteArray) (y4 : Bool) (A0 A1 : Option Addr) (d0 d1 : Nat) (l0 : List ByteArray) (l1 : List Int) (E0 : Option Addr) (e0 : Nat) (E1 : Option Addr) (e1 : Nat)  (b0 b1 b2 b3 b4 b5 b6 b8 b9 b10 b11 b12 b13 b14 b15 b16 b17 b18 b19 b20 b21 b23 b24 : Bool) (a0 : Act) :
    (R14.A wr B2 g b k cap n css y0 y5 y2 y4 A0 A1 d0 d1 l0 l1 E0 e0 E1 e1 b0 b1 b2 b3 b4 b5 b6 false b8 b9 b10 b11 b12 b13 b14 b15 b16 b17 b18 b19 b20 b21 b23 b24 a0).put (some 98) (.slice (some ⟨g, 0, none⟩) n cap) = R14.A wr B2 g b k cap n css y0 y5 y2 y4 A0 A1 d0 d1 l0 l1 E0 e0 E1 e1 b0 b1 b2 b3 b4 b5 b6 true b8 b9 b10 b11 b12 b13 b14 b15 b16 b17 b18 b19 b20 b21 b23 b24 a0 := by
  simp only [R14.A, putIf_put, ne_eq, Nat.reduceEqDiff, not_false_eq_true]
  rfl
theorem R14.e7 {wr : World} {B2 g b k cap n : Nat} {css : List (List Value)} {y0 y5 : Int} {y2 : ByteArray} {y4 : Bool} {A0 A1 : Option Addr} {d0 d1 : Nat} {l0 : List ByteArray} {l1 : List Int} {E0 : Option Addr} {e0 : Nat} {E1 : Option Addr} {e1 : Nat} {b0 b1 b2 b3 b4 b5 b6 b8 b9 b10 b11 b12 b13 b14 b15 b16 b17 b18 b19 b20 b21 b23 b24 : Bool} {a0 : Act} (hs : a0.tmps.size = 204) : (R14.A wr B2 g b k cap n css y0 y5 y2 y4 A0 A1 d0 d1 l0 l1 E0 e0 E1 e1 b0 b1 b2 b3 b4 b5 b6 true b8 b9 b10 b11 b12 b13 b14 b15 b16 b17 b18 b19 b20 b21 b23 b24 a0).eval (.tmp 98) = (.slice (some ⟨g, 0, none⟩) n cap) := by
  simp [R14.A, eval_putIf, eval_put, size_putIf, hs]
theorem R14.p8 (wr : World) (B2 g b k cap n : Nat) (css : List (List Value)) (y0 y5 : Int) (y2 : ByteArray) (y4 : Bool) (A0 A1 : Option Addr) (d0 d1 : Nat) (l0 : List ByteArray) (l1 : List Int) (E0 : Option Addr) (e0 : Nat) (E1 : Option Addr) (e1 : Nat)  (b0 b1 b2 b3 b4 b5 b6 b7 b9 b10 b11 b12 b13 b14 b15 b16 b17 b18 b19 b20 b21 b23 b24 : Bool) (a0 : Act) :
    (R14.A wr B2 g b k cap n css y0 y5 y2 y4 A0 A1 d0 d1 l0 l1 E0 e0 E1 e1 b0 b1 b2 b3 b4 b5 b6 b7 false b9 b10 b11 b12 b13 b14 b15 b16 b17 b18 b19 b20 b21 b23 b24 a0).put (some 99) (.int .i64 (k : Int)) = R14.A wr B2 g b k cap n css y0 y5 y2 y4 A0 A1 d0 d1 l0 l1 E0 e0 E1 e1 b0 b1 b2 b3 b4 b5 b6 b7 true b9 b10 b11 b12 b13 b14 b15 b16 b17 b18 b19 b20 b21 b23 b24 a0 := by
  simp only [R14.A, putIf_put, ne_eq, Nat.reduceEqDiff, not_false_eq_true]
  rfl
theorem R14.e8 {wr : World} {B2 g b k cap n : Nat} {css : List (List Value)} {y0 y5 : Int} {y2 : ByteArray} {y4 : Bool} {A0 A1 : Option Addr} {d0 d1 : Nat} {l0 : List ByteArray} {l1 : List Int} {E0 : Option Addr} {e0 : Nat} {E1 : Option Addr} {e1 : Nat} {b0 b1 b2 b3 b4 b5 b6 b7 b9 b10 b11 b12 b13 b14 b15 b16 b17 b18 b19 b20 b21 b23 b24 : Bool} {a0 : Act} (hs : a0.tmps.size = 204) : (R14.A wr B2 g b k cap n css y0 y5 y2 y4 A0 A1 d0 d1 l0 l1 E0 e0 E1 e1 b0 b1 b2 b3 b4 b5 b6 b7 true b9 b10 b11 b12 b13 b14 b15 b16 b17 b18 b19 b20 b21 b23 b24 a0).eval (.tmp 99) = (.int .i64 (k : Int)) := by
  simp [R14.A, eval_putIf, eval_put, size_putIf, hs]
theorem R14.p9 (wr : World) (B2 g b k cap n : Nat) (css : List (List Value)) (y0 y5 : Int) (y2 : ByteArray) (y4 : Bool) (A0 A1 : Option Addr) (d0 d1 : Nat) (l0 : List ByteArray) (l1 : List Int) (E0 : Option Addr) (e0 : Nat) (E1 : Option Addr) (e1 : Nat)  (b0 b1 b2 b3 b4 b5 b6 b7 b8 b10 b11 b12 b13 b14 b15 b16 b17 b18 b19 b20 b21 b23 b24 : Bool) (a0 : Act) :
    (R14.A wr B2 g b k cap n css y0 y5 y2 y4 A0 A1 d0 d1 l0 l1 E0 e0 E1 e1 b0 b1 b2 b3 b4 b5 b6 b7 b8 false b10 b11 b12 b13 b14 b15 b16 b17 b18 b19 b20 b21 b23 b24 a0).put (some 100) (.pointer (some ⟨g, k * 6, none⟩)) = R14.A wr B2 g b k cap n css y0 y5 y2 y4 A0 A1 d0 d1 l0 l1 E0 e0 E1 e1 b0 b1 b2 b3 b4 b5 b6 b7 b8 true b10 b11 b12 b13 b14 b15 b16 b17 b18 b19 b20 b21 b23 b24 a0 := by
  simp only [R14.A, putIf_put, ne_eq, Nat.reduceEqDiff, not_false_eq_true]
  rfl
theorem R14.e9 {wr : World} {B2 g b k cap n : Nat} {css : List (List Value)} {y0 y5 : Int} {y2 : ByteArray} {y4 : Bool} {A0 A1 : Option Addr} {d0 d1 : Nat} {l0 : List ByteArray} {l1 : List Int} {E0 : Option Addr} {e0 : Nat} {E1 : Option Addr} {e1 : Nat} {b0 b1 b2 b3 b4 b5 b6 b7 b8 b10 b11 b12 b13 b14 b15 b16 b17 b18 b19 b20 b21 b23 b24 : Bool} {a0 : Act} (hs : a0.tmps.size = 204) : (R14.A wr B2 g b k cap n css y0 y5 y2 y4 A0 A1 d0 d1 l0 l1 E0 e0 E1 e1 b0 b1 b2 b3 b4 b5 b6 b7 b8 true b10 b11 b12 b13 b14 b15 b16 b17 b18 b19 b20 b21 b23 b24 a0).eval (.tmp 100) = (.pointer (some ⟨g, k * 6, none⟩)) := by
  simp [R14.A, eval_putIf, eval_put, size_putIf, hs]
theorem R14.p10 (wr : World) (B2 g b k cap n : Nat) (css : List (List Value)) (y0 y5 : Int) (y2 : ByteArray) (y4 : Bool) (A0 A1 : Option Addr) (d0 d1 : Nat) (l0 : List ByteArray) (l1 : List Int) (E0 : Option Addr) (e0 : Nat) (E1 : Option Addr) (e1 : Nat)  (b0 b1 b2 b3 b4 b5 b6 b7 b8 b9 b11 b12 b13 b14 b15 b16 b17 b18 b19 b20 b21 b23 b24 : Bool) (a0 : Act) :
    (R14.A wr B2 g b k cap n css y0 y5 y2 y4 A0 A1 d0 d1 l0 l1 E0 e0 E1 e1 b0 b1 b2 b3 b4 b5 b6 b7 b8 b9 false b11 b12 b13 b14 b15 b16 b17 b18 b19 b20 b21 b23 b24 a0).put (some 101) (.pointer (some ⟨g, k * 6 + 1, none⟩)) = R14.A wr B2 g b k cap n css y0 y5 y2 y4 A0 A1 d0 d1 l0 l1 E0 e0 E1 e1 b0 b1 b2 b3 b4 b5 b6 b7 b8 b9 true b11 b12 b13 b14 b15 b16 b17 b18 b19 b20 b21 b23 b24 a0 := by
  simp only [R14.A, putIf_put, ne_eq, Nat.reduceEqDiff, not_false_eq_true]
  rfl
theorem R14.e10 {wr : World} {B2 g b k cap n : Nat} {css : List (List Value)} {y0 y5 : Int} {y2 : ByteArray} {y4 : Bool} {A0 A1 : Option Addr} {d0 d1 : Nat} {l0 : List ByteArray} {l1 : List Int} {E0 : Option Addr} {e0 : Nat} {E1 : Option Addr} {e1 : Nat} {b0 b1 b2 b3 b4 b5 b6 b7 b8 b9 b11 b12 b13 b14 b15 b16 b17 b18 b19 b20 b21 b23 b24 : Bool} {a0 : Act} (hs : a0.tmps.size = 204) : (R14.A wr B2 g b k cap n css y0 y5 y2 y4 A0 A1 d0 d1 l0 l1 E0 e0 E1 e1 b0 b1 b2 b3 b4 b5 b6 b7 b8 b9 true b11 b12 b13 b14 b15 b16 b17 b18 b19 b20 b21 b23 b24 a0).eval (.tmp 101) = (.pointer (some ⟨g, k * 6 + 1, none⟩)) := by
  simp [R14.A, eval_putIf, eval_put, size_putIf, hs]
theorem R14.p11 (wr : World) (B2 g b k cap n : Nat) (css : List (List Value)) (y0 y5 : Int) (y2 : ByteArray) (y4 : Bool) (A0 A1 : Option Addr) (d0 d1 : Nat) (l0 : List ByteArray) (l1 : List Int) (E0 : Option Addr) (e0 : Nat) (E1 : Option Addr) (e1 : Nat)  (b0 b1 b2 b3 b4 b5 b6 b7 b8 b9 b10 b12 b13 b14 b15 b16 b17 b18 b19 b20 b21 b23 b24 : Bool) (a0 : Act) :
    (R14.A wr B2 g b k cap n css y0 y5 y2 y4 A0 A1 d0 d1 l0 l1 E0 e0 E1 e1 b0 b1 b2 b3 b4 b5 b6 b7 b8 b9 b10 false b12 b13 b14 b15 b16 b17 b18 b19 b20 b21 b23 b24 a0).put (some 102) (.slice A0 l0.length d0) = R14.A wr B2 g b k cap n css y0 y5 y2 y4 A0 A1 d0 d1 l0 l1 E0 e0 E1 e1 b0 b1 b2 b3 b4 b5 b6 b7 b8 b9 b10 true b12 b13 b14 b15 b16 b17 b18 b19 b20 b21 b23 b24 a0 := by
  simp only [R14.A, putIf_put, ne_eq, Nat.reduceEqDiff, not_false_eq_true]
  rfl
theorem R14.e11 {wr : World} {B2 g b k cap n : Nat} {css : List (List Value)} {y0 y5 : Int} {y2 : ByteArray} {y4 : Bool} {A0 A1 : Option Addr} {d0 d1 : Nat} {l0 : List ByteArray} {l1 : List Int} {E0 : Option Addr} {e0 : Nat} {E1 : Option Addr} {e1 : Nat} {b0 b1 b2 b3 b4 b5 b6 b7 b8 b9 b10 b12 b13 b14 b15 b16 b17 b18 b19 b20 b21 b23 b24 : Bool} {a0 : Act} (hs : a0.tmps.size = 204) : (R14.A wr B2 g b k cap n css y0 y5 y2 y4 A0 A1 d0 d1 l0 l1 E0 e0 E1 e1 b0 b1 b2 b3 b4 b5 b6 b7 b8 b9 b10 true b12 b13 b14 b15 b16 b17 b18 b19 b20 b21 b23 b24 a0).eval (.tmp 102) = (.slice A0 l0.length d0) := by
  simp [R14.A, eval_putIf, eval_put, size_putIf, hs]
theorem R14.p12 (wr : World) (B2 g b k cap n : Nat) (css : List (List Value)) (y0 y5 : Int) (y2 : ByteArray) (y4 : Bool) (A0 A1 : Option Addr) (d0 d1 : Nat) (l0 : List ByteArray) (l1 : List Int) (E0 : Option Addr) (e0 : Nat) (E1 : Option Addr) (e1 : Nat) (E0' : Option Addr) (e0' : Nat) (b0 b1 b2 b3 b4 b5 b6 b7 b8 b9 b10 b11 b13 b14 b15 b16 b17 b18 b19 b20 b21 b23 b24 : Bool) (a0 : Act) :
    (R14.A wr B2 g b k cap n css y0 y5 y2 y4 A0 A1 d0 d1 l0 l1 E0' e0' E1 e1 b0 b1 b2 b3 b4 b5 b6 b7 b8 b9 b10 b11 false b13 b14 b15 b16 b17 b18 b19 b20 b21 b23 b24 a0).put (some 103) (.slice E0 l0.length e0) = R14.A wr B2 g b k cap n css y0 y5 y2 y4 A0 A1 d0 d1 l0 l1 E0 e0 E1 e1 b0 b1 b2 b3 b4 b5 b6 b7 b8 b9 b10 b11 true b13 b14 b15 b16 b17 b18 b19 b20 b21 b23 b24 a0 := by
  simp only [R14.A, putIf_put, ne_eq, Nat.reduceEqDiff, not_false_eq_true]
  rfl
theorem R14.e12 {wr : World} {B2 g b k cap n : Nat} {css : List (List Value)} {y0 y5 : Int} {y2 : ByteArray} {y4 : Bool} {A0 A1 : Option Addr} {d0 d1 : Nat} {l0 : List ByteArray} {l1 : List Int} {E0 : Option Addr} {e0 : Nat} {E1 : Option Addr} {e1 : Nat} {b0 b1 b2 b3 b4 b5 b6 b7 b8 b9 b10 b11 b13 b14 b15 b16 b17 b18 b19 b20 b21 b23 b24 : Bool} {a0 : Act} (hs : a0.tmps.size = 204) : (R14.A wr B2 g b k cap n css y0 y5 y2 y4 A0 A1 d0 d1 l0 l1 E0 e0 E1 e1 b0 b1 b2 b3 b4 b5 b6 b7 b8 b9 b10 b11 true b13 b14 b15 b16 b17 b18 b19 b20 b21 b23 b24 a0).eval (.tmp 103) = (.slice E0 l0.length e0) := by
  simp [R14.A, eval_putIf, eval_put, size_putIf, hs]
theorem R14.p13 (wr : World) (B2 g b k cap n : Nat) (css : List (List Value)) (y0 y5 : Int) (y2 : ByteArray) (y4 : Bool) (A0 A1 : Option Addr) (d0 d1 : Nat) (l0 : List ByteArray) (l1 : List Int) (E0 : Option Addr) (e0 : Nat) (E1 : Option Addr) (e1 : Nat)  (b0 b1 b2 b3 b4 b5 b6 b7 b8 b9 b10 b11 b12 b14 b15 b16 b17 b18 b19 b20 b21 b23 b24 : Bool) (a0 : Act) :
    (R14.A wr B2 g b k cap n css y0 y5 y2 y4 A0 A1 d0 d1 l0 l1 E0 e0 E1 e1 b0 b1 b2 b3 b4 b5 b6 b7 b8 b9 b10 b11 b12 false b14 b15 b16 b17 b18 b19 b20 b21 b23 b24 a0).put (some 104) (.pointer (some ⟨b, 4, none⟩)) = R14.A wr B2 g b k cap n css y0 y5 y2 y4 A0 A1 d0 d1 l0 l1 E0 e0 E1 e1 b0 b1 b2 b3 b4 b5 b6 b7 b8 b9 b10 b11 b12 true b14 b15 b16 b17 b18 b19 b20 b21 b23 b24 a0 := by
  simp only [R14.A, putIf_put, ne_eq, Nat.reduceEqDiff, not_false_eq_true]
  rfl
theorem R14.e13 {wr : World} {B2 g b k cap n : Nat} {css : List (List Value)} {y0 y5 : Int} {y2 : ByteArray} {y4 : Bool} {A0 A1 : Option Addr} {d0 d1 : Nat} {l0 : List ByteArray} {l1 : List Int} {E0 : Option Addr} {e0 : Nat} {E1 : Option Addr} {e1 : Nat} {b0 b1 b2 b3 b4 b5 b6 b7 b8 b9 b10 b11 b12 b14 b15 b16 b17 b18 b19 b20 b21 b23 b24 : Bool} {a0 : Act} (hs : a0.tmps.size = 204) : (R14.A wr B2 g b k cap n css y0 y5 y2 y4 A0 A1 d0 d1 l0 l1 E0 e0 E1 e1 b0 b1 b2 b3 b4 b5 b6 b7 b8 b9 b10 b11 b12 true b14 b15 b16 b17 b18 b19 b20 b21 b23 b24 a0).eval (.tmp 104) = (.pointer (some ⟨b, 4, none⟩)) := by
  simp [R14.A, eval_putIf, eval_put, size_putIf, hs]
theorem R14.p14 (wr : World) (B2 g b k cap n : Nat) (css : List (List Value)) (y0 y5 : Int) (y2 : ByteArray) (y4 : Bool) (A0 A1 : Option Addr) (d0 d1 : Nat) (l0 : List ByteArray) (l1 : List Int) (E0 : Option Addr) (e0 : Nat) (E1 : Option Addr) (e1 : Nat)  (b0 b1 b2 b3 b4 b5 b6 b7 b8 b9 b10 b11 b12 b13 b15 b16 b17 b18 b19 b20 b21 b23 b24 : Bool) (a0 : Act) :
    (R14.A wr B2 g b k cap n css y0 y5 y2 y4 A0 A1 d0 d1 l0 l1 E0 e0 E1 e1 b0 b1 b2 b3 b4 b5 b6 b7 b8 b9 b10 b11 b12 b13 false b15 b16 b17 b18 b19 b20 b21 b23 b24 a0).put (some 105) (.slice (some ⟨g, 0, none⟩) n cap) = R14.A wr B2 g b k cap n css y0 y5 y2 y4 A0 A1 d0 d1 l0 l1 E0 e0 E1 e1 b0 b1 b2 b3 b4 b5 b6 b7 b8 b9 b10 b11 b12 b13 true b15 b16 b17 b18 b19 b20 b21 b23 b24 a0 := by
  simp only [R14.A, putIf_put, ne_eq, Nat.reduceEqDiff, not_false_eq_true]
  rfl
theorem R14.e14 {wr : World} {B2 g b k cap n : Nat} {css : List (List Value)} {y0 y5 : Int} {y2 : ByteArray} {y4 : Bool} {A0 A1 : Option Addr} {d0 d1 : Nat} {l0 : List ByteArray} {l1 : List Int} {E0 : Option Addr} {e0 : Nat} {E1 : Option Addr} {e1 : Nat} {b0 b1 b2 b3 b4 b5 b6 b7 b8 b9 b10 b11 b12 b13 b15 b16 b17 b18 b19 b20 b21 b23 b24 : Bool} {a0 : Act} (hs : a0.tmps.size = 204) : (R14.A wr B2 g b k cap n css y0 y5 y2 y4 A0 A1 d0 d1 l0 l1 E0 e0 E1 e1 b0 b1 b2 b3 b4 b5 b6 b7 b8 b9 b10 b11 b12 b13 true b15 b16 b17 b18 b19 b20 b21 b23 b24 a0).eval (.tmp 105) = (.slice (some ⟨g, 0, none⟩) n cap) := by
  simp [R14.A, eval_putIf, eval_put, size_putIf, hs]
theorem R14.p15 (wr : World) (B2 g b k cap n : Nat) (css : List (List Value)) (y0 y5 : Int) (y2 : ByteArray) (y4 : Bool) (A0 A1 : Option Addr) (d0 d1 : Nat) (l0 : List ByteArray) (l1 : List Int) (E0 : Option Addr) (e0 : Nat) (E1 : Option Addr) (e1 : Nat)  (b0 b1 b2 b3 b4 b5 b6 b7 b8 b9 b10 b11 b12 b13 b14 b16 b17 b18 b19 b20 b21 b23 b24 : Bool) (a0 : Act) :
    (R14.A wr B2 g b k cap n css y0 y5 y2 y4 A0 A1 d0 d1 l0 l1 E0 e0 E1 e1 b0 b1 b2 b3 b4 b5 b6 b7 b8 b9 b10 b11 b12 b13 b14 false b16 b17 b18 b19 b20 b21 b23 b24 a0).put (some 106) (.int .i64 (k : Int)) = R14.A wr B2 g b k cap n css y0 y5 y2 y4 A0 A1 d0 d1 l0 l1 E0 e0 E1 e1 b0 b1 b2 b3 b4 b5 b6 b7 b8 b9 b10 b11 b12 b13 b14 true b16 b17 b18 b19 b20 b21 b23 b24 a0 := by
  simp only [R14.A, putIf_put, ne_eq, Nat.reduceEqDiff, not_false_eq_true]
  rfl
theorem R14.e15 {wr : World} {B2 g b k cap n : Nat} {css : List (List Value)} {y0 y5 : Int} {y2 : ByteArray} {y4 : Bool} {A0 A1 : Option Addr} {d0 d1 : Nat} {l0 : List ByteArray} {l1 : List Int} {E0 : Option Addr} {e0 : Nat} {E1 : Option Addr} {e1 : Nat} {b0 b1 b2 b3 b4 b5 b6 b7 b8 b9 b10 b11 b12 b13 b14 b16 b17 b18 b19 b20 b21 b23 b24 : Bool} {a0 : Act} (hs : a0.tmps.size = 204) : (R14.A wr B2 g b k cap n css y0 y5 y2 y4 A0 A1 d0 d1 l0 l1 E0 e0 E1 e1 b0 b1 b2 b3 b4 b5 b6 b7 b8 b9 b10 b11 b12 b13 b14 true b16 b17 b18 b19 b20 b21 b23 b24 a0).eval (.tmp 106) = (.int .i64 (k : Int)) := by
  simp [R14.A, eval_putIf, eval_put, size_putIf, hs]
theorem R14.p16 (wr : World) (B2 g b k cap n : Nat) (css : List (List Value)) (y0 y5 : Int) (y2 : ByteArray) (y4 : Bool) (A0 A1 : Option Addr) (d0 d1 : Nat) (l0 : List ByteArray) (l1 : List Int) (E0 : Option Addr) (e0 : Nat) (E1 : Option Addr) (e1 : Nat)  (b0 b1 b2 b3 b4 b5 b6 b7 b8 b9 b10 b11 b12 b13 b14 b15 b17 b18 b19 b20 b21 b23 b24 : Bool) (a0 : Act) :
    (R14.A wr B2 g b k cap n css y0 y5 y2 y4 A0 A1 d0 d1 l0 l1 E0 e0 E1 e1 b0 b1 b2 b3 b4 b5 b6 b7 b8 b9 b10 b11 b12 b13 b14 b15 false b17 b18 b19 b20 b21 b23 b24 a0).put (some 107) (.pointer (some ⟨g, k * 6, none⟩)) = R14.A wr B2 g b k cap n css y0 y5 y2 y4 A0 A1 d0 d1 l0 l1 E0 e0 E1 e1 b0 b1 b2 b3 b4 b5 b6 b7 b8 b9 b10 b11 b12 b13 b14 b15 true b17 b18 b19 b20 b21 b23 b24 a0 := by
  simp only [R14.A, putIf_put, ne_eq, Nat.reduceEqDiff, not_false_eq_true]
  rfl
theorem R14.e16 {wr : World} {B2 g b k cap n : Nat} {css : List (List Value)} {y0 y5 : Int} {y2 : ByteArray} {y4 : Bool} {A0 A1 : Option Addr} {d0 d1 : Nat} {l0 : List ByteArray} {l1 : List Int} {E0 : Option Addr} {e0 : Nat} {E1 : Option Addr} {e1 : Nat} {b0 b1 b2 b3 b4 b5 b6 b7 b8 b9 b10 b11 b12 b13 b14 b15 b17 b18 b19 b20 b21 b23 b24 : Bool} {a0 : Act} (hs : a0.tmps.size = 204) : (R14.A wr B2 g b k cap n css y0 y5 y2 y4 A0 A1 d0 d1 l0 l1 E0 e0 E1 e1 b0 b1 b2 b3 b4 b5 b6 b7 b8 b9 b10 b11 b12 b13 b14 b15 true b17 b18 b19 b20 b21 b23 b24 a0).eval (.tmp 107) = (.pointer (some ⟨g, k * 6, none⟩)) := by
  simp [R14.A, eval_putIf, eval_put, size_putIf, hs]
theorem R14.p17 (wr : World) (B2 g b k cap n : Nat) (css : List (List Value)) (y0 y5 : Int) (y2 : ByteArray) (y4 : Bool) (A0 A1 : Option Addr) (d0 d1 : Nat) (l0 : List ByteArray) (l1 : List Int) (E0 : Option Addr) (e0 : Nat) (E1 : Option Addr) (e1 : Nat)  (b0 b1 b2 b3 b4 b5 b6 b7 b8 b9 b10 b11 b12 b13 b14 b15 b16 b18 b19 b20 b21 b23 b24 : Bool) (a0 : Act) :
    (R14.A wr B2 g b k cap n css y0 y5 y2 y4 A0 A1 d0 d1 l0 l1 E0 e0 E1 e1 b0 b1 b2 b3 b4 b5 b6 b7 b8 b9 b10 b11 b12 b13 b14 b15 b16 false b18 b19 b20 b21 b23 b24 a0).put (some 108) (.pointer (some ⟨g, k * 6 + 3, none⟩)) = R14.A wr B2 g b k cap n css y0 y5 y2 y4 A0 A1 d0 d1 l0 l1 E0 e0 E1 e1 b0 b1 b2 b3 b4 b5 b6 b7 b8 b9 b10 b11 b12 b13 b14 b15 b16 true b18 b19 b20 b21 b23 b24 a0 := by
  simp only [R14.A, putIf_put, ne_eq, Nat.reduceEqDiff, not_false_eq_true]
  rfl
theorem R14.e17 {wr : World} {B2 g b k cap n : Nat} {css : List (List Value)} {y0 y5 : Int} {y2 : ByteArray} {y4 : Bool} {A0 A1 : Option Addr} {d0 d1 : Nat} {l0 : List ByteArray} {l1 : List Int} {E0 : Option Addr} {e0 : Nat} {E1 : Option Addr} {e1 : Nat} {b0 b1 b2 b3 b4 b5 b6 b7 b8 b9 b10 b11 b12 b13 b14 b15 b16 b18 b19 b20 b21 b23 b24 : Bool} {a0 : Act} (hs : a0.tmps.size = 204) : (R14.A wr B2 g b k cap n css y0 y5 y2 y4 A0 A1 d0 d1 l0 l1 E0 e0 E1 e1 b0 b1 b2 b3 b4 b5 b6 b7 b8 b9 b10 b11 b12 b13 b14 b15 b16 true b18 b19 b20 b21 b23 b24 a0).eval (.tmp 108) = (.pointer (some ⟨g, k * 6 + 3, none⟩)) := by
  simp [R14.A, eval_putIf, eval_put, size_putIf, hs]
theorem R14.p18 (wr : World) (B2 g b k cap n : Nat) (css : List (List Value)) (y0 y5 : Int) (y2 : ByteArray) (y4 : Bool) (A0 A1 : Option Addr) (d0 d1 : Nat) (l0 : List ByteArray) (l1 : List Int) (E0 : Option Addr) (e0 : Nat) (E1 : Option Addr) (e1 : Nat)  (b0 b1 b2 b3 b4 b5 b6 b7 b8 b9 b10 b11 b12 b13 b14 b15 b16 b17 b19 b20 b21 b23 b24 : Bool) (a0 : Act) :
    (R14.A wr B2 g b k cap n css y0 y5 y2 y4 A0 A1 d0 d1 l0 l1 E0 e0 E1 e1 b0 b1 b2 b3 b4 b5 b6 b7 b8 b9 b10 b11 b12 b13 b14 b15 b16 b17 false b19 b20 b21 b23 b24 a0).put (some 109) (.slice A1 l1.length d1) = R14.A wr B2 g b k cap n css y0 y5 y2 y4 A0 A1 d0 d1 l0 l1 E0 e0 E1 e1 b0 b1 b2 b3 b4 b5 b6 b7 b8 b9 b10 b11 b12 b13 b14 b15 b16 b17 true b19 b20 b21 b23 b24 a0 := by
  simp only [R14.A, putIf_put, ne_eq, Nat.reduceEqDiff, not_false_eq_true]
  rfl
theorem R14.e18 {wr : World} {B2 g b k cap n : Nat} {css : List (List Value)} {y0 y5 : Int} {y2 : ByteArray} {y4 : Bool} {A0 A1 : Option Addr} {d0 d1 : Nat} {l0 : List ByteArray} {l1 : List Int} {E0 : Option Addr} {e0 : Nat} {E1 : Option Addr} {e1 : Nat} {b0 b1 b2 b3 b4 b5 b6 b7 b8 b9 b10 b11 b12 b13 b14 b15 b16 b17 b19 b20 b21 b23 b24 : Bool} {a0 : Act} (hs : a0.tmps.size = 204) : (R14.A wr B2 g b k cap n css y0 y5 y2 y4 A0 A1 d0 d1 l0 l1 E0 e0 E1 e1 b0 b1 b2 b3 b4 b5 b6 b7 b8 b9 b10 b11 b12 b13 b14 b15 b16 b17 true b19 b20 b21 b23 b24 a0).eval (.tmp 109) = (.slice A1 l1.length d1) := by
  simp [R14.A, eval_putIf, eval_put, size_putIf, hs]
theorem R14.p19 (wr : World) (B2 g b k cap n : Nat) (css : List (List Value)) (y0 y5 : Int) (y2 : ByteArray) (y4 : Bool) (A0 A1 : Option Addr) (d0 d1 : Nat) (l0 : List ByteArray) (l1 : List Int) (E0 : Option Addr) (e0 : Nat) (E1 : Option Addr) (e1 : Nat) (E1' : Option Addr) (e1' : Nat) (b0 b1 b2 b3 b4 b5 b6 b7 b8 b9 b10 b11 b12 b13 b14 b15 b16 b17 b18 b20 b21 b23 b24 : Bool) (a0 : Act) :
    (R14.A wr B2 g b k cap n css y0 y5 y2 y4 A0 A1 d0 d1 l0 l1 E0 e0 E1' e1' b0 b1 b2 b3 b4 b5 b6 b7 b8 b9 b10 b11 b12 b13 b14 b15 b16 b17 b18 false b20 b21 b23 b24 a0).put (some 110) (.slice E1 l1.length e1) = R14.A wr B2 g b k cap n css y0 y5 y2 y4 A0 A1 d0 d1 l0 l1 E0 e0 E1 e1 b0 b1 b2 b3 b4 b5 b6 b7 b8 b9 b10 b11 b12 b13 b14 b15 b16 b17 b18 true b20 b21 b23 b24 a0 := by
  simp only [R14.A, putIf_put, ne_eq, Nat.reduceEqDiff, not_false_eq_true]
  rfl
theorem R14.e19 {wr : World} {B2 g b k cap n : Nat} {css : List (List Value)} {y0 y5 : Int} {y2 : ByteArray} {y4 : Bool} {A0 A1 : Option Addr} {d0 d1 : Nat} {l0 : List ByteArray} {l1 : List Int} {E0 : Option Addr} {e0 : Nat} {E1 : Option Addr} {e1 : Nat} {b0 b1 b2 b3 b4 b5 b6 b7 b8 b9 b10 b11 b12 b13 b14 b15 b16 b17 b18 b20 b21 b23 b24 : Bool} {a0 : Act} (hs : a0.tmps.size = 204) : (R14.A wr B2 g b k cap n css y0 y5 y2 y4 A0 A1 d0 d1 l0 l1 E0 e0 E1 e1 b0 b1 b2 b3 b4 b5 b6 b7 b8 b9 b10 b11 b12 b13 b14 b15 b16 b17 b18 true b20 b21 b23 b24 a0).eval (.tmp 110) = (.slice E1 l1.length e1) := by
  simp [R14.A, eval_putIf, eval_put, size_putIf, hs]
theorem R14.p20 (wr : World) (B2 g b k cap n : Nat) (css : List (List Value)) (y0 y5 : Int) (y2 : ByteArray) (y4 : Bool) (A0 A1 : Option Addr) (d0 d1 : Nat) (l0 : List ByteArray) (l1 : List Int) (E0 : Option Addr) (e0 : Nat) (E1 : Option Addr) (e1 : Nat)  (b0 b1 b2 b3 b4 b5 b6 b7 b8 b9 b10 b11 b12 b13 b14 b15 b16 b17 b18 b19 b21 b23 b24 : Bool) (a0 : Act) :
    (R14.A wr B2 g b k cap n css y0 y5 y2 y4 A0 A1 d0 d1 l0 l1 E0 e0 E1 e1 b0 b1 b2 b3 b4 b5 b6 b7 b8 b9 b10 b11 b12 b13 b14 b15 b16 b17 b18 b19 false b21 b23 b24 a0).put (some 111) (.pointer (some ⟨g, k * 6, none⟩)) = R14.A wr B2 g b k cap n css y0 y5 y2 y4 A0 A1 d0 d1 l0 l1 E0 e0 E1 e1 b0 b1 b2 b3 b4 b5 b6 b7 b8 b9 b10 b11 b12 b13 b14 b15 b16 b17 b18 b19 true b21 b23 b24 a0 := by
  simp only [R14.A, putIf_put, ne_eq, Nat.reduceEqDiff, not_false_eq_true]
  rfl
theorem R14.e20 {wr : World} {B2 g b k cap n : Nat} {css : List (List Value)} {y0 y5 : Int} {y2 : ByteArray} {y4 : Bool} {A0 A1 : Option Addr} {d0 d1 : Nat} {l0 : List ByteArray} {l1 : List Int} {E0 : Option Addr} {e0 : Nat} {E1 : Option Addr} {e1 : Nat} {b0 b1 b2 b3 b4 b5 b6 b7 b8 b9 b10 b11 b12 b13 b14 b15 b16 b17 b18 b19 b21 b23 b24 : Bool} {a0 : Act} (hs : a0.tmps.size = 204) : (R14.A wr B2 g b k cap n css y0 y5 y2 y4 A0 A1 d0 d1 l0 l1 E0 e0 E1 e1 b0 b1 b2 b3 b4 b5 b6 b7 b8 b9 b10 b11 b12 b13 b14 b15 b16 b17 b18 b19 true b21 b23 b24 a0).eval (.tmp 111) = (.pointer (some ⟨g, k * 6, none⟩)) := by
  simp [R14.A, eval_putIf, eval_put, size_putIf, hs]
theorem R14.p21 (wr : World) (B2 g b k cap n : Nat) (css : List (List Value)) (y0 y5 : Int) (y2 : ByteArray) (y4 : Bool) (A0 A1 : Option Addr) (d0 d1 : Nat) (l0 : List ByteArray) (l1 : List Int) (E0 : Option Addr) (e0 : Nat) (E1 : Option Addr) (e1 : Nat)  (b0 b1 b2 b3 b4 b5 b6 b7 b8 b9 b10 b11 b12 b13 b14 b15 b16 b17 b18 b19 b20 b23 b24 : Bool) (a0 : Act) :
    (R14.A wr B2 g b k cap n css y0 y5 y2 y4 A0 A1 d0 d1 l0 l1 E0 e0 E1 e1 b0 b1 b2 b3 b4 b5 b6 b7 b8 b9 b10 b11 b12 b13 b14 b15 b16 b17 b18 b19 b20 false b23 b24 a0).put (some 112) (.pointer (some ⟨g, k * 6 + 1, none⟩)) = R14.A wr B2 g b k cap n css y0 y5 y2 y4 A0 A1 d0 d1 l0 l1 E0 e0 E1 e1 b0 b1 b2 b3 b4 b5 b6 b7 b8 b9 b10 b11 b12 b13 b14 b15 b16 b17 b18 b19 b20 true b23 b24 a0 := by
  simp only [R14.A, putIf_put, ne_eq, Nat.reduceEqDiff, not_false_eq_true]
  rfl
theorem R14.e21 {wr : World} {B2 g b k cap n : Nat} {css : List (List Value)} {y0 y5 : Int} {y2 : ByteArray} {y4 : Bool} {A0 A1 : Option Addr} {d0 d1 : Nat} {l0 : List ByteArray} {l1 : List Int} {E0 : Option Addr} {e0 : Nat} {E1 : Option Addr} {e1 : Nat} {b0 b1 b2 b3 b4 b5 b6 b7 b8 b9 b10 b11 b12 b13 b14 b15 b16 b17 b18 b19 b20 b23 b24 : Bool} {a0 : Act} (hs : a0.tmps.size = 204) : (R14.A wr B2 g b k cap n css y0 y5 y2 y4 A0 A1 d0 d1 l0 l1 E0 e0 E1 e1 b0 b1 b2 b3 b4 b5 b6 b7 b8 b9 b10 b11 b12 b13 b14 b15 b16 b17 b18 b19 b20 true b23 b24 a0).eval (.tmp 112) = (.pointer (some ⟨g, k * 6 + 1, none⟩)) := by
  simp [R14.A, eval_putIf, eval_put, size_putIf, hs]
theorem R14.p23 (wr : World) (B2 g b k cap n : Nat) (css : List (List Value)) (y0 y5 : Int) (y2 : ByteArray) (y4 : Bool) (A0 A1 : Option Addr) (d0 d1 : Nat) (l0 : List ByteArray) (l1 : List Int) (E0 : Option Addr) (e0 : Nat) (E1 : Option Addr) (e1 : Nat)  (b0 b1 b2 b3 b4 b5 b6 b7 b8 b9 b10 b11 b12 b13 b14 b15 b16 b17 b18 b19 b20 b21 b24 : Bool) (a0 : Act) :
    (R14.A wr B2 g b k cap n css y0 y5 y2 y4 A0 A1 d0 d1 l0 l1 E0 e0 E1 e1 b0 b1 b2 b3 b4 b5 b6 b7 b8 b9 b10 b11 b12 b13 b14 b15 b16 b17 b18 b19 b20 b21 false b24 a0).put (some 113) (.pointer (some ⟨g, k * 6, none⟩)) = R14.A wr B2 g b k cap n css y0 y5 y2 y4 A0 A1 d0 d1 l0 l1 E0 e0 E1 e1 b0 b1 b2 b3 b4 b5 b6 b7 b8 b9 b10 b11 b12 b13 b14 b15 b16 b17 b18 b19 b20 b21 true b24 a0 := by
  simp only [R14.A, putIf_put, ne_eq, Nat.reduceEqDiff, not_false_eq_true]
  rfl
theorem R14.e23 {wr : World} {B2 g b k cap n : Nat} {css : List (List Value)} {y0 y5 : Int} {y2 : ByteArray} {y4 : Bool} {A0 A1 : Option Addr} {d0 d1 : Nat} {l0 : List ByteArray} {l1 : List Int} {E0 : Option Addr} {e0 : Nat} {E1 : Option Addr} {e1 : Nat} {b0 b1 b2 b3 b4 b5 b6 b7 b8 b9 b10 b11 b12 b13 b14 b15 b16 b17 b18 b19 b20 b21 b24 : Bool} {a0 : Act} (hs : a0.tmps.size = 204) : (R14.A wr B2 g b k cap n css y0 y5 y2 y4 A0 A1 d0 d1 l0 l1 E0 e0 E1 e1 b0 b1 b2 b3 b4 b5 b6 b7 b8 b9 b10 b11 b12 b13 b14 b15 b16 b17 b18 b19 b20 b21 true b24 a0).eval (.tmp 113) = (.pointer (some ⟨g, k * 6, none⟩)) := by
  simp [R14.A, eval_putIf, eval_put, size_putIf, hs]
theorem R14.p24 (wr : World) (B2 g b k cap n : Nat) (css : List (List Value)) (y0 y5 : Int) (y2 : ByteArray) (y4 : Bool) (A0 A1 : Option Addr) (d0 d1 : Nat) (l0 : List ByteArray) (l1 : List Int) (E0 : Option Addr) (e0 : Nat) (E1 : Option Addr) (e1 : Nat)  (b0 b1 b2 b3 b4 b5 b6 b7 b8 b9 b10 b11 b12 b13 b14 b15 b16 b17 b18 b19 b20 b21 b23 : Bool) (a0 : Act) :
    (R14.A wr B2 g b k cap n css y0 y5 y2 y4 A0 A1 d0 d1 l0 l1 E0 e0 E1 e1 b0 b1 b2 b3 b4 b5 b6 b7 b8 b9 b10 b11 b12 b13 b14 b15 b16 b17 b18 b19 b20 b21 b23 false a0).put (some 114) (.pointer (some ⟨g, k * 6 + 3, none⟩)) = R14.A wr B2 g b k cap n css y0 y5 y2 y4 A0 A1 d0 d1 l0 l1 E0 e0 E1 e1 b0 b1 b2 b3 b4 b5 b6 b7 b8 b9 b10 b11 b12 b13 b14 b15 b16 b17 b18 b19 b20 b21 b23 true a0 := by
  simp only [R14.A, putIf_put, ne_eq, Nat.reduceEqDiff, not_false_eq_true]
  rfl
theorem R14.e24 {wr : World} {B2 g b k cap n : Nat} {css : List (List Value)} {y0 y5 : Int} {y2 : ByteArray} {y4 : Bool} {A0 A1 : Option Addr} {d0 d1 : Nat} {l0 : List ByteArray} {l1 : List Int} {E0 : Option Addr} {e0 : Nat} {E1 : Option Addr} {e1 : Nat} {b0 b1 b2 b3 b4 b5 b6 b7 b8 b9 b10 b11 b12 b13 b14 b15 b16 b17 b18 b19 b20 b21 b23 : Bool} {a0 : Act} (hs : a0.tmps.size = 204) : (R14.A wr B2 g b k cap n css y0 y5 y2 y4 A0 A1 d0 d1 l0 l1 E0 e0 E1 e1 b0 b1 b2 b3 b4 b5 b6 b7 b8 b9 b10 b11 b12 b13 b14 b15 b16 b17 b18 b19 b20 b21 b23 true a0).eval (.tmp 114) = (.pointer (some ⟨g, k * 6 + 3, none⟩)) := by
  simp [R14.A, eval_putIf, eval_put, size_putIf, hs]
theorem R14.z (wr : World) (B2 g b k cap n : Nat) (css : List (List Value)) (y0 y5 : Int) (y2 : ByteArray) (y4 : Bool) (A0 A1 : Option Addr) (d0 d1 : Nat) (l0 : List ByteArray) (l1 : List Int) (E0 : Option Addr) (e0 : Nat) (E1 : Option Addr) (e1 : Nat) (a0 : Act) : a0 = R14.A wr B2 g b k cap n css y0 y5 y2 y4 A0 A1 d0 d1 l0 l1 E0 e0 E1 e1 false false false false false false false false false false false false false false false false false false false false false false false false a0 := rfl
theorem R14.size {wr : World} {B2 g b k cap n : Nat} {css : List (List Value)} {y0 y5 : Int} {y2 : ByteArray} {y4 : Bool} {A0 A1 : Option Addr} {d0 d1 : Nat} {l0 : List ByteArray} {l1 : List Int} {E0 : Option Addr} {e0 : Nat} {E1 : Option Addr} {e1 : Nat} {b0 b1 b2 b3 b4 b5 b6 b7 b8 b9 b10 b11 b12 b13 b14 b15 b16 b17 b18 b19 b20 b21 b23 b24 : Bool} {a0 : Act} : (R14.A wr B2 g b k cap n css y0 y5 y2 y4 A0 A1 d0 d1 l0 l1 E0 e0 E1 e1 b0 b1 b2 b3 b4 b5 b6 b7 b8 b9 b10 b11 b12 b13 b14 b15 b16 b17 b18 b19 b20 b21 b23 b24 a0).tmps.size = a0.tmps.size := by
  simp [R14.A, size_putIf]
theorem R14.f1 {wr : World} {B2 g b k cap n : Nat} {css : List (List Value)} {y0 y5 : Int} {y2 : ByteArray} {y4 : Bool} {A0 A1 : Option Addr} {d0 d1 : Nat} {l0 : List ByteArray} {l1 : List Int} {E0 : Option Addr} {e0 : Nat} {E1 : Option Addr} {e1 : Nat} {b0 b1 b2 b3 b4 b5 b6 b7 b8 b9 b10 b11 b12 b13 b14 b15 b16 b17 b18 b19 b20 b21 b23 b24 : Bool} {a0 : Act} : (R14.A wr B2 g b k cap n css y0 y5 y2 y4 A0 A1 d0 d1 l0 l1 E0 e0 E1 e1 b0 b1 b2 b3 b4 b5 b6 b7 b8 b9 b10 b11 b12 b13 b14 b15 b16 b17 b18 b19 b20 b21 b23 b24 a0).eval (.tmp 1) = a0.eval (.tmp 1) := by
  simp [R14.A, eval_putIf]
theorem R14.f5 {wr : World} {B2 g b k cap n : Nat} {css : List (List Value)} {y0 y5 : Int} {y2 : ByteArray} {y4 : Bool} {A0 A1 : Option Addr} {d0 d1 : Nat} {l0 : List ByteArray} {l1 : List Int} {E0 : Option Addr} {e0 : Nat} {E1 : Option Addr} {e1 : Nat} {b0 b1 b2 b3 b4 b5 b6 b7 b8 b9 b10 b11 b12 b13 b14 b15 b16 b17 b18 b19 b20 b21 b23 b24 : Bool} {a0 : Act} : (R14.A wr B2 g b k cap n css y0 y5 y2 y4 A0 A1 d0 d1 l0 l1 E0 e0 E1 e1 b0 b1 b2 b3 b4 b5 b6 b7 b8 b9 b10 b11 b12 b13 b14 b15 b16 b17 b18 b19 b20 b21 b23 b24 a0).eval (.tmp 5) = a0.eval (.tmp 5) := by
  simp [R14.A, eval_putIf]
def R14.B (wr : World) (B2 g b k cap n : Nat) (css : List (List Value)) (y0 y5 : Int) (y2 : ByteArray) (y4 : Bool) (A0 A1 : Option Addr) (d0 d1 : Nat) (l0 : List ByteArray) (l1 : List Int) (a0 : Act) : Prop := a0.tmps.size = 204 ∧ a0.eval (.tmp 1) = (.pointer (some ⟨b, 0, none⟩)) ∧ a0.eval (.tmp 5) = (.int .i64 (k : Int))
def R14.I (wr : World) (B2 g b k cap n : Nat) (css : List (List Value)) (y0 y5 : Int) (y2 : ByteArray) (y4 : Bool) (A0 A1 : Option Addr) (d0 d1 : Nat) (l0 : List ByteArray) (l1 : List Int) (E0 : Option Addr) (e0 : Nat) (E1 : Option Addr) (e1 : Nat) (b0 b1 b2 b3 b4 b5 b6 b7 b8 b9 b10 b11 b12 b13 b14 b15 b16 b17 b18 b19 b20 b21 b22 b23 b24 b25 : Bool) (w : World) : Prop := Fr [g] wr w ∧ RowAt 45 6 w B2 g cap n (css.set k [.int .i64 y0, bif b22 then .slice E0 l0.length e0 else .slice A0 l0.length d0, .string y2, bif b25 then .slice E1 l1.length e1 else .slice A1 l1.length d1, .bool y4, .int .i64 y5]) ∧ (b12 = true → Sl rStr (NT wr.heap.size [9] w) w (.slice E0 l0.length e0) l0) ∧ (b19 = true → Sl rInt (NT wr.heap.size [3] w) w (.slice E1 l1.length e1) l1) ∧ (b22 = true → b11 = true ∧ b12 = true ∧ b18 = true ∧ b19 = true) ∧ (b25 = true → b22 = true)
/-- What stays true inside the region, whatever has come up. -/
def R14.J (wr : World) (B2 g b k cap n : Nat) (css : List (List Value)) (y0 y5 : Int) (y2 : ByteArray) (y4 : Bool) (A0 A1 : Option Addr) (d0 d1 : Nat) (l0 : List ByteArray) (l1 : List Int) (a0 : Act) (l : Array Bool) (a : Act) (w : World) : Prop :=
  R14.B wr B2 g b k cap n css y0 y5 y2 y4 A0 A1 d0 d1 l0 l1 a0 ∧ ∃ b0 b1 b2 b3 b4 b5 b6 b7 b8 b9 b10 b11 b12 b13 b14 b15 b16 b17 b18 b19 b20 b21 b22 b23 b24 b25 E0 e0 E1 e1, l = #[b0, b1, b2, b3, b4, b5, b6, b7, b8, b9, b10, b11, b12, b13, b14, b15, b16, b17, b18, b19, b20, b21, b22, b23, b24, b25] ∧ a = R14.A wr B2 g b k cap n css y0 y5 y2 y4 A0 A1 d0 d1 l0 l1 E0 e0 E1 e1 b0 b1 b2 b3 b4 b5 b6 b7 b8 b9 b10 b11 b12 b13 b14 b15 b16 b17 b18 b19 b20 b21 b23 b24 a0 ∧ R14.I wr B2 g b k cap n css y0 y5 y2 y4 A0 A1 d0 d1 l0 l1 E0 e0 E1 e1 b0 b1 b2 b3 b4 b5 b6 b7 b8 b9 b10 b11 b12 b13 b14 b15 b16 b17 b18 b19 b20 b21 b22 b23 b24 b25 w
attribute [irreducible] R14.A

set_option maxRecDepth 100000 in
set_option maxHeartbeats 8000000 in
theorem clone14 {Q : Exit → Act → World → Prop} {t0 t2 t3 t4 t6 t7 t8 t9 t10 t11 t12 t13 t14 t15 t16 t17 t18 t19 t20 t21 t22 t23 t24 t25 t26 t27 t28 t29 t30 t31 t32 t33 t34 t35 t36 t37 t38 t39 t40 t41 t42 t43 t44 t45 t46 t47 t48 t49 t50 t51 t52 t53 t54 t55 t56 t57 t58 t59 t60 t61 t62 t63 t64 t65 t66 t67 t68 t69 t70 t71 t72 t73 t74 t75 t76 t77 t78 t79 t80 t81 t82 t83 t84 t85 t86 t87 t88 t89 t90 t91 t92 t93 t94 t95 t96 t97 t98 t99 t100 t101 t102 t103 t104 t105 t106 t107 t108 t109 t110 t111 t112 t113 t114 t115 t116 t117 t118 t119 t120 t121 t122 t123 t124 t125 t126 t127 t128 t129 t130 t131 t132 t133 t134 t135 t136 t137 t138 t139 t140 t141 t142 t143 t144 t145 t146 t147 t148 t149 t150 t151 t152 t153 t154 t155 t156 t157 t158 t159 t160 t161 t162 t163 t164 t165 t166 t167 t168 t169 t170 t171 t172 t173 t174 t175 t176 t177 t178 t179 t180 t181 t182 t183 t184 t185 t186 t187 t188 t189 t190 t191 t192 t193 t194 t195 t196 t197 t198 t199 t200 t201 t202 t203 : Value} {wr : World} {B2 g b k cap n : Nat} {css : List (List Value)} {y0 y5 : Int} {y2 : ByteArray} {y4 : Bool} {A0 A1 : Option Addr} {d0 d1 : Nat} {l0 : List ByteArray} {l1 : List Int} {B : Nat} {p : Nat → Prop} (hB : B ≤ wr.heap.size) (hrow : RowAt 45 6 wr B2 g cap n css) (hcs : css[k]? = some [.int .i64 y0, .slice A0 l0.length d0, .string y2, .slice A1 l1.length d1, .bool y4, .int .i64 y5]) (hk : k < n) (hn : n ≤ 140737488351232) (hbg : b ≠ g) (hpg : ¬ p g) (hc : wr.cell? ⟨b, 4, none⟩ = some (.slice (some ⟨g, 0, none⟩) n cap)) (h0 : Sl rStr p wr (.slice A0 l0.length d0) l0) (h1 : Sl rInt p wr (.slice A1 l1.length d1) l1)
    (hQ : ∀ (u91 u92 u93 u94 u95 u96 u97 u98 u99 u100 u101 u102 u103 u104 u105 u106 u107 u108 u109 u110 u111 u112 u113 u114 : Value) (wx : World), (∃ A0 d0 A1 d1, Fr [g] wr wx ∧ RowAt 45 6 wx B2 g cap n (css.set k [.int .i64 y0, .slice A0 l0.length d0, .string y2, .slice A1 l1.length d1, .bool y4, .int .i64 y5]) ∧ Sl rStr (NT B [9] wx) wx (.slice A0 l0.length d0) l0 ∧ Sl rInt (NT B [3] wx) wx (.slice A1 l1.length d1) l1) → Q .normal ⟨#[t0, (.pointer (some ⟨b, 0, none⟩)), t2, t3, t4, (.int .i64 (k : Int)), t6, t7, t8, t9, t10, t11, t12, t13, t14, t15, t16, t17, t18, t19, t20, t21, t22, t23, t24, t25, t26, t27, t28, t29, t30, t31, t32, t33, t34, t35, t36, t37, t38, t39, t40, t41, t42, t43, t44, t45, t46, t47, t48, t49, t50, t51, t52, t53, t54, t55, t56, t57, t58, t59, t60, t61, t62, t63, t64, t65, t66, t67, t68, t69, t70, t71, t72, t73, t74, t75, t76, t77, t78, t79, t80, t81, t82, t83, t84, t85, t86, t87, t88, t89, t90, u91, u92, u93, u94, u95, u96, u97, u98, u99, u100, u101, u102, u103, u104, u105, u106, u107, u108, u109, u110, u111, u112, u113, u114, t115, t116, t117, t118, t119, t120, t121, t122, t123, t124, t125, t126, t127, t128, t129, t130, t131, t132, t133, t134, t135, t136, t137, t138, t139, t140, t141, t142, t143, t144, t145, t146, t147, t148, t149, t150, t151, t152, t153, t154, t155, t156, t157, t158, t159, t160, t161, t162, t163, t164, t165, t166, t167, t168, t169, t170, t171, t172, t173, t174, t175, t176, t177, t178, t179, t180, t181, t182, t183, t184, t185, t186, t187, t188, t189, t190, t191, t192, t193, t194, t195, t196, t197, t198, t199, t200, t201, t202, t203], []⟩ wx) :
    (regAt Try.f45 14).wp Try.prog Q ⟨#[t0, (.pointer (some ⟨b, 0, none⟩)), t2, t3, t4, (.int .i64 (k : Int)), t6, t7, t8, t9, t10, t11, t12, t13, t14, t15, t16, t17, t18, t19, t20, t21, t22, t23, t24, t25, t26, t27, t28, t29, t30, t31, t32, t33, t34, t35, t36, t37, t38, t39, t40, t41, t42, t43, t44, t45, t46, t47, t48, t49, t50, t51, t52, t53, t54, t55, t56, t57, t58, t59, t60, t61, t62, t63, t64, t65, t66, t67, t68, t69, t70, t71, t72, t73, t74, t75, t76, t77, t78, t79, t80, t81, t82, t83, t84, t85, t86, t87, t88, t89, t90, t91, t92, t93, t94, t95, t96, t97, t98, t99, t100, t101, t102, t103, t104, t105, t106, t107, t108, t109, t110, t111, t112, t113, t114, t115, t116, t117, t118, t119, t120, t121, t122, t123, t124, t125, t126, t127, t128, t129, t130, t131, t132, t133, t134, t135, t136, t137, t138, t139, t140, t141, t142, t143, t144, t145, t146, t147, t148, t149, t150, t151, t152, t153, t154, t155, t156, t157, t158, t159, t160, t161, t162, t163, t164, t165, t166, t167, t168, t169, t170, t171, t172, t173, t174, t175, t176, t177, t178, t179, t180, t181, t182, t183, t184, t185, t186, t187, t188, t189, t190, t191, t192, t193, t194, t195, t196, t197, t198, t199, t200, t201, t202, t203], []⟩ wr := by
  have hbl := World.block_lt_of_cell? wr _ hc
  have hk0 : (0 : Int) ≤ (k : Int) := by omega
  have hk1 : (k : Int) < (n : Int) := by omega
  refine Code.wp_mono (Q := OnlyN (fun a w => Q .normal a w)) onlyN_imp ?_
  conv => arg 2; whnf
  dsimp only
  refine region_inv (by kernel_rfl) (fun a0 l a w => R14.J wr B2 g b k cap n css y0 y5 y2 y4 A0 A1 d0 d1 l0 l1 a0 l a w) ?_ ?_ ?_
  · refine ⟨⟨rfl, rfl, rfl⟩, false, false, false, false, false, false, false, false, false, false, false, false, false, false, false, false, false, false, false, false, false, false, false, false, false, false, none, 0, none, 0, rfl, R14.z .., (Fr.refl _ _).drew, ?_, (fun h => by cases h), (fun h => by cases h), (fun h => by cases h), (fun h => by cases h)⟩
    have := hrow.fr ((Fr.refl [] wr).drew) (by simp)
    simp only [cond_false]
    rw [show css.set k [.int .i64 y0, .slice A0 l0.length d0, .string y2, .slice A1 l1.length d1, .bool y4, .int .i64 y5] = css from by
      apply List.ext_getElem?
      intro i
      rw [List.getElem?_set]
      split
      · rename_i h
        subst h
        have hl : k < css.length := (List.getElem?_eq_some_iff.1 hcs).1
        rw [if_pos hl, hcs]
      · rfl]
    exact this
  · intro l a' w' hJ hi
    obtain ⟨-, b0, b1, b2, b3, b4, b5, b6, b7, b8, b9, b10, b11, b12, b13, b14, b15, b16, b17, b18, b19, b20, b21, b22, b23, b24, b25, E0, e0, E1, e1, rfl, rfl, hinv⟩ := hJ
    have t0 : b0 = true := ready_nil hi 0 (by decide) (by simp [Region.binds])
    have t1 : b1 = true := ready_nil hi 1 (by decide) (by simp [Region.binds, t0])
    have t2 : b2 = true := ready_nil hi 2 (by decide) (by simp [Region.binds])
    have t3 : b3 = true := ready_nil hi 3 (by decide) (by simp [Region.binds])
    have t4 : b4 = true := ready_nil hi 4 (by decide) (by simp [Region.binds, t3])
    have t5 : b5 = true := ready_nil hi 5 (by decide) (by simp [Region.binds])
    have t6 : b6 = true := ready_nil hi 6 (by decide) (by simp [Region.binds])
    have t7 : b7 = true := ready_nil hi 7 (by decide) (by simp [Region.binds, t6])
    have t8 : b8 = true := ready_nil hi 8 (by decide) (by simp [Region.binds])
    have t9 : b9 = true := ready_nil hi 9 (by decide) (by simp [Region.binds, t7, t8])
    have t10 : b10 = true := ready_nil hi 10 (by decide) (by simp [Region.binds, t9])
    have t11 : b11 = true := ready_nil hi 11 (by decide) (by simp [Region.binds, t10])
    have t12 : b12 = true := ready_nil hi 12 (by decide) (by simp [Region.binds, t11])
    have t13 : b13 = true := ready_nil hi 13 (by decide) (by simp [Region.binds])
    have t14 : b14 = true := ready_nil hi 14 (by decide) (by simp [Region.binds, t13])
    have t15 : b15 = true := ready_nil hi 15 (by decide) (by simp [Region.binds])
    have t16 : b16 = true := ready_nil hi 16 (by decide) (by simp [Region.binds, t14, t15])
    have t17 : b17 = true := ready_nil hi 17 (by decide) (by simp [Region.binds, t16])
    have t18 : b18 = true := ready_nil hi 18 (by decide) (by simp [Region.binds, t17])
    have t19 : b19 = true := ready_nil hi 19 (by decide) (by simp [Region.binds, t12, t18])
    have t20 : b20 = true := ready_nil hi 20 (by decide) (by simp [Region.binds, t0, t1, t2, t6, t7, t8, t9, t10, t11, t12, t18, t19])
    have t21 : b21 = true := ready_nil hi 21 (by decide) (by simp [Region.binds, t0, t1, t2, t6, t7, t8, t9, t10, t11, t12, t18, t19, t20])
    have t22 : b22 = true := ready_nil hi 22 (by decide) (by simp [Region.binds, t0, t1, t2, t6, t7, t8, t9, t10, t11, t12, t18, t19, t21])
    have t23 : b23 = true := ready_nil hi 23 (by decide) (by simp [Region.binds, t0, t1, t2, t3, t4, t5, t6, t7, t8, t9, t10, t11, t12, t13, t14, t15, t16, t17, t18, t19, t20, t21, t22])
    have t24 : b24 = true := ready_nil hi 24 (by decide) (by simp [Region.binds, t0, t1, t2, t3, t4, t5, t6, t7, t8, t9, t10, t11, t12, t13, t14, t15, t16, t17, t18, t19, t20, t21, t22, t23])
    have t25 : b25 = true := ready_nil hi 25 (by decide) (by simp [Region.binds, t0, t1, t2, t3, t4, t5, t6, t7, t8, t9, t10, t11, t12, t13, t14, t15, t16, t17, t18, t19, t20, t21, t22, t24])
    subst t0 t1 t2 t3 t4 t5 t6 t7 t8 t9 t10 t11 t12 t13 t14 t15 t16 t17 t18 t19 t20 t21 t22 t23 t24 t25
    clear hi
    obtain ⟨hF, hR, q12, q19, q22, q25⟩ := hinv
    simp only [OnlyN, R14.A, putIf_true, Act.put, List.setIfInBounds_toArray, List.set_cons_zero, List.set_cons_succ]
    simp only [cond_true] at hR
    exact hQ _ _ _ _ _ _ _ _ _ _ _ _ _ _ _ _ _ _ _ _ _ _ _ _ _ ⟨E0, e0, E1, e1, hF, hR, (q12 rfl).fr (NT.wide hB (fun _ h => h)), (q19 rfl).fr (NT.wide hB (fun _ h => h))⟩
  · intro a0 l a' w' i hJ hi
    obtain ⟨hB, b0, b1, b2, b3, b4, b5, b6, b7, b8, b9, b10, b11, b12, b13, b14, b15, b16, b17, b18, b19, b20, b21, b22, b23, b24, b25, E0, e0, E1, e1, rfl, rfl, hinv⟩ := hJ
    have hBB := hB
    obtain ⟨hs0, g1, g5⟩ := hBB
    obtain ⟨h10, hlf, haf⟩ := mem_ready hi
    clear hi
    have hc : i = 0 ∨ i = 1 ∨ i = 2 ∨ i = 3 ∨ i = 4 ∨ i = 5 ∨ i = 6 ∨ i = 7 ∨ i = 8 ∨ i = 9 ∨ i = 10 ∨ i = 11 ∨ i = 12 ∨ i = 13 ∨ i = 14 ∨ i = 15 ∨ i = 16 ∨ i = 17 ∨ i = 18 ∨ i = 19 ∨ i = 20 ∨ i = 21 ∨ i = 22 ∨ i = 23 ∨ i = 24 ∨ i = 25 := by
      have : i < 26 := h10
      omega
    clear h10
    rcases hc with rfl | rfl | rfl | rfl | rfl | rfl | rfl | rfl | rfl | rfl | rfl | rfl | rfl | rfl | rfl | rfl | rfl | rfl | rfl | rfl | rfl | rfl | rfl | rfl | rfl | rfl
    · obtain rfl : b0 = false := by simpa using hlf
      refine wpOp_at rfl rfl ?_
      simp only [List.getElem_toArray, List.getElem_cons_zero, List.getElem_cons_succ]
      refine op_val (v := (.pointer (some ⟨b, 4, none⟩))) ?_ (show R14.J wr B2 g b k cap n css y0 y5 y2 y4 A0 A1 d0 d1 l0 l1 a0 _ _ _ from ⟨hB, true, b1, b2, b3, b4, b5, b6, b7, b8, b9, b10, b11, b12, b13, b14, b15, b16, b17, b18, b19, b20, b21, b22, b23, b24, b25, E0, e0, E1, e1, rfl, R14.p0 .., hinv⟩)
      simp only [execOp, R14.f1, g1]
      go_simp
    · obtain rfl : b1 = false := by simpa using hlf
      refine wpOp_at rfl rfl ?_
      simp only [List.getElem_toArray, List.getElem_cons_zero, List.getElem_cons_succ]
      simp [Region.binds] at haf
      subst haf
      obtain ⟨hF, hR, q12, q19, q22, q25⟩ := hinv
      have hcb : w'.cell? ⟨b, 4, none⟩ = some (.slice (some ⟨g, 0, none⟩) n cap) := (World.cell?_of_block (hF.block b hbl (by simpa using hbg))).trans hc
      refine op_val (v := (.slice (some ⟨g, 0, none⟩) n cap)) ?_ (show R14.J wr B2 g b k cap n css y0 y5 y2 y4 A0 A1 d0 d1 l0 l1 a0 _ _ _ from ⟨hB, true, true, b2, b3, b4, b5, b6, b7, b8, b9, b10, b11, b12, b13, b14, b15, b16, b17, b18, b19, b20, b21, b22, b23, b24, b25, E0, e0, E1, e1, rfl, R14.p1 .., hF, hR, q12, q19, q22, q25⟩)
      simp only [execOp, R14.e0 hs0]
      go_simp
    · obtain rfl : b2 = false := by simpa using hlf
      refine wpOp_at rfl rfl ?_
      simp only [List.getElem_toArray, List.getElem_cons_zero, List.getElem_cons_succ]
      refine op_val (v := (.int .i64 (k : Int))) ?_ (show R14.J wr B2 g b k cap n css y0 y5 y2 y4 A0 A1 d0 d1 l0 l1 a0 _ _ _ from ⟨hB, b0, b1, true, b3, b4, b5, b6, b7, b8, b9, b10, b11, b12, b13, b14, b15, b16, b17, b18, b19, b20, b21, b22, b23, b24, b25, E0, e0, E1, e1, rfl, R14.p2 .., hinv⟩)
      simp only [execOp, R14.f5, g5]
      go_simp
    · obtain rfl : b3 = false := by simpa using hlf
      refine wpOp_at rfl rfl ?_
      simp only [List.getElem_toArray, List.getElem_cons_zero, List.getElem_cons_succ]
      refine op_val (v := (.pointer (some ⟨b, 4, none⟩))) ?_ (show R14.J wr B2 g b k cap n css y0 y5 y2 y4 A0 A1 d0 d1 l0 l1 a0 _ _ _ from ⟨hB, b0, b1, b2, true, b4, b5, b6, b7, b8, b9, b10, b11, b12, b13, b14, b15, b16, b17, b18, b19, b20, b21, b22, b23, b24, b25, E0, e0, E1, e1, rfl, R14.p3 .., hinv⟩)
      simp only [execOp, R14.f1, g1]
      go_simp
    · obtain rfl : b4 = false := by simpa using hlf
      refine wpOp_at rfl rfl ?_
      simp only [List.getElem_toArray, List.getElem_cons_zero, List.getElem_cons_succ]
      simp [Region.binds] at haf
      subst haf
      obtain ⟨hF, hR, q12, q19, q22, q25⟩ := hinv
      have hcb : w'.cell? ⟨b, 4, none⟩ = some (.slice (some ⟨g, 0, none⟩) n cap) := (World.cell?_of_block (hF.block b hbl (by simpa using hbg))).trans hc
      refine op_val (v := (.slice (some ⟨g, 0, none⟩) n cap)) ?_ (show R14.J wr B2 g b k cap n css y0 y5 y2 y4 A0 A1 d0 d1 l0 l1 a0 _ _ _ from ⟨hB, b0, b1, b2, true, true, b5, b6, b7, b8, b9, b10, b11, b12, b13, b14, b15, b16, b17, b18, b19, b20, b21, b22, b23, b24, b25, E0, e0, E1, e1, rfl, R14.p4 .., hF, hR, q12, q19, q22, q25⟩)
      simp only [execOp, R14.e3 hs0]
      go_simp
    · obtain rfl : b5 = false := by simpa using hlf
      refine wpOp_at rfl rfl ?_
      simp only [List.getElem_toArray, List.getElem_cons_zero, List.getElem_cons_succ]
      refine op_val (v := (.int .i64 (k : Int))) ?_ (show R14.J wr B2 g b k cap n css y0 y5 y2 y4 A0 A1 d0 d1 l0 l1 a0 _ _ _ from ⟨hB, b0, b1, b2, b3, b4, true, b6, b7, b8, b9, b10, b11, b12, b13, b14, b15, b16, b17, b18, b19, b20, b21, b22, b23, b24, b25, E0, e0, E1, e1, rfl, R14.p5 .., hinv⟩)
      simp only [execOp, R14.f5, g5]
      go_simp
    · obtain rfl : b6 = false := by simpa using hlf
      refine wpOp_at rfl rfl ?_
      simp only [List.getElem_toArray, List.getElem_cons_zero, List.getElem_cons_succ]
      refine op_val (v := (.pointer (some ⟨b, 4, none⟩))) ?_ (show R14.J wr B2 g b k cap n css y0 y5 y2 y4 A0 A1 d0 d1 l0 l1 a0 _ _ _ from ⟨hB, b0, b1, b2, b3, b4, b5, true, b7, b8, b9, b10, b11, b12, b13, b14, b15, b16, b17, b18, b19, b20, b21, b22, b23, b24, b25, E0, e0, E1, e1, rfl, R14.p6 .., hinv⟩)
      simp only [execOp, R14.f1, g1]
      go_simp
    · obtain rfl : b7 = false := by simpa using hlf
      refine wpOp_at rfl rfl ?_
      simp only [List.getElem_toArray, List.getElem_cons_zero, List.getElem_cons_succ]
      simp [Region.binds] at haf
      subst haf
      obtain ⟨hF, hR, q12, q19, q22, q25⟩ := hinv
      have hcb : w'.cell? ⟨b, 4, none⟩ = some (.slice (some ⟨g, 0, none⟩) n cap) := (World.cell?_of_block (hF.block b hbl (by simpa using hbg))).trans hc
      refine op_val (v := (.slice (some ⟨g, 0, none⟩) n cap)) ?_ (show R14.J wr B2 g b k cap n css y0 y5 y2 y4 A0 A1 d0 d1 l0 l1 a0 _ _ _ from ⟨hB, b0, b1, b2, b3, b4, b5, true, true, b8, b9, b10, b11, b12, b13, b14, b15, b16, b17, b18, b19, b20, b21, b22, b23, b24, b25, E0, e0, E1, e1, rfl, R14.p7 .., hF, hR, q12, q19, q22, q25⟩)
      simp only [execOp, R14.e6 hs0]
      go_simp
    · obtain rfl : b8 = false := by simpa using hlf
      refine wpOp_at rfl rfl ?_
      simp only [List.getElem_toArray, List.getElem_cons_zero, List.getElem_cons_succ]
      refine op_val (v := (.int .i64 (k : Int))) ?_ (show R14.J wr B2 g b k cap n css y0 y5 y2 y4 A0 A1 d0 d1 l0 l1 a0 _ _ _ from ⟨hB, b0, b1, b2, b3, b4, b5, b6, b7, true, b9, b10, b11, b12, b13, b14, b15, b16, b17, b18, b19, b20, b21, b22, b23, b24, b25, E0, e0, E1, e1, rfl, R14.p8 .., hinv⟩)
      simp only [execOp, R14.f5, g5]
      go_simp
    · obtain rfl : b9 = false := by simpa using hlf
      refine wpOp_at rfl rfl ?_
      simp only [List.getElem_toArray, List.getElem_cons_zero, List.getElem_cons_succ]
      simp [Region.binds] at haf
      obtain ⟨a0, a1⟩ := haf
      subst a0 a1
      refine op_val (v := (.pointer (some ⟨g, k * 6, none⟩))) ?_ (show R14.J wr B2 g b k cap n css y0 y5 y2 y4 A0 A1 d0 d1 l0 l1 a0 _ _ _ from ⟨hB, b0, b1, b2, b3, b4, b5, b6, true, true, true, b10, b11, b12, b13, b14, b15, b16, b17, b18, b19, b20, b21, b22, b23, b24, b25, E0, e0, E1, e1, rfl, R14.p9 .., hinv⟩)
      simp only [execOp, R14.e7 hs0, R14.e8 hs0]
      go_simp
    · obtain rfl : b10 = false := by simpa using hlf
      refine wpOp_at rfl rfl ?_
      simp only [List.getElem_toArray, List.getElem_cons_zero, List.getElem_cons_succ]
      simp [Region.binds] at haf
      subst haf
      refine op_val (v := (.pointer (some ⟨g, k * 6 + 1, none⟩))) ?_ (show R14.J wr B2 g b k cap n css y0 y5 y2 y4 A0 A1 d0 d1 l0 l1 a0 _ _ _ from ⟨hB, b0, b1, b2, b3, b4, b5, b6, b7, b8, true, true, b11, b12, b13, b14, b15, b16, b17, b18, b19, b20, b21, b22, b23, b24, b25, E0, e0, E1, e1, rfl, R14.p10 .., hinv⟩)
      simp only [execOp, R14.e9 hs0]
      go_simp
    · obtain rfl : b11 = false := by simpa using hlf
      refine wpOp_at rfl rfl ?_
      simp only [List.getElem_toArray, List.getElem_cons_zero, List.getElem_cons_succ]
      simp [Region.binds] at haf
      subst haf
      obtain ⟨hF, hR, q12, q19, q22, q25⟩ := hinv
      have hcb : w'.cell? ⟨b, 4, none⟩ = some (.slice (some ⟨g, 0, none⟩) n cap) := (World.cell?_of_block (hF.block b hbl (by simpa using hbg))).trans hc
      have e22 : b22 = false := by
        cases hb : b22 with
        | false => rfl
        | true => have := q22 hb; simp at this
      have e25 : b25 = false := by
        cases hb : b25 with
        | false => rfl
        | true => have := q25 hb; rw [e22] at this; cases this
      subst e22 e25
      have hx := hR.cell (get_set_self hcs _) (i := 1) rfl
      simp only [cond_false] at hx
      refine op_val (v := (.slice A0 l0.length d0)) ?_ (show R14.J wr B2 g b k cap n css y0 y5 y2 y4 A0 A1 d0 d1 l0 l1 a0 _ _ _ from ⟨hB, b0, b1, b2, b3, b4, b5, b6, b7, b8, b9, true, true, b12, b13, b14, b15, b16, b17, b18, b19, b20, b21, false, b23, b24, false, E0, e0, E1, e1, rfl, R14.p11 .., hF, hR, q12, q19, (fun h => by cases h), (fun h => by cases h)⟩)
      simp only [execOp, R14.e10 hs0]
      go_simp
    · obtain rfl : b12 = false := by simpa using hlf
      refine wpOp_at rfl rfl ?_
      simp only [List.getElem_toArray, List.getElem_cons_zero, List.getElem_cons_succ]
      simp [Region.binds] at haf
      subst haf
      obtain ⟨hF, hR, q12, q19, q22, q25⟩ := hinv
      have hcb : w'.cell? ⟨b, 4, none⟩ = some (.slice (some ⟨g, 0, none⟩) n cap) := (World.cell?_of_block (hF.block b hbl (by simpa using hbg))).trans hc
      have e22 : b22 = false := by
        cases hb : b22 with
        | false => rfl
        | true => have := q22 hb; simp at this
      have e25 : b25 = false := by
        cases hb : b25 with
        | false => rfl
        | true => have := q25 hb; rw [e22] at this; cases this
      subst e22 e25
      refine op_call (f := 86) rfl (vs := #[.slice A0 l0.length d0]) (by simp [R14.e11 hs0]) (fun w => enters_of Try.func86 (by kernel_rfl) rfl _ w) ?_
      refine (str_from w' w' p _ l0 (Fr.refl _ _) (h0.fr (fun k hp hk => ⟨hp, hF.block k hk (by simp; rintro rfl; exact hpg hp)⟩))).mono ?_
      rintro e w3 ⟨a3, q3, rfl, f3, s3⟩
      exact ⟨_, rfl, hB, b0, b1, b2, b3, b4, b5, b6, b7, b8, b9, b10, true, true, b13, b14, b15, b16, b17, b18, b19, b20, b21, false, b23, b24, false, a3, q3, E1, e1, rfl, R14.p12 .., hF.trans' f3, hR.fr f3 (by simp), fun _ => s3.fr (NT.wide hF.size (fun _ h => h)), fun h => (q19 h).fr (NT.fr0 f3), (fun h => by cases h), (fun h => by cases h)⟩
    · obtain rfl : b13 = false := by simpa using hlf
      refine wpOp_at rfl rfl ?_
      simp only [List.getElem_toArray, List.getElem_cons_zero, List.getElem_cons_succ]
      refine op_val (v := (.pointer (some ⟨b, 4, none⟩))) ?_ (show R14.J wr B2 g b k cap n css y0 y5 y2 y4 A0 A1 d0 d1 l0 l1 a0 _ _ _ from ⟨hB, b0, b1, b2, b3, b4, b5, b6, b7, b8, b9, b10, b11, b12, true, b14, b15, b16, b17, b18, b19, b20, b21, b22, b23, b24, b25, E0, e0, E1, e1, rfl, R14.p13 .., hinv⟩)
      simp only [execOp, R14.f1, g1]
      go_simp
    · obtain rfl : b14 = false := by simpa using hlf
      refine wpOp_at rfl rfl ?_
      simp only [List.getElem_toArray, List.getElem_cons_zero, List.getElem_cons_succ]
      simp [Region.binds] at haf
      subst haf
      obtain ⟨hF, hR, q12, q19, q22, q25⟩ := hinv
      have hcb : w'.cell? ⟨b, 4, none⟩ = some (.slice (some ⟨g, 0, none⟩) n cap) := (World.cell?_of_block (hF.block b hbl (by simpa using hbg))).trans hc
      refine op_val (v := (.slice (some ⟨g, 0, none⟩) n cap)) ?_ (show R14.J wr B2 g b k cap n css y0 y5 y2 y4 A0 A1 d0 d1 l0 l1 a0 _ _ _ from ⟨hB, b0, b1, b2, b3, b4, b5, b6, b7, b8, b9, b10, b11, b12, true, true, b15, b16, b17, b18, b19, b20, b21, b22, b23, b24, b25, E0, e0, E1, e1, rfl, R14.p14 .., hF, hR, q12, q19, q22, q25⟩)
      simp only [execOp, R14.e13 hs0]
      go_simp
    · obtain rfl : b15 = false := by simpa using hlf
      refine wpOp_at rfl rfl ?_
      simp only [List.getElem_toArray, List.getElem_cons_zero, List.getElem_cons_succ]
      refine op_val (v := (.int .i64 (k : Int))) ?_ (show R14.J wr B2 g b k cap n css y0 y5 y2 y4 A0 A1 d0 d1 l0 l1 a0 _ _ _ from ⟨hB, b0, b1, b2, b3, b4, b5, b6, b7, b8, b9, b10, b11, b12, b13, b14, true, b16, b17, b18, b19, b20, b21, b22, b23, b24, b25, E0, e0, E1, e1, rfl, R14.p15 .., hinv⟩)
      simp only [execOp, R14.f5, g5]
      go_simp
    · obtain rfl : b16 = false := by simpa using hlf
      refine wpOp_at rfl rfl ?_
      simp only [List.getElem_toArray, List.getElem_cons_zero, List.getElem_cons_succ]
      simp [Region.binds] at haf
      obtain ⟨a0, a1⟩ := haf
      subst a0 a1
      refine op_val (v := (.pointer (some ⟨g, k * 6, none⟩))) ?_ (show R14.J wr B2 g b k cap n css y0 y5 y2 y4 A0 A1 d0 d1 l0 l1 a0 _ _ _ from ⟨hB, b0, b1, b2, b3, b4, b5, b6, b7, b8, b9, b10, b11, b12, b13, true, true, true, b17, b18, b19, b20, b21, b22, b23, b24, b25, E0, e0, E1, e1, rfl, R14.p16 .., hinv⟩)
      simp only [execOp, R14.e14 hs0, R14.e15 hs0]
      go_simp
    · obtain rfl : b17 = false := by simpa using hlf
      refine wpOp_at rfl rfl ?_
      simp only [List.getElem_toArray, List.getElem_cons_zero, List.getElem_cons_succ]
      simp [Region.binds] at haf
      subst haf
      refine op_val (v := (.pointer (some ⟨g, k * 6 + 3, none⟩))) ?_ (show R14.J wr B2 g b k cap n css y0 y5 y2 y4 A0 A1 d0 d1 l0 l1 a0 _ _ _ from ⟨hB, b0, b1, b2, b3, b4, b5, b6, b7, b8, b9, b10, b11, b12, b13, b14, b15, true, true, b18, b19, b20, b21, b22, b23, b24, b25, E0, e0, E1, e1, rfl, R14.p17 .., hinv⟩)
      simp only [execOp, R14.e16 hs0]
      go_simp
    · obtain rfl : b18 = false := by simpa using hlf
      refine wpOp_at rfl rfl ?_
      simp only [List.getElem_toArray, List.getElem_cons_zero, List.getElem_cons_succ]
      simp [Region.binds] at haf
      subst haf
      obtain ⟨hF, hR, q12, q19, q22, q25⟩ := hinv
      have hcb : w'.cell? ⟨b, 4, none⟩ = some (.slice (some ⟨g, 0, none⟩) n cap) := (World.cell?_of_block (hF.block b hbl (by simpa using hbg))).trans hc
      have e22 : b22 = false := by
        cases hb : b22 with
        | false => rfl
        | true => have := q22 hb; simp at this
      have e25 : b25 = false := by
        cases hb : b25 with
        | false => rfl
        | true => have := q25 hb; rw [e22] at this; cases this
      subst e22 e25
      have hx := hR.cell (get_set_self hcs _) (i := 3) rfl
      simp only [cond_false] at hx
      refine op_val (v := (.slice A1 l1.length d1)) ?_ (show R14.J wr B2 g b k cap n css y0 y5 y2 y4 A0 A1 d0 d1 l0 l1 a0 _ _ _ from ⟨hB, b0, b1, b2, b3, b4, b5, b6, b7, b8, b9, b10, b11, b12, b13, b14, b15, b16, true, true, b19, b20, b21, false, b23, b24, false, E0, e0, E1, e1, rfl, R14.p18 .., hF, hR, q12, q19, (fun h => by cases h), (fun h => by cases h)⟩)
      simp only [execOp, R14.e17 hs0]
      go_simp
    · obtain rfl : b19 = false := by simpa using hlf
      refine wpOp_at rfl rfl ?_
      simp only [List.getElem_toArray, List.getElem_cons_zero, List.getElem_cons_succ]
      simp [Region.binds] at haf
      obtain ⟨a0, a1⟩ := haf
      subst a0 a1
      obtain ⟨hF, hR, q12, q19, q22, q25⟩ := hinv
      have hcb : w'.cell? ⟨b, 4, none⟩ = some (.slice (some ⟨g, 0, none⟩) n cap) := (World.cell?_of_block (hF.block b hbl (by simpa using hbg))).trans hc
      have e22 : b22 = false := by
        cases hb : b22 with
        | false => rfl
        | true => have := q22 hb; simp at this
      have e25 : b25 = false := by
        cases hb : b25 with
        | false => rfl
        | true => have := q25 hb; rw [e22] at this; cases this
      subst e22 e25
      refine op_call (f := 82) rfl (vs := #[.slice A1 l1.length d1]) (by simp [R14.e18 hs0]) (fun w => enters_of Try.func82 (by kernel_rfl) rfl _ w) ?_
      refine (int_from w' w' p _ l1 (Fr.refl _ _) (h1.fr (fun k hp hk => ⟨hp, hF.block k hk (by simp; rintro rfl; exact hpg hp)⟩))).mono ?_
      rintro e w3 ⟨a3, q3, rfl, f3, s3⟩
      exact ⟨_, rfl, hB, b0, b1, b2, b3, b4, b5, b6, b7, b8, b9, b10, b11, true, b13, b14, b15, b16, b17, true, true, b20, b21, false, b23, b24, false, E0, e0, a3, q3, rfl, R14.p19 .., hF.trans' f3, hR.fr f3 (by simp), fun h => (q12 h).fr (NT.fr0 f3), fun _ => s3.fr (NT.wide hF.size (fun _ h => h)), (fun h => by cases h), (fun h => by cases h)⟩
    · obtain rfl : b20 = false := by simpa using hlf
      refine wpOp_at rfl rfl ?_
      simp only [List.getElem_toArray, List.getElem_cons_zero, List.getElem_cons_succ]
      simp [Region.binds] at haf
      obtain ⟨a0, a1, a2, a3, a4, a5, a6, a7, a8, a9, a10, a11, a12, a13⟩ := haf
      subst a0 a1 a2 a5 a6 a7 a8 a9 a10 a11 a12 a13
      refine op_val (v := (.pointer (some ⟨g, k * 6, none⟩))) ?_ (show R14.J wr B2 g b k cap n css y0 y5 y2 y4 A0 A1 d0 d1 l0 l1 a0 _ _ _ from ⟨hB, true, true, true, b3, b4, b5, true, true, true, true, true, true, true, b13, b14, b15, b16, b17, true, true, true, b21, b22, b23, b24, b25, E0, e0, E1, e1, rfl, R14.p20 .., hinv⟩)
      simp only [execOp, R14.e1 hs0, R14.e2 hs0]
      go_simp
    · obtain rfl : b21 = false := by simpa using hlf
      refine wpOp_at rfl rfl ?_
      simp only [List.getElem_toArray, List.getElem_cons_zero, List.getElem_cons_succ]
      simp [Region.binds] at haf
      obtain ⟨a0, a1, a2, a3, a4, a5, a6, a7, a8, a9, a10, a11, a12⟩ := haf
      subst a0 a1 a2 a3 a4 a5 a6 a7 a8 a9 a10 a11 a12
      refine op_val (v := (.pointer (some ⟨g, k * 6 + 1, none⟩))) ?_ (show R14.J wr B2 g b k cap n css y0 y5 y2 y4 A0 A1 d0 d1 l0 l1 a0 _ _ _ from ⟨hB, true, true, true, b3, b4, b5, true, true, true, true, true, true, true, b13, b14, b15, b16, b17, true, true, true, true, b22, b23, b24, b25, E0, e0, E1, e1, rfl, R14.p21 .., hinv⟩)
      simp only [execOp, R14.e20 hs0]
      go_simp
    · obtain rfl : b22 = false := by simpa using hlf
      refine wpOp_at rfl rfl ?_
      simp only [List.getElem_toArray, List.getElem_cons_zero, List.getElem_cons_succ]
      simp [Region.binds] at haf
      obtain ⟨a0, a1, a2, a3, a4, a5, a6, a7, a8, a9, a10, a11, a12, a13, a14⟩ := haf
      subst a0 a1 a2 a3 a4 a5 a6 a7 a8 a9 a10 a11 a13
      obtain ⟨hF, hR, q12, q19, q22, q25⟩ := hinv
      have hcb : w'.cell? ⟨b, 4, none⟩ = some (.slice (some ⟨g, 0, none⟩) n cap) := (World.cell?_of_block (hF.block b hbl (by simpa using hbg))).trans hc
      have hx := hR.cell (get_set_self hcs _) (i := 1) rfl
      have hfz := hR.free (k * 6 + 1)
      have hrl := hR.lt
      have hfs := fr_sets (g := g) (w := w') (k * 6 + 1) (.slice E0 l0.length e0)
      have hn : ∀ T, 45 ∉ T → ∀ x, x ∈ [g] → ¬ NT wr.heap.size T w' x := fun T hT x hx => by
        obtain rfl := List.mem_singleton.1 hx
        exact hR.not hT
      have hR2 := hR.put (get_set_self hcs _) (i := 1) (by decide) (.slice E0 l0.length e0)
      rw [List.set_set] at hR2
      refine op_store (t := 43) (p := .pointer (some ⟨g, k * 6 + 1, none⟩)) (v := .slice E0 l0.length e0) rfl (by simp only [R14.e21 hs0, R14.e12 hs0]) (by simp only [R14.e21 hs0, R14.e12 hs0]) (w' := w'.setCell ⟨g, k * 6 + 1, none⟩ (.slice E0 l0.length e0)) (by go_simp) (show R14.J wr B2 g b k cap n css y0 y5 y2 y4 A0 A1 d0 d1 l0 l1 a0 _ _ _ from ⟨hB, true, true, true, b3, b4, b5, true, true, true, true, true, true, true, b13, b14, b15, b16, b17, true, true, b20, true, true, b23, b24, b25, E0, e0, E1, e1, rfl, rfl, hF.trans hfs (fun _ h _ => h), hR2, fun h => (q12 h).stay hfs (Nat.le_refl _) (hn _ (by decide)), fun h => (q19 h).stay hfs (Nat.le_refl _) (hn _ (by decide)), fun _ => ⟨rfl, rfl, rfl, rfl⟩, fun _ => rfl⟩)
    · obtain rfl : b23 = false := by simpa using hlf
      refine wpOp_at rfl rfl ?_
      simp only [List.getElem_toArray, List.getElem_cons_zero, List.getElem_cons_succ]
      simp [Region.binds] at haf
      obtain ⟨a0, a1, a2, a3, a4, a5, a6, a7, a8, a9, a10, a11, a12, a13, a14, a15, a16, a17, a18, a19, a20, a21, a22, a23, a24⟩ := haf
      subst a0 a1 a2 a3 a4 a5 a8 a9 a10 a11 a12 a13 a14 a15 a16 a17 a18 a19 a20 a21 a22 a23 a24
      refine op_val (v := (.pointer (some ⟨g, k * 6, none⟩))) ?_ (show R14.J wr B2 g b k cap n css y0 y5 y2 y4 A0 A1 d0 d1 l0 l1 a0 _ _ _ from ⟨hB, true, true, true, true, true, true, true, true, true, true, true, true, true, true, true, true, true, true, true, true, true, true, true, true, b24, b25, E0, e0, E1, e1, rfl, R14.p23 .., hinv⟩)
      simp only [execOp, R14.e4 hs0, R14.e5 hs0]
      go_simp
    · obtain rfl : b24 = false := by simpa using hlf
      refine wpOp_at rfl rfl ?_
      simp only [List.getElem_toArray, List.getElem_cons_zero, List.getElem_cons_succ]
      simp [Region.binds] at haf
      obtain ⟨a0, a1, a2, a3, a4, a5, a6, a7, a8, a9, a10, a11, a12, a13, a14, a15, a16, a17, a18, a19, a20, a21, a22, a23⟩ := haf
      subst a0 a1 a2 a3 a4 a5 a6 a7 a8 a9 a10 a11 a12 a13 a14 a15 a16 a17 a18 a19 a20 a21 a22 a23
      refine op_val (v := (.pointer (some ⟨g, k * 6 + 3, none⟩))) ?_ (show R14.J wr B2 g b k cap n css y0 y5 y2 y4 A0 A1 d0 d1 l0 l1 a0 _ _ _ from ⟨hB, true, true, true, true, true, true, true, true, true, true, true, true, true, true, true, true, true, true, true, true, true, true, true, true, true, b25, E0, e0, E1, e1, rfl, R14.p24 .., hinv⟩)
      simp only [execOp, R14.e23 hs0]
      go_simp
    · obtain rfl : b25 = false := by simpa using hlf
      refine wpOp_at rfl rfl ?_
      simp only [List.getElem_toArray, List.getElem_cons_zero, List.getElem_cons_succ]
      simp [Region.binds] at haf
      obtain ⟨a0, a1, a2, a3, a4, a5, a6, a7, a8, a9, a10, a11, a12, a13, a14, a15, a16, a17, a18, a19, a20, a21, a22, a23, a24, a25⟩ := haf
      subst a0 a1 a2 a3 a4 a5 a6 a7 a8 a9 a10 a11 a12 a13 a14 a15 a16 a17 a18 a19 a20 a21 a23 a24
      obtain ⟨hF, hR, q12, q19, q22, q25⟩ := hinv
      have hcb : w'.cell? ⟨b, 4, none⟩ = some (.slice (some ⟨g, 0, none⟩) n cap) := (World.cell?_of_block (hF.block b hbl (by simpa using hbg))).trans hc
      have hx := hR.cell (get_set_self hcs _) (i := 3) rfl
      have hfz := hR.free (k * 6 + 3)
      have hrl := hR.lt
      have hfs := fr_sets (g := g) (w := w') (k * 6 + 3) (.slice E1 l1.length e1)
      have hn : ∀ T, 45 ∉ T → ∀ x, x ∈ [g] → ¬ NT wr.heap.size T w' x := fun T hT x hx => by
        obtain rfl := List.mem_singleton.1 hx
        exact hR.not hT
      have hR2 := hR.put (get_set_self hcs _) (i := 3) (by decide) (.slice E1 l1.length e1)
      rw [List.set_set] at hR2
      refine op_store (t := 29) (p := .pointer (some ⟨g, k * 6 + 3, none⟩)) (v := .slice E1 l1.length e1) rfl (by simp only [R14.e24 hs0, R14.e19 hs0]) (by simp only [R14.e24 hs0, R14.e19 hs0]) (w' := w'.setCell ⟨g, k * 6 + 3, none⟩ (.slice E1 l1.length e1)) (by go_simp) (show R14.J wr B2 g b k cap n css y0 y5 y2 y4 A0 A1 d0 d1 l0 l1 a0 _ _ _ from ⟨hB, true, true, true, true, true, true, true, true, true, true, true, true, true, true, true, true, true, true, true, true, true, true, true, b23, true, true, E0, e0, E1, e1, rfl, rfl, hF.trans hfs (fun _ h _ => h), hR2, fun h => (q12 h).stay hfs (Nat.le_refl _) (hn _ (by decide)), fun h => (q19 h).stay hfs (Nat.le_refl _) (hn _ (by decide)), q22, fun _ => rfl⟩)
end Go.Proofs.Ytekfbafljilchaa
