/- lattice.Clone: an invoke's load (region 33; printed by r33.py). -/
import Derived.Test.YtekfbafljilchaaA4
import Derived.Test.YtekfbafljilchaaO0
import Derived.Shelf.Abstract
import Derived.Deep.DrawnRows
set_option linter.unusedVariables false
set_option linter.unusedSimpArgs false
namespace Go.Proofs.Ytekfbafljilchaa
open Go.RowKit Go.Lib
attribute [local go_sem ↓] Go.wp_at_zero Go.wp_at_succ
theorem set_same {α : Type} {l : List α} {k : Nat} {x : α} (h : l[k]? = some x) : l.set k x = l := by
  apply List.ext_getElem?
  intro i
  rw [List.getElem?_set]
  split
  · rename_i e
    subst e
    have hl : k < l.length := (List.getElem?_eq_some_iff.1 h).1
    rw [if_pos hl, h]
  · rfl
/-- The frame inside the region: what has come up lies in its slots. -/
def R33.A (wr : World) (B2 g b k cap n : Nat) (css : List (List Value)) (y0 y1 y6 : ByteArray) (y2 y4 y7 : Int) (y3 : Bool) (A0 : Option Addr) (d0 : Nat) (l0 : List DPar) (E0 : Option Addr) (e0 : Nat) (b0 b1 b2 b3 b4 b5 b6 b7 b8 b9 b10 b11 : Bool) (a0 : Act) : Act := putIf b0 190 (.pointer (some ⟨b, 7, none⟩)) (putIf b1 191 (.slice (some ⟨g, 0, none⟩) n cap) (putIf b2 192 (.int .i64 (k : Int)) (putIf b3 193 (.pointer (some ⟨b, 7, none⟩)) (putIf b4 194 (.slice (some ⟨g, 0, none⟩) n cap) (putIf b5 195 (.int .i64 (k : Int)) (putIf b6 196 (.pointer (some ⟨g, k * 8, none⟩)) (putIf b7 197 (.pointer (some ⟨g, k * 8 + 4, none⟩)) (putIf b8 198 (.agg #[.int .i64 y4, .slice A0 l0.length d0, .string y6]) (putIf b9 199 (.agg #[.int .i64 y4, .slice E0 l0.length e0, .string y6]) (putIf b10 200 (.pointer (some ⟨g, k * 8, none⟩)) (putIf b11 201 (.pointer (some ⟨g, k * 8 + 4, none⟩)) (a0))))))))))))
theorem R33.p0 (wr : World) (B2 g b k cap n : Nat) (css : List (List Value)) (y0 y1 y6 : ByteArray) (y2 y4 y7 : Int) (y3 : Bool) (A0 : Option Addr) (d0 : Nat) (l0 : List DPar) (E0 : Option Addr) (e0 : Nat)  (b1 b2 b3 b4 b5 b6 b7 b8 b9 b10 b11 : Bool) (a0 : Act) :
    (R33.A wr B2 g b k cap n css y0 y1 y6 y2 y4 y7 y3 A0 d0 l0 E0 e0 false b1 b2 b3 b4 b5 b6 b7 b8 b9 b10 b11 a0).put (some 190) (.pointer (some ⟨b, 7, none⟩)) = R33.A wr B2 g b k cap n css y0 y1 y6 y2 y4 y7 y3 A0 d0 l0 E0 e0 true b1 b2 b3 b4 b5 b6 b7 b8 b9 b10 b11 a0 := by
  simp only [R33.A, putIf_put, ne_eq, Nat.reduceEqDiff, not_false_eq_true]
  rfl
theorem R33.e0 {wr : World} {B2 g b k cap n : Nat} {css : List (List Value)} {y0 y1 y6 : ByteArray} {y2 y4 y7 : Int} {y3 : Bool} {A0 : Option Addr} {d0 : Nat} {l0 : List DPar} {E0 : Option Addr} {e0 : Nat} {b1 b2 b3 b4 b5 b6 b7 b8 b9 b10 b11 : Bool} {a0 : Act} (hs : a0.tmps.size = 204) : (R33.A wr B2 g b k cap n css y0 y1 y6 y2 y4 y7 y3 A0 d0 l0 E0 e0 true b1 b2 b3 b4 b5 b6 b7 b8 b9 b10 b11 a0).eval (.tmp 190) = (.pointer (some ⟨b, 7, none⟩)) := by
  simp [R33.A, eval_putIf, eval_put, size_putIf, hs]
theorem R33.p1 (wr : World) (B2 g b k cap n : Nat) (css : List (List Value)) (y0 y1 y6 : ByteArray) (y2 y4 y7 : Int) (y3 : Bool) (A0 : Option Addr) (d0 : Nat) (l0 : List DPar) (E0 : Option Addr) (e0 : Nat)  (b0 b2 b3 b4 b5 b6 b7 b8 b9 b10 b11 : Bool) (a0 : Act) :
    (R33.A wr B2 g b k cap n css y0 y1 y6 y2 y4 y7 y3 A0 d0 l0 E0 e0 b0 false b2 b3 b4 b5 b6 b7 b8 b9 b10 b11 a0).put (some 191) (.slice (some ⟨g, 0, none⟩) n cap) = R33.A wr B2 g b k cap n css y0 y1 y6 y2 y4 y7 y3 A0 d0 l0 E0 e0 b0 true b2 b3 b4 b5 b6 b7 b8 b9 b10 b11 a0 := by
  simp only [R33.A, putIf_put, ne_eq, Nat.reduceEqDiff, not_false_eq_true]
  rfl
theorem R33.e1 {wr : World} {B2 g b k cap n : Nat} {css : List (List Value)} {y0 y1 y6 : ByteArray} {y2 y4 y7 : Int} {y3 : Bool} {A0 : Option Addr} {d0 : Nat} {l0 : List DPar} {E0 : Option Addr} {e0 : Nat} {b0 b2 b3 b4 b5 b6 b7 b8 b9 b10 b11 : Bool} {a0 : Act} (hs : a0.tmps.size = 204) : (R33.A wr B2 g b k cap n css y0 y1 y6 y2 y4 y7 y3 A0 d0 l0 E0 e0 b0 true b2 b3 b4 b5 b6 b7 b8 b9 b10 b11 a0).eval (.tmp 191) = (.slice (some ⟨g, 0, none⟩) n cap) := by
  simp [R33.A, eval_putIf, eval_put, size_putIf, hs]
theorem R33.p2 (wr : World) (B2 g b k cap n : Nat) (css : List (List Value)) (y0 y1 y6 : ByteArray) (y2 y4 y7 : Int) (y3 : Bool) (A0 : Option Addr) (d0 : Nat) (l0 : List DPar) (E0 : Option Addr) (e0 : Nat)  (b0 b1 b3 b4 b5 b6 b7 b8 b9 b10 b11 : Bool) (a0 : Act) :
    (R33.A wr B2 g b k cap n css y0 y1 y6 y2 y4 y7 y3 A0 d0 l0 E0 e0 b0 b1 false b3 b4 b5 b6 b7 b8 b9 b10 b11 a0).put (some 192) (.int .i64 (k : Int)) = R33.A wr B2 g b k cap n css y0 y1 y6 y2 y4 y7 y3 A0 d0 l0 E0 e0 b0 b1 true b3 b4 b5 b6 b7 b8 b9 b10 b11 a0 := by
  simp only [R33.A, putIf_put, ne_eq, Nat.reduceEqDiff, not_false_eq_true]
  rfl
theorem R33.e2 {wr : World} {B2 g b k cap n : Nat} {css : List (List Value)} {y0 y1 y6 : ByteArray} {y2 y4 y7 : Int} {y3 : Bool} {A0 : Option Addr} {d0 : Nat} {l0 : List DPar} {E0 : Option Addr} {e0 : Nat} {b0 b1 b3 b4 b5 b6 b7 b8 b9 b10 b11 : Bool} {a0 : Act} (hs : a0.tmps.size = 204) : (R33.A wr B2 g b k cap n css y0 y1 y6 y2 y4 y7 y3 A0 d0 l0 E0 e0 b0 b1 true b3 b4 b5 b6 b7 b8 b9 b10 b11 a0).eval (.tmp 192) = (.int .i64 (k : Int)) := by
  simp [R33.A, eval_putIf, eval_put, size_putIf, hs]
theorem R33.p3 (wr : World) (B2 g b k cap n : Nat) (css : List (List Value)) (y0 y1 y6 : ByteArray) (y2 y4 y7 : Int) (y3 : Bool) (A0 : Option Addr) (d0 : Nat) (l0 : List DPar) (E0 : Option Addr) (e0 : Nat)  (b0 b1 b2 b4 b5 b6 b7 b8 b9 b10 b11 : Bool) (a0 : Act) :
    (R33.A wr B2 g b k cap n css y0 y1 y6 y2 y4 y7 y3 A0 d0 l0 E0 e0 b0 b1 b2 false b4 b5 b6 b7 b8 b9 b10 b11 a0).put (some 193) (.pointer (some ⟨b, 7, none⟩)) = R33.A wr B2 g b k cap n css y0 y1 y6 y2 y4 y7 y3 A0 d0 l0 E0 e0 b0 b1 b2 true b4 b5 b6 b7 b8 b9 b10 b11 a0 := by
  simp only [R33.A, putIf_put, ne_eq, Nat.reduceEqDiff, not_false_eq_true]
  rfl
theorem R33.e3 {wr : World} {B2 g b k cap n : Nat} {css : List (List Value)} {y0 y1 y6 : ByteArray} {y2 y4 y7 : Int} {y3 : Bool} {A0 : Option Addr} {d0 : Nat} {l0 : List DPar} {E0 : Option Addr} {e0 : Nat} {b0 b1 b2 b4 b5 b6 b7 b8 b9 b10 b11 : Bool} {a0 : Act} (hs : a0.tmps.size = 204) : (R33.A wr B2 g b k cap n css y0 y1 y6 y2 y4 y7 y3 A0 d0 l0 E0 e0 b0 b1 b2 true b4 b5 b6 b7 b8 b9 b10 b11 a0).eval (.tmp 193) = (.pointer (some ⟨b, 7, none⟩)) := by
  simp [R33.A, eval_putIf, eval_put, size_putIf, hs]
theorem R33.p4 (wr : World) (B2 g b k cap n : Nat) (css : List (List Value)) (y0 y1 y6 : ByteArray) (y2 y4 y7 : Int) (y3 : Bool) (A0 : Option Addr) (d0 : Nat) (l0 : List DPar) (E0 : Option Addr) (e0 : Nat)  (b0 b1 b2 b3 b5 b6 b7 b8 b9 b10 b11 : Bool) (a0 : Act) :
    (R33.A wr B2 g b k cap n css y0 y1 y6 y2 y4 y7 y3 A0 d0 l0 E0 e0 b0 b1 b2 b3 false b5 b6 b7 b8 b9 b10 b11 a0).put (some 194) (.slice (some ⟨g, 0, none⟩) n cap) = R33.A wr B2 g b k cap n css y0 y1 y6 y2 y4 y7 y3 A0 d0 l0 E0 e0 b0 b1 b2 b3 true b5 b6 b7 b8 b9 b10 b11 a0 := by
  simp only [R33.A, putIf_put, ne_eq, Nat.reduceEqDiff, not_false_eq_true]
  rfl
theorem R33.e4 {wr : World} {B2 g b k cap n : Nat} {css : List (List Value)} {y0 y1 y6 : ByteArray} {y2 y4 y7 : Int} {y3 : Bool} {A0 : Option Addr} {d0 : Nat} {l0 : List DPar} {E0 : Option Addr} {e0 : Nat} {b0 b1 b2 b3 b5 b6 b7 b8 b9 b10 b11 : Bool} {a0 : Act} (hs : a0.tmps.size = 204) : (R33.A wr B2 g b k cap n css y0 y1 y6 y2 y4 y7 y3 A0 d0 l0 E0 e0 b0 b1 b2 b3 true b5 b6 b7 b8 b9 b10 b11 a0).eval (.tmp 194) = (.slice (some ⟨g, 0, none⟩) n cap) := by
  simp [R33.A, eval_putIf, eval_put, size_putIf, hs]
theorem R33.p5 (wr : World) (B2 g b k cap n : Nat) (css : List (List Value)) (y0 y1 y6 : ByteArray) (y2 y4 y7 : Int) (y3 : Bool) (A0 : Option Addr) (d0 : Nat) (l0 : List DPar) (E0 : Option Addr) (e0 : Nat)  (b0 b1 b2 b3 b4 b6 b7 b8 b9 b10 b11 : Bool) (a0 : Act) :
    (R33.A wr B2 g b k cap n css y0 y1 y6 y2 y4 y7 y3 A0 d0 l0 E0 e0 b0 b1 b2 b3 b4 false b6 b7 b8 b9 b10 b11 a0).put (some 195) (.int .i64 (k : Int)) = R33.A wr B2 g b k cap n css y0 y1 y6 y2 y4 y7 y3 A0 d0 l0 E0 e0 b0 b1 b2 b3 b4 true b6 b7 b8 b9 b10 b11 a0 := by
  simp only [R33.A, putIf_put, ne_eq, Nat.reduceEqDiff, not_false_eq_true]
  rfl
theorem R33.e5 {wr : World} {B2 g b k cap n : Nat} {css : List (List Value)} {y0 y1 y6 : ByteArray} {y2 y4 y7 : Int} {y3 : Bool} {A0 : Option Addr} {d0 : Nat} {l0 : List DPar} {E0 : Option Addr} {e0 : Nat} {b0 b1 b2 b3 b4 b6 b7 b8 b9 b10 b11 : Bool} {a0 : Act} (hs : a0.tmps.size = 204) : (R33.A wr B2 g b k cap n css y0 y1 y6 y2 y4 y7 y3 A0 d0 l0 E0 e0 b0 b1 b2 b3 b4 true b6 b7 b8 b9 b10 b11 a0).eval (.tmp 195) = (.int .i64 (k : Int)) := by
  simp [R33.A, eval_putIf, eval_put, size_putIf, hs]
theorem R33.p6 (wr : World) (B2 g b k cap n : Nat) (css : List (List Value)) (y0 y1 y6 : ByteArray) (y2 y4 y7 : Int) (y3 : Bool) (A0 : Option Addr) (d0 : Nat) (l0 : List DPar) (E0 : Option Addr) (e0 : Nat)  (b0 b1 b2 b3 b4 b5 b7 b8 b9 b10 b11 : Bool) (a0 : Act) :
    (R33.A wr B2 g b k cap n css y0 y1 y6 y2 y4 y7 y3 A0 d0 l0 E0 e0 b0 b1 b2 b3 b4 b5 false b7 b8 b9 b10 b11 a0).put (some 196) (.pointer (some ⟨g, k * 8, none⟩)) = R33.A wr B2 g b k cap n css y0 y1 y6 y2 y4 y7 y3 A0 d0 l0 E0 e0 b0 b1 b2 b3 b4 b5 true b7 b8 b9 b10 b11 a0 := by
  simp only [R33.A, putIf_put, ne_eq, Nat.reduceEqDiff, not_false_eq_true]
  rfl
theorem R33.e6 {wr : World} {B2 g b k cap n : Nat} {css : List (List Value)} {y0 y1 y6 : ByteArray} {y2 y4 y7 : Int} {y3 : Bool} {A0 : Option Addr} {d0 : Nat} {l0 : List DPar} {E0 : Option Addr} {e0 : Nat} {b0 b1 b2 b3 b4 b5 b7 b8 b9 b10 b11 : Bool} {a0 : Act} (hs : a0.tmps.size = 204) : (R33.A wr B2 g b k cap n css y0 y1 y6 y2 y4 y7 y3 A0 d0 l0 E0 e0 b0 b1 b2 b3 b4 b5 true b7 b8 b9 b10 b11 a0).eval (.tmp 196) = (.pointer (some ⟨g, k * 8, none⟩)) := by
  simp [R33.A, eval_putIf, eval_put, size_putIf, hs]
theorem R33.p7 (wr : World) (B2 g b k cap n : Nat) (css : List (List Value)) (y0 y1 y6 : ByteArray) (y2 y4 y7 : Int) (y3 : Bool) (A0 : Option Addr) (d0 : Nat) (l0 : List DPar) (E0 : Option Addr) (e0 : Nat)  (b0 b1 b2 b3 b4 b5 b6 b8 b9 b10 b11 : Bool) (a0 : Act) :
    (R33.A wr B2 g b k cap n css y0 y1 y6 y2 y4 y7 y3 A0 d0 l0 E0 e0 b0 b1 b2 b3 b4 b5 b6 false b8 b9 b10 b11 a0).put (some 197) (.pointer (some ⟨g, k * 8 + 4, none⟩)) = R33.A wr B2 g b k cap n css y0 y1 y6 y2 y4 y7 y3 A0 d0 l0 E0 e0 b0 b1 b2 b3 b4 b5 b6 true b8 b9 b10 b11 a0 := by
  simp only [R33.A, putIf_put, ne_eq, Nat.reduceEqDiff, not_false_eq_true]
  rfl
theorem R33.e7 {wr : World} {B2 g b k cap n : Nat} {css : List (List Value)} {y0 y1 y6 : ByteArray} {y2 y4 y7 : Int} {y3 : Bool} {A0 : Option Addr} {d0 : Nat} {l0 : List DPar} {E0 : Option Addr} {e0 : Nat} {b0 b1 b2 b3 b4 b5 b6 b8 b9 b10 b11 : Bool} {a0 : Act} (hs : a0.tmps.size = 204) : (R33.A wr B2 g b k cap n css y0 y1 y6 y2 y4 y7 y3 A0 d0 l0 E0 e0 b0 b1 b2 b3 b4 b5 b6 true b8 b9 b10 b11 a0).eval (.tmp 197) = (.pointer (some ⟨g, k * 8 + 4, none⟩)) := by
  simp [R33.A, eval_putIf, eval_put, size_putIf, hs]
theorem R33.p8 (wr : World) (B2 g b k cap n : Nat) (css : List (List Value)) (y0 y1 y6 : ByteArray) (y2 y4 y7 : Int) (y3 : Bool) (A0 : Option Addr) (d0 : Nat) (l0 : List DPar) (E0 : Option Addr) (e0 : Nat)  (b0 b1 b2 b3 b4 b5 b6 b7 b9 b10 b11 : Bool) (a0 : Act) :
    (R33.A wr B2 g b k cap n css y0 y1 y6 y2 y4 y7 y3 A0 d0 l0 E0 e0 b0 b1 b2 b3 b4 b5 b6 b7 false b9 b10 b11 a0).put (some 198) (.agg #[.int .i64 y4, .slice A0 l0.length d0, .string y6]) = R33.A wr B2 g b k cap n css y0 y1 y6 y2 y4 y7 y3 A0 d0 l0 E0 e0 b0 b1 b2 b3 b4 b5 b6 b7 true b9 b10 b11 a0 := by
  simp only [R33.A, putIf_put, ne_eq, Nat.reduceEqDiff, not_false_eq_true]
  rfl
theorem R33.e8 {wr : World} {B2 g b k cap n : Nat} {css : List (List Value)} {y0 y1 y6 : ByteArray} {y2 y4 y7 : Int} {y3 : Bool} {A0 : Option Addr} {d0 : Nat} {l0 : List DPar} {E0 : Option Addr} {e0 : Nat} {b0 b1 b2 b3 b4 b5 b6 b7 b9 b10 b11 : Bool} {a0 : Act} (hs : a0.tmps.size = 204) : (R33.A wr B2 g b k cap n css y0 y1 y6 y2 y4 y7 y3 A0 d0 l0 E0 e0 b0 b1 b2 b3 b4 b5 b6 b7 true b9 b10 b11 a0).eval (.tmp 198) = (.agg #[.int .i64 y4, .slice A0 l0.length d0, .string y6]) := by
  simp [R33.A, eval_putIf, eval_put, size_putIf, hs]
theorem R33.p9 (wr : World) (B2 g b k cap n : Nat) (css : List (List Value)) (y0 y1 y6 : ByteArray) (y2 y4 y7 : Int) (y3 : Bool) (A0 : Option Addr) (d0 : Nat) (l0 : List DPar) (E0 : Option Addr) (e0 : Nat) (E0' : Option Addr) (e0' : Nat) (b0 b1 b2 b3 b4 b5 b6 b7 b8 b10 b11 : Bool) (a0 : Act) :
    (R33.A wr B2 g b k cap n css y0 y1 y6 y2 y4 y7 y3 A0 d0 l0 E0' e0' b0 b1 b2 b3 b4 b5 b6 b7 b8 false b10 b11 a0).put (some 199) (.agg #[.int .i64 y4, .slice E0 l0.length e0, .string y6]) = R33.A wr B2 g b k cap n css y0 y1 y6 y2 y4 y7 y3 A0 d0 l0 E0 e0 b0 b1 b2 b3 b4 b5 b6 b7 b8 true b10 b11 a0 := by
  simp only [R33.A, putIf_put, ne_eq, Nat.reduceEqDiff, not_false_eq_true]
  rfl
theorem R33.e9 {wr : World} {B2 g b k cap n : Nat} {css : List (List Value)} {y0 y1 y6 : ByteArray} {y2 y4 y7 : Int} {y3 : Bool} {A0 : Option Addr} {d0 : Nat} {l0 : List DPar} {E0 : Option Addr} {e0 : Nat} {b0 b1 b2 b3 b4 b5 b6 b7 b8 b10 b11 : Bool} {a0 : Act} (hs : a0.tmps.size = 204) : (R33.A wr B2 g b k cap n css y0 y1 y6 y2 y4 y7 y3 A0 d0 l0 E0 e0 b0 b1 b2 b3 b4 b5 b6 b7 b8 true b10 b11 a0).eval (.tmp 199) = (.agg #[.int .i64 y4, .slice E0 l0.length e0, .string y6]) := by
  simp [R33.A, eval_putIf, eval_put, size_putIf, hs]
theorem R33.p10 (wr : World) (B2 g b k cap n : Nat) (css : List (List Value)) (y0 y1 y6 : ByteArray) (y2 y4 y7 : Int) (y3 : Bool) (A0 : Option Addr) (d0 : Nat) (l0 : List DPar) (E0 : Option Addr) (e0 : Nat)  (b0 b1 b2 b3 b4 b5 b6 b7 b8 b9 b11 : Bool) (a0 : Act) :
    (R33.A wr B2 g b k cap n css y0 y1 y6 y2 y4 y7 y3 A0 d0 l0 E0 e0 b0 b1 b2 b3 b4 b5 b6 b7 b8 b9 false b11 a0).put (some 200) (.pointer (some ⟨g, k * 8, none⟩)) = R33.A wr B2 g b k cap n css y0 y1 y6 y2 y4 y7 y3 A0 d0 l0 E0 e0 b0 b1 b2 b3 b4 b5 b6 b7 b8 b9 true b11 a0 := by
  simp only [R33.A, putIf_put, ne_eq, Nat.reduceEqDiff, not_false_eq_true]
  rfl
theorem R33.e10 {wr : World} {B2 g b k cap n : Nat} {css : List (List Value)} {y0 y1 y6 : ByteArray} {y2 y4 y7 : Int} {y3 : Bool} {A0 : Option Addr} {d0 : Nat} {l0 : List DPar} {E0 : Option Addr} {e0 : Nat} {b0 b1 b2 b3 b4 b5 b6 b7 b8 b9 b11 : Bool} {a0 : Act} (hs : a0.tmps.size = 204) : (R33.A wr B2 g b k cap n css y0 y1 y6 y2 y4 y7 y3 A0 d0 l0 E0 e0 b0 b1 b2 b3 b4 b5 b6 b7 b8 b9 true b11 a0).eval (.tmp 200) = (.pointer (some ⟨g, k * 8, none⟩)) := by
  simp [R33.A, eval_putIf, eval_put, size_putIf, hs]
theorem R33.p11 (wr : World) (B2 g b k cap n : Nat) (css : List (List Value)) (y0 y1 y6 : ByteArray) (y2 y4 y7 : Int) (y3 : Bool) (A0 : Option Addr) (d0 : Nat) (l0 : List DPar) (E0 : Option Addr) (e0 : Nat)  (b0 b1 b2 b3 b4 b5 b6 b7 b8 b9 b10 : Bool) (a0 : Act) :
    (R33.A wr B2 g b k cap n css y0 y1 y6 y2 y4 y7 y3 A0 d0 l0 E0 e0 b0 b1 b2 b3 b4 b5 b6 b7 b8 b9 b10 false a0).put (some 201) (.pointer (some ⟨g, k * 8 + 4, none⟩)) = R33.A wr B2 g b k cap n css y0 y1 y6 y2 y4 y7 y3 A0 d0 l0 E0 e0 b0 b1 b2 b3 b4 b5 b6 b7 b8 b9 b10 true a0 := by
  simp only [R33.A, putIf_put, ne_eq, Nat.reduceEqDiff, not_false_eq_true]
  rfl
theorem R33.e11 {wr : World} {B2 g b k cap n : Nat} {css : List (List Value)} {y0 y1 y6 : ByteArray} {y2 y4 y7 : Int} {y3 : Bool} {A0 : Option Addr} {d0 : Nat} {l0 : List DPar} {E0 : Option Addr} {e0 : Nat} {b0 b1 b2 b3 b4 b5 b6 b7 b8 b9 b10 : Bool} {a0 : Act} (hs : a0.tmps.size = 204) : (R33.A wr B2 g b k cap n css y0 y1 y6 y2 y4 y7 y3 A0 d0 l0 E0 e0 b0 b1 b2 b3 b4 b5 b6 b7 b8 b9 b10 true a0).eval (.tmp 201) = (.pointer (some ⟨g, k * 8 + 4, none⟩)) := by
  simp [R33.A, eval_putIf, eval_put, size_putIf, hs]
theorem R33.z (wr : World) (B2 g b k cap n : Nat) (css : List (List Value)) (y0 y1 y6 : ByteArray) (y2 y4 y7 : Int) (y3 : Bool) (A0 : Option Addr) (d0 : Nat) (l0 : List DPar) (E0 : Option Addr) (e0 : Nat) (a0 : Act) : a0 = R33.A wr B2 g b k cap n css y0 y1 y6 y2 y4 y7 y3 A0 d0 l0 E0 e0 false false false false false false false false false false false false a0 := rfl
theorem R33.size {wr : World} {B2 g b k cap n : Nat} {css : List (List Value)} {y0 y1 y6 : ByteArray} {y2 y4 y7 : Int} {y3 : Bool} {A0 : Option Addr} {d0 : Nat} {l0 : List DPar} {E0 : Option Addr} {e0 : Nat} {b0 b1 b2 b3 b4 b5 b6 b7 b8 b9 b10 b11 : Bool} {a0 : Act} : (R33.A wr B2 g b k cap n css y0 y1 y6 y2 y4 y7 y3 A0 d0 l0 E0 e0 b0 b1 b2 b3 b4 b5 b6 b7 b8 b9 b10 b11 a0).tmps.size = a0.tmps.size := by
  simp [R33.A, size_putIf]
theorem R33.f1 {wr : World} {B2 g b k cap n : Nat} {css : List (List Value)} {y0 y1 y6 : ByteArray} {y2 y4 y7 : Int} {y3 : Bool} {A0 : Option Addr} {d0 : Nat} {l0 : List DPar} {E0 : Option Addr} {e0 : Nat} {b0 b1 b2 b3 b4 b5 b6 b7 b8 b9 b10 b11 : Bool} {a0 : Act} : (R33.A wr B2 g b k cap n css y0 y1 y6 y2 y4 y7 y3 A0 d0 l0 E0 e0 b0 b1 b2 b3 b4 b5 b6 b7 b8 b9 b10 b11 a0).eval (.tmp 1) = a0.eval (.tmp 1) := by
  simp [R33.A, eval_putIf]
theorem R33.f9 {wr : World} {B2 g b k cap n : Nat} {css : List (List Value)} {y0 y1 y6 : ByteArray} {y2 y4 y7 : Int} {y3 : Bool} {A0 : Option Addr} {d0 : Nat} {l0 : List DPar} {E0 : Option Addr} {e0 : Nat} {b0 b1 b2 b3 b4 b5 b6 b7 b8 b9 b10 b11 : Bool} {a0 : Act} : (R33.A wr B2 g b k cap n css y0 y1 y6 y2 y4 y7 y3 A0 d0 l0 E0 e0 b0 b1 b2 b3 b4 b5 b6 b7 b8 b9 b10 b11 a0).eval (.tmp 9) = a0.eval (.tmp 9) := by
  simp [R33.A, eval_putIf]
def R33.B (wr : World) (B2 g b k cap n : Nat) (css : List (List Value)) (y0 y1 y6 : ByteArray) (y2 y4 y7 : Int) (y3 : Bool) (A0 : Option Addr) (d0 : Nat) (l0 : List DPar) (a0 : Act) : Prop := a0.tmps.size = 204 ∧ a0.eval (.tmp 1) = (.pointer (some ⟨b, 0, none⟩)) ∧ a0.eval (.tmp 9) = (.int .i64 (k : Int))
def R33.I (wr : World) (B2 g b k cap n : Nat) (css : List (List Value)) (y0 y1 y6 : ByteArray) (y2 y4 y7 : Int) (y3 : Bool) (A0 : Option Addr) (d0 : Nat) (l0 : List DPar) (E0 : Option Addr) (e0 : Nat) (b0 b1 b2 b3 b4 b5 b6 b7 b8 b9 b10 b11 b12 : Bool) (w : World) : Prop := Fr [g] wr w ∧ RowAt 118 8 w B2 g cap n (css.set k [.string y0, .string y1, .int .i64 y2, .bool y3, .int .i64 y4, bif b12 then .slice E0 l0.length e0 else .slice A0 l0.length d0, .string y6, .int .i64 y7]) ∧ (b9 = true → Sl rPar (NT wr.heap.size [130] w) w (.slice E0 l0.length e0) l0) ∧ (b12 = true → b8 = true ∧ b9 = true)
/-- What stays true inside the region, whatever has come up. -/
def R33.J (wr : World) (B2 g b k cap n : Nat) (css : List (List Value)) (y0 y1 y6 : ByteArray) (y2 y4 y7 : Int) (y3 : Bool) (A0 : Option Addr) (d0 : Nat) (l0 : List DPar) (a0 : Act) (l : Array Bool) (a : Act) (w : World) : Prop :=
  R33.B wr B2 g b k cap n css y0 y1 y6 y2 y4 y7 y3 A0 d0 l0 a0 ∧ ∃ b0 b1 b2 b3 b4 b5 b6 b7 b8 b9 b10 b11 b12 E0 e0, l = #[b0, b1, b2, b3, b4, b5, b6, b7, b8, b9, b10, b11, b12] ∧ a = R33.A wr B2 g b k cap n css y0 y1 y6 y2 y4 y7 y3 A0 d0 l0 E0 e0 b0 b1 b2 b3 b4 b5 b6 b7 b8 b9 b10 b11 a0 ∧ R33.I wr B2 g b k cap n css y0 y1 y6 y2 y4 y7 y3 A0 d0 l0 E0 e0 b0 b1 b2 b3 b4 b5 b6 b7 b8 b9 b10 b11 b12 w
attribute [irreducible] R33.A

set_option maxRecDepth 100000 in
set_option maxHeartbeats 8000000 in
theorem clone33 {Q : Exit → Act → World → Prop} {t0 t2 t3 t4 t5 t6 t7 t8 t10 t11 t12 t13 t14 t15 t16 t17 t18 t19 t20 t21 t22 t23 t24 t25 t26 t27 t28 t29 t30 t31 t32 t33 t34 t35 t36 t37 t38 t39 t40 t41 t42 t43 t44 t45 t46 t47 t48 t49 t50 t51 t52 t53 t54 t55 t56 t57 t58 t59 t60 t61 t62 t63 t64 t65 t66 t67 t68 t69 t70 t71 t72 t73 t74 t75 t76 t77 t78 t79 t80 t81 t82 t83 t84 t85 t86 t87 t88 t89 t90 t91 t92 t93 t94 t95 t96 t97 t98 t99 t100 t101 t102 t103 t104 t105 t106 t107 t108 t109 t110 t111 t112 t113 t114 t115 t116 t117 t118 t119 t120 t121 t122 t123 t124 t125 t126 t127 t128 t129 t130 t131 t132 t133 t134 t135 t136 t137 t138 t139 t140 t141 t142 t143 t144 t145 t146 t147 t148 t149 t150 t151 t152 t153 t154 t155 t156 t157 t158 t159 t160 t161 t162 t163 t164 t165 t166 t167 t168 t169 t170 t171 t172 t173 t174 t175 t176 t177 t178 t179 t180 t181 t182 t183 t184 t185 t186 t187 t188 t189 t190 t191 t192 t193 t194 t195 t196 t197 t198 t199 t200 t201 t202 t203 : Value} {wr : World} {B2 g b k cap n : Nat} {css : List (List Value)} {y0 y1 y6 : ByteArray} {y2 y4 y7 : Int} {y3 : Bool} {A0 : Option Addr} {d0 : Nat} {l0 : List DPar} {B : Nat} {p : Nat → Prop} (hB : B ≤ wr.heap.size) (hrow : RowAt 118 8 wr B2 g cap n css) (hcs : css[k]? = some [.string y0, .string y1, .int .i64 y2, .bool y3, .int .i64 y4, .slice A0 l0.length d0, .string y6, .int .i64 y7]) (hk : k < n) (hn : n ≤ 140737488351232) (hbg : b ≠ g) (hpg : ¬ p g) (hc : wr.cell? ⟨b, 7, none⟩ = some (.slice (some ⟨g, 0, none⟩) n cap)) (h0 : Sl rPar p wr (.slice A0 l0.length d0) l0)
    (hQ : ∀ (u190 u191 u192 u193 u194 u195 u196 u197 u198 u199 u200 u201 : Value) (wx : World), (∃ A0 d0, Fr [g] wr wx ∧ RowAt 118 8 wx B2 g cap n (css.set k [.string y0, .string y1, .int .i64 y2, .bool y3, .int .i64 y4, .slice A0 l0.length d0, .string y6, .int .i64 y7]) ∧ Sl rPar (NT B [130] wx) wx (.slice A0 l0.length d0) l0) → Q .normal ⟨#[t0, (.pointer (some ⟨b, 0, none⟩)), t2, t3, t4, t5, t6, t7, t8, (.int .i64 (k : Int)), t10, t11, t12, t13, t14, t15, t16, t17, t18, t19, t20, t21, t22, t23, t24, t25, t26, t27, t28, t29, t30, t31, t32, t33, t34, t35, t36, t37, t38, t39, t40, t41, t42, t43, t44, t45, t46, t47, t48, t49, t50, t51, t52, t53, t54, t55, t56, t57, t58, t59, t60, t61, t62, t63, t64, t65, t66, t67, t68, t69, t70, t71, t72, t73, t74, t75, t76, t77, t78, t79, t80, t81, t82, t83, t84, t85, t86, t87, t88, t89, t90, t91, t92, t93, t94, t95, t96, t97, t98, t99, t100, t101, t102, t103, t104, t105, t106, t107, t108, t109, t110, t111, t112, t113, t114, t115, t116, t117, t118, t119, t120, t121, t122, t123, t124, t125, t126, t127, t128, t129, t130, t131, t132, t133, t134, t135, t136, t137, t138, t139, t140, t141, t142, t143, t144, t145, t146, t147, t148, t149, t150, t151, t152, t153, t154, t155, t156, t157, t158, t159, t160, t161, t162, t163, t164, t165, t166, t167, t168, t169, t170, t171, t172, t173, t174, t175, t176, t177, t178, t179, t180, t181, t182, t183, t184, t185, t186, t187, t188, t189, u190, u191, u192, u193, u194, u195, u196, u197, u198, u199, u200, u201, t202, t203], []⟩ wx) :
    (regAt Try.f45 33).wp Try.prog Q ⟨#[t0, (.pointer (some ⟨b, 0, none⟩)), t2, t3, t4, t5, t6, t7, t8, (.int .i64 (k : Int)), t10, t11, t12, t13, t14, t15, t16, t17, t18, t19, t20, t21, t22, t23, t24, t25, t26, t27, t28, t29, t30, t31, t32, t33, t34, t35, t36, t37, t38, t39, t40, t41, t42, t43, t44, t45, t46, t47, t48, t49, t50, t51, t52, t53, t54, t55, t56, t57, t58, t59, t60, t61, t62, t63, t64, t65, t66, t67, t68, t69, t70, t71, t72, t73, t74, t75, t76, t77, t78, t79, t80, t81, t82, t83, t84, t85, t86, t87, t88, t89, t90, t91, t92, t93, t94, t95, t96, t97, t98, t99, t100, t101, t102, t103, t104, t105, t106, t107, t108, t109, t110, t111, t112, t113, t114, t115, t116, t117, t118, t119, t120, t121, t122, t123, t124, t125, t126, t127, t128, t129, t130, t131, t132, t133, t134, t135, t136, t137, t138, t139, t140, t141, t142, t143, t144, t145, t146, t147, t148, t149, t150, t151, t152, t153, t154, t155, t156, t157, t158, t159, t160, t161, t162, t163, t164, t165, t166, t167, t168, t169, t170, t171, t172, t173, t174, t175, t176, t177, t178, t179, t180, t181, t182, t183, t184, t185, t186, t187, t188, t189, t190, t191, t192, t193, t194, t195, t196, t197, t198, t199, t200, t201, t202, t203], []⟩ wr := by
  have hbl := World.block_lt_of_cell? wr _ hc
  have hk0 : (0 : Int) ≤ (k : Int) := by omega
  have hk1 : (k : Int) < (n : Int) := by omega
  refine Code.wp_mono (Q := OnlyN (fun a w => Q .normal a w)) onlyN_imp ?_
  conv => arg 2; whnf
  dsimp only
  refine region_inv (by kernel_rfl) (fun a0 l a w => R33.J wr B2 g b k cap n css y0 y1 y6 y2 y4 y7 y3 A0 d0 l0 a0 l a w) ?_ ?_ ?_
  · refine ⟨⟨rfl, rfl, rfl⟩, false, false, false, false, false, false, false, false, false, false, false, false, false, none, 0, rfl, R33.z .., (Fr.refl _ _).drew, ?_, (fun h => by cases h), (fun h => by cases h)⟩
    have := hrow.fr ((Fr.refl [] wr).drew) (by simp)
    simp only [cond_false]
    rw [set_same hcs]
    exact this
  · intro l a' w' hJ hi
    obtain ⟨-, b0, b1, b2, b3, b4, b5, b6, b7, b8, b9, b10, b11, b12, E0, e0, rfl, rfl, hinv⟩ := hJ
    have t0 : b0 = true := ready_nil hi 0 (by decide) (by simp [Region.binds])
    have t1 : b1 = true := ready_nil hi 1 (by decide) (by simp [Region.binds, t0])
    have t2 : b2 = true := ready_nil hi 2 (by decide) (by simp [Region.binds])
    have t3 : b3 = true := ready_nil hi 3 (by decide) (by simp [Region.binds])
    have t4 : b4 = true := ready_nil hi 4 (by decide) (by simp [Region.binds, t3])
    have t5 : b5 = true := ready_nil hi 5 (by decide) (by simp [Region.binds])
    have t6 : b6 = true := ready_nil hi 6 (by decide) (by simp [Region.binds, t4, t5])
    have t7 : b7 = true := ready_nil hi 7 (by decide) (by simp [Region.binds, t6])
    have t8 : b8 = true := ready_nil hi 8 (by decide) (by simp [Region.binds, t7])
    have t9 : b9 = true := ready_nil hi 9 (by decide) (by simp [Region.binds, t8])
    have t10 : b10 = true := ready_nil hi 10 (by decide) (by simp [Region.binds, t0, t1, t2, t3, t4, t5, t6, t7, t8, t9])
    have t11 : b11 = true := ready_nil hi 11 (by decide) (by simp [Region.binds, t0, t1, t2, t3, t4, t5, t6, t7, t8, t9, t10])
    have t12 : b12 = true := ready_nil hi 12 (by decide) (by simp [Region.binds, t0, t1, t2, t3, t4, t5, t6, t7, t8, t9, t11])
    subst t0 t1 t2 t3 t4 t5 t6 t7 t8 t9 t10 t11 t12
    clear hi
    obtain ⟨hF, hR, q9, q12⟩ := hinv
    simp only [OnlyN, R33.A, putIf_true, Act.put, List.setIfInBounds_toArray, List.set_cons_zero, List.set_cons_succ]
    simp only [cond_true] at hR
    exact hQ _ _ _ _ _ _ _ _ _ _ _ _ _ ⟨E0, e0, hF, hR, (q9 rfl).fr (NT.wide hB (fun _ h => h))⟩
  · intro a0 l a' w' i hJ hi
    obtain ⟨hB, b0, b1, b2, b3, b4, b5, b6, b7, b8, b9, b10, b11, b12, E0, e0, rfl, rfl, hinv⟩ := hJ
    have hBB := hB
    obtain ⟨hs0, g1, g9⟩ := hBB
    obtain ⟨h10, hlf, haf⟩ := mem_ready hi
    clear hi
    have hc : i = 0 ∨ i = 1 ∨ i = 2 ∨ i = 3 ∨ i = 4 ∨ i = 5 ∨ i = 6 ∨ i = 7 ∨ i = 8 ∨ i = 9 ∨ i = 10 ∨ i = 11 ∨ i = 12 := by
      have : i < 13 := h10
      omega
    clear h10
    rcases hc with rfl | rfl | rfl | rfl | rfl | rfl | rfl | rfl | rfl | rfl | rfl | rfl | rfl
    · obtain rfl : b0 = false := by simpa using hlf
      refine wpOp_at rfl rfl ?_
      simp only [List.getElem_toArray, List.getElem_cons_zero, List.getElem_cons_succ]
      refine op_val (v := (.pointer (some ⟨b, 7, none⟩))) ?_ (show R33.J wr B2 g b k cap n css y0 y1 y6 y2 y4 y7 y3 A0 d0 l0 a0 _ _ _ from ⟨hB, true, b1, b2, b3, b4, b5, b6, b7, b8, b9, b10, b11, b12, E0, e0, rfl, R33.p0 .., hinv⟩)
      simp only [execOp, R33.f1, g1]
      go_simp
    · obtain rfl : b1 = false := by simpa using hlf
      refine wpOp_at rfl rfl ?_
      simp only [List.getElem_toArray, List.getElem_cons_zero, List.getElem_cons_succ]
      simp [Region.binds] at haf
      subst haf
      obtain ⟨hF, hR, q9, q12⟩ := hinv
      have hcb : w'.cell? ⟨b, 7, none⟩ = some (.slice (some ⟨g, 0, none⟩) n cap) := (World.cell?_of_block (hF.block b hbl (by simpa using hbg))).trans hc
      refine op_val (v := (.slice (some ⟨g, 0, none⟩) n cap)) ?_ (show R33.J wr B2 g b k cap n css y0 y1 y6 y2 y4 y7 y3 A0 d0 l0 a0 _ _ _ from ⟨hB, true, true, b2, b3, b4, b5, b6, b7, b8, b9, b10, b11, b12, E0, e0, rfl, R33.p1 .., hF, hR, q9, q12⟩)
      simp only [execOp, R33.e0 hs0]
      go_simp
    · obtain rfl : b2 = false := by simpa using hlf
      refine wpOp_at rfl rfl ?_
      simp only [List.getElem_toArray, List.getElem_cons_zero, List.getElem_cons_succ]
      refine op_val (v := (.int .i64 (k : Int))) ?_ (show R33.J wr B2 g b k cap n css y0 y1 y6 y2 y4 y7 y3 A0 d0 l0 a0 _ _ _ from ⟨hB, b0, b1, true, b3, b4, b5, b6, b7, b8, b9, b10, b11, b12, E0, e0, rfl, R33.p2 .., hinv⟩)
      simp only [execOp, R33.f9, g9]
      go_simp
    · obtain rfl : b3 = false := by simpa using hlf
      refine wpOp_at rfl rfl ?_
      simp only [List.getElem_toArray, List.getElem_cons_zero, List.getElem_cons_succ]
      refine op_val (v := (.pointer (some ⟨b, 7, none⟩))) ?_ (show R33.J wr B2 g b k cap n css y0 y1 y6 y2 y4 y7 y3 A0 d0 l0 a0 _ _ _ from ⟨hB, b0, b1, b2, true, b4, b5, b6, b7, b8, b9, b10, b11, b12, E0, e0, rfl, R33.p3 .., hinv⟩)
      simp only [execOp, R33.f1, g1]
      go_simp
    · obtain rfl : b4 = false := by simpa using hlf
      refine wpOp_at rfl rfl ?_
      simp only [List.getElem_toArray, List.getElem_cons_zero, List.getElem_cons_succ]
      simp [Region.binds] at haf
      subst haf
      obtain ⟨hF, hR, q9, q12⟩ := hinv
      have hcb : w'.cell? ⟨b, 7, none⟩ = some (.slice (some ⟨g, 0, none⟩) n cap) := (World.cell?_of_block (hF.block b hbl (by simpa using hbg))).trans hc
      refine op_val (v := (.slice (some ⟨g, 0, none⟩) n cap)) ?_ (show R33.J wr B2 g b k cap n css y0 y1 y6 y2 y4 y7 y3 A0 d0 l0 a0 _ _ _ from ⟨hB, b0, b1, b2, true, true, b5, b6, b7, b8, b9, b10, b11, b12, E0, e0, rfl, R33.p4 .., hF, hR, q9, q12⟩)
      simp only [execOp, R33.e3 hs0]
      go_simp
    · obtain rfl : b5 = false := by simpa using hlf
      refine wpOp_at rfl rfl ?_
      simp only [List.getElem_toArray, List.getElem_cons_zero, List.getElem_cons_succ]
      refine op_val (v := (.int .i64 (k : Int))) ?_ (show R33.J wr B2 g b k cap n css y0 y1 y6 y2 y4 y7 y3 A0 d0 l0 a0 _ _ _ from ⟨hB, b0, b1, b2, b3, b4, true, b6, b7, b8, b9, b10, b11, b12, E0, e0, rfl, R33.p5 .., hinv⟩)
      simp only [execOp, R33.f9, g9]
      go_simp
    · obtain rfl : b6 = false := by simpa using hlf
      refine wpOp_at rfl rfl ?_
      simp only [List.getElem_toArray, List.getElem_cons_zero, List.getElem_cons_succ]
      simp [Region.binds] at haf
      obtain ⟨a0, a1⟩ := haf
      subst a0 a1
      refine op_val (v := (.pointer (some ⟨g, k * 8, none⟩))) ?_ (show R33.J wr B2 g b k cap n css y0 y1 y6 y2 y4 y7 y3 A0 d0 l0 a0 _ _ _ from ⟨hB, b0, b1, b2, b3, true, true, true, b7, b8, b9, b10, b11, b12, E0, e0, rfl, R33.p6 .., hinv⟩)
      simp only [execOp, R33.e4 hs0, R33.e5 hs0]
      go_simp
    · obtain rfl : b7 = false := by simpa using hlf
      refine wpOp_at rfl rfl ?_
      simp only [List.getElem_toArray, List.getElem_cons_zero, List.getElem_cons_succ]
      simp [Region.binds] at haf
      subst haf
      refine op_val (v := (.pointer (some ⟨g, k * 8 + 4, none⟩))) ?_ (show R33.J wr B2 g b k cap n css y0 y1 y6 y2 y4 y7 y3 A0 d0 l0 a0 _ _ _ from ⟨hB, b0, b1, b2, b3, b4, b5, true, true, b8, b9, b10, b11, b12, E0, e0, rfl, R33.p7 .., hinv⟩)
      simp only [execOp, R33.e6 hs0]
      go_simp
    · obtain rfl : b8 = false := by simpa using hlf
      refine wpOp_at rfl rfl ?_
      simp only [List.getElem_toArray, List.getElem_cons_zero, List.getElem_cons_succ]
      simp [Region.binds] at haf
      subst haf
      obtain ⟨hF, hR, q9, q12⟩ := hinv
      have hcb : w'.cell? ⟨b, 7, none⟩ = some (.slice (some ⟨g, 0, none⟩) n cap) := (World.cell?_of_block (hF.block b hbl (by simpa using hbg))).trans hc
      have e12 : b12 = false := by
        cases hb : b12 with
        | false => rfl
        | true => have := q12 hb; simp at this
      subst e12
      have hx4 := hR.cell (get_set_self hcs _) (i := 4) rfl
      have hx5 := hR.cell (get_set_self hcs _) (i := 5) rfl
      have hx6 := hR.cell (get_set_self hcs _) (i := 6) rfl
      simp only [cond_false] at hx5
      refine op_val (v := (.agg #[.int .i64 y4, .slice A0 l0.length d0, .string y6])) ?_ (show R33.J wr B2 g b k cap n css y0 y1 y6 y2 y4 y7 y3 A0 d0 l0 a0 _ _ _ from ⟨hB, b0, b1, b2, b3, b4, b5, b6, true, true, b9, b10, b11, false, E0, e0, rfl, R33.p8 .., hF, hR, q9, (fun h => by cases h)⟩)
      simp only [execOp, R33.e7 hs0]
      go_simp
    · obtain rfl : b9 = false := by simpa using hlf
      refine wpOp_at rfl rfl ?_
      simp only [List.getElem_toArray, List.getElem_cons_zero, List.getElem_cons_succ]
      simp [Region.binds] at haf
      subst haf
      obtain ⟨hF, hR, q9, q12⟩ := hinv
      have hcb : w'.cell? ⟨b, 7, none⟩ = some (.slice (some ⟨g, 0, none⟩) n cap) := (World.cell?_of_block (hF.block b hbl (by simpa using hbg))).trans hc
      have e12 : b12 = false := by
        cases hb : b12 with
        | false => rfl
        | true => have := q12 hb; simp at this
      subst e12
      refine op_call (f := 84) rfl (vs := #[.agg #[.int .i64 y4, .slice A0 l0.length d0, .string y6]]) (by simp [R33.e8 hs0]) (fun w => enters_of Try.func84 (by kernel_rfl) rfl _ w) ?_
      refine (load_from w' w' p _ _ l0 _ (Fr.refl _ _) (h0.fr (fun k hp hk => ⟨hp, hF.block k hk (by simp; rintro rfl; exact hpg hp)⟩))).mono ?_
      rintro e w3 ⟨a3, q3, rfl, f3, s3⟩
      exact ⟨_, rfl, hB, b0, b1, b2, b3, b4, b5, b6, b7, true, true, b10, b11, false, a3, q3, rfl, R33.p9 .., hF.trans' f3, hR.fr f3 (by simp), fun _ => s3.fr (NT.wide hF.size (fun _ h => h)), (fun h => by cases h)⟩
    · obtain rfl : b10 = false := by simpa using hlf
      refine wpOp_at rfl rfl ?_
      simp only [List.getElem_toArray, List.getElem_cons_zero, List.getElem_cons_succ]
      simp [Region.binds] at haf
      obtain ⟨a0, a1, a2, a3, a4, a5, a6, a7, a8, a9, a10, a11⟩ := haf
      subst a0 a1 a2 a5 a6 a7 a8 a9 a10 a11
      refine op_val (v := (.pointer (some ⟨g, k * 8, none⟩))) ?_ (show R33.J wr B2 g b k cap n css y0 y1 y6 y2 y4 y7 y3 A0 d0 l0 a0 _ _ _ from ⟨hB, true, true, true, true, true, true, true, true, true, true, true, b11, b12, E0, e0, rfl, R33.p10 .., hinv⟩)
      simp only [execOp, R33.e1 hs0, R33.e2 hs0]
      go_simp
    · obtain rfl : b11 = false := by simpa using hlf
      refine wpOp_at rfl rfl ?_
      simp only [List.getElem_toArray, List.getElem_cons_zero, List.getElem_cons_succ]
      simp [Region.binds] at haf
      obtain ⟨a0, a1, a2, a3, a4, a5, a6, a7, a8, a9, a10⟩ := haf
      subst a0 a1 a2 a3 a4 a5 a6 a7 a8 a9 a10
      refine op_val (v := (.pointer (some ⟨g, k * 8 + 4, none⟩))) ?_ (show R33.J wr B2 g b k cap n css y0 y1 y6 y2 y4 y7 y3 A0 d0 l0 a0 _ _ _ from ⟨hB, true, true, true, true, true, true, true, true, true, true, true, true, b12, E0, e0, rfl, R33.p11 .., hinv⟩)
      simp only [execOp, R33.e10 hs0]
      go_simp
    · obtain rfl : b12 = false := by simpa using hlf
      refine wpOp_at rfl rfl ?_
      simp only [List.getElem_toArray, List.getElem_cons_zero, List.getElem_cons_succ]
      simp [Region.binds] at haf
      obtain ⟨a0, a1, a2, a3, a4, a5, a6, a7, a8, a9, a10, a11⟩ := haf
      subst a0 a1 a2 a3 a4 a5 a6 a7 a8 a9 a10
      obtain ⟨hF, hR, q9, q12⟩ := hinv
      have hcb : w'.cell? ⟨b, 7, none⟩ = some (.slice (some ⟨g, 0, none⟩) n cap) := (World.cell?_of_block (hF.block b hbl (by simpa using hbg))).trans hc
      have hx4 := hR.cell (get_set_self hcs _) (i := 4) rfl
      have hx5 := hR.cell (get_set_self hcs _) (i := 5) rfl
      have hx6 := hR.cell (get_set_self hcs _) (i := 6) rfl
      simp only [cond_false] at hx5
      have hfz := hR.free
      have hrl := hR.lt
      have hfs : Fr [g] w' (((w'.setCell ⟨g, k * 8 + 4, none⟩ (.int .i64 y4)).setCell ⟨g, k * 8 + 5, none⟩ (.slice E0 l0.length e0)).setCell ⟨g, k * 8 + 6, none⟩ (.string y6)) := (((Fr.refl _ _).setCell (by simp) _).setCell (by simp) _).setCell (by simp) _
      have hn : ∀ T, 118 ∉ T → ∀ x, x ∈ [g] → ¬ NT wr.heap.size T w' x := fun T hT x hx => by
        obtain rfl := List.mem_singleton.1 hx
        exact hR.not hT
      have hR2 := hR.put3 (get_set_self hcs _) (i := 4) (j := 5) (m := 6) (by decide) (by decide) (by decide) (.int .i64 y4) (.slice E0 l0.length e0) (.string y6)
      rw [List.set_set] at hR2
      refine op_store (t := 48) (p := .pointer (some ⟨g, k * 8 + 4, none⟩)) (v := .agg #[.int .i64 y4, .slice E0 l0.length e0, .string y6]) rfl (by simp only [R33.e11 hs0, R33.e9 hs0]) (by simp only [R33.e11 hs0, R33.e9 hs0]) (w' := ((w'.setCell ⟨g, k * 8 + 4, none⟩ (.int .i64 y4)).setCell ⟨g, k * 8 + 5, none⟩ (.slice E0 l0.length e0)).setCell ⟨g, k * 8 + 6, none⟩ (.string y6)) (by go_simp) (show R33.J wr B2 g b k cap n css y0 y1 y6 y2 y4 y7 y3 A0 d0 l0 a0 _ _ _ from ⟨hB, true, true, true, true, true, true, true, true, true, true, b10, true, true, E0, e0, rfl, rfl, hF.trans hfs (fun _ h _ => h), hR2, fun h => (q9 h).stay hfs (Nat.le_refl _) (hn _ (by decide)), fun _ => ⟨rfl, rfl⟩⟩)
end Go.Proofs.Ytekfbafljilchaa
