/- Common: its closures. -/
import Derived.Test.YtekfbafljilchaaD1
import Derived.Test.YtekfbafljilchaaA4
import Derived.Test.YtekfbafljilchaaO0
import Derived.Shelf.Abstract
import Derived.Test.YtekfbafljilchaaF2
import Derived.Test.YtekfbafljilchaaE6
import Derived.Deep.RegionHeld3
import Derived.Deep.RegionWith
import Derived.Deep.DrawnRows
set_option linter.unusedVariables false
set_option linter.unusedSimpArgs false
namespace Go.Proofs.Ytekfbafljilchaa
open Go.RowKit Go.Lib

theorem com_state (W : World) (g : Nat) (c : DChart) (bl : Nat) (tl : TypeId) (hL : Lat (fun _ => True) W g c) (hbl : Blk W bl #[.pointer (some ⟨g, 0, none⟩)] tl) (l : List Int) :
    Says 78 #[.pointer (some ⟨bl, 0, none⟩)] (fun x => !isSt c x) l W := by
  refine ⟨enters_of Try.func78 (by kernel_rfl) rfl, fun x hx W' f => ?_⟩
  have hL' := hL.on f
  have kl := (hbl.fr f (by simp)).cell 0
  simp at kl
  have hst := state_any W' g c x hL'
  obtain ⟨z, hz⟩ : ∃ z, z = isSt c x := ⟨_, rfl⟩
  simp only [← hz] at hst ⊢
  clear hz hL hL' hbl hx
  show Calls Try.prog 78 #[.int .i64 x, .pointer (some ⟨bl, 0, none⟩)] W' _
  go_enter Try.func78, Try.ntmps78
  go_wp2_with fail
  refine hst.mono ?_
  rintro e w' ⟨rfl, rfl⟩
  go_wp2
  go_ret
  exact ⟨rfl, Fr.refl _ _⟩
set_option maxHeartbeats 2000000 in
theorem com_above (W : World) (g : Nat) (c : DChart) (p : Nat) (hp : p < c.states.length) (bl bp : Nat) (tl tp : TypeId) (hL : Lat (fun _ => True) W g c) (hbl : Blk W bl #[.pointer (some ⟨g, 0, none⟩)] tl) (hbp : Blk W bp #[.int .i64 p] tp) (l : List Int) (hl : ∀ x, x ∈ l → isSt c x = true) :
    Says 79 #[.pointer (some ⟨bl, 0, none⟩), .pointer (some ⟨bp, 0, none⟩)] (fun x => !ab c x.toNat p) l W := by
  refine ⟨enters_of Try.func79 (by kernel_rfl) rfl, fun x hx W' f => ?_⟩
  obtain ⟨a, rfl, ha⟩ := isSt_true (hl x hx)
  have hL' := hL.on f
  have kl := (hbl.fr f (by simp)).cell 0
  have kp := (hbp.fr f (by simp)).cell 0
  simp at kl kp
  obtain ⟨As, cs, At, ct, Aa, ca, Ak, ck, hC⟩ := hL'.open_
  have h8 := hC.a
  have hg := hL'.lt
  have ha0 : (0 : Int) ≤ (a : Int) := by omega
  have haz : (a : Int) < (c.states.length : Int) := by omega
  have hp0 : (0 : Int) ≤ (p : Int) := by omega
  have hpz : (p : Int) < (c.states.length : Int) := by omega
  obtain ⟨ga, oa, gb, ob, db, rfl, r1, r2⟩ := hC.row ha hp
  show Calls Try.prog 79 #[.int .i64 a, .pointer (some ⟨bl, 0, none⟩), .pointer (some ⟨bp, 0, none⟩)] W' _
  show Calls Try.prog 79 _ W' fun e w' => e = .returned (.bool (!ab c a p)) ∧ Fr [] W' w'
  clear hC hL hL' hbl hbp hx hl
  go_enter Try.func79, Try.ntmps79
  go_wp2
  go_quiet (fail)
  go_wp2
  go_ret
  exact ⟨rfl, (Fr.refl _ _).drewN _⟩
end Go.Proofs.Ytekfbafljilchaa

/- lattice.Common: region 6 at a state of another kind (printed by com6.py). -/
set_option linter.unusedVariables false
set_option linter.unusedSimpArgs false
namespace Go.Proofs.Ytekfbafljilchaa
open Go.RowKit Go.Lib

theorem wpOp_skip {P : Program} {ops : Array Oper} {Q : Exit → Act → World → Prop} {i : Nat} {K : Act → World → Prop} {a : Act} {w : World} {o : Oper} {j : Nat} {b b' : Bool} (ho : ops[i]? = some o) (hg : o.guard = some (j, b)) (hy : yielded ops a.tmps j = some b') (hne : b' ≠ b) (h : K (a.put o.dst undef) w) : wpOp P ops Q i K a w := by
  have hw : Region.wanted o (yielded ops a.tmps) = false := by simp [Region.wanted, hg, hy, hne]
  unfold wpOp
  simp only [ho, hw]
  exact h
/-- The frame inside the region: what has come up lies in its slots. -/
def C6.A (wr : World) (bl bp g gs os p n cs : Nat) (kd : Int)  (b0 b1 b2 b3 b4 b5 b6 b7 b8 b9 b10 b11 b12 b13 b14 b15 : Bool) (a0 : Act) : Act := putIf b0 25 (.pointer (some ⟨g, 0, none⟩)) (putIf b1 26 (.pointer (some ⟨g, 0, none⟩)) (putIf b2 27 (.pointer (some ⟨g, 0, none⟩)) (putIf b3 28 (.pointer (some ⟨g, 3, none⟩)) (putIf b4 29 (.slice (some ⟨gs, os, none⟩) n cs) (putIf b5 30 (.int .i64 (p : Int)) (putIf b6 31 (.pointer (some ⟨gs, os + p * 13, none⟩)) (putIf b7 32 (.pointer (some ⟨gs, os + p * 13 + 1, none⟩)) (putIf b8 33 (.int .i64 kd) (putIf b9 34 (.bool false) (putIf b10 35 (.bool false) (putIf b11 36 undef (putIf b12 37 undef (putIf b13 38 undef (putIf b14 39 undef (putIf b15 40 (.bool false) (a0))))))))))))))))
theorem C6.p0 (wr : World) (bl bp g gs os p n cs : Nat) (kd : Int)   (b1 b2 b3 b4 b5 b6 b7 b8 b9 b10 b11 b12 b13 b14 b15 : Bool) (a0 : Act) :
    (C6.A wr bl bp g gs os p n cs kd  false b1 b2 b3 b4 b5 b6 b7 b8 b9 b10 b11 b12 b13 b14 b15 a0).put (some 25) (.pointer (some ⟨g, 0, none⟩)) = C6.A wr bl bp g gs os p n cs kd  true b1 b2 b3 b4 b5 b6 b7 b8 b9 b10 b11 b12 b13 b14 b15 a0 := by
  simp only [C6.A, putIf_put, ne_eq, Nat.reduceEqDiff, not_false_eq_true]
  rfl
theorem C6.e0 {wr : World} {bl bp g gs os p n cs : Nat} {kd : Int}  {b1 b2 b3 b4 b5 b6 b7 b8 b9 b10 b11 b12 b13 b14 b15 : Bool} {a0 : Act} (hs : a0.tmps.size = 43) : (C6.A wr bl bp g gs os p n cs kd  true b1 b2 b3 b4 b5 b6 b7 b8 b9 b10 b11 b12 b13 b14 b15 a0).eval (.tmp 25) = (.pointer (some ⟨g, 0, none⟩)) := by
  simp [C6.A, eval_putIf, eval_put, size_putIf, hs]
theorem C6.p1 (wr : World) (bl bp g gs os p n cs : Nat) (kd : Int)   (b0 b2 b3 b4 b5 b6 b7 b8 b9 b10 b11 b12 b13 b14 b15 : Bool) (a0 : Act) :
    (C6.A wr bl bp g gs os p n cs kd  b0 false b2 b3 b4 b5 b6 b7 b8 b9 b10 b11 b12 b13 b14 b15 a0).put (some 26) (.pointer (some ⟨g, 0, none⟩)) = C6.A wr bl bp g gs os p n cs kd  b0 true b2 b3 b4 b5 b6 b7 b8 b9 b10 b11 b12 b13 b14 b15 a0 := by
  simp only [C6.A, putIf_put, ne_eq, Nat.reduceEqDiff, not_false_eq_true]
  rfl
theorem C6.e1 {wr : World} {bl bp g gs os p n cs : Nat} {kd : Int}  {b0 b2 b3 b4 b5 b6 b7 b8 b9 b10 b11 b12 b13 b14 b15 : Bool} {a0 : Act} (hs : a0.tmps.size = 43) : (C6.A wr bl bp g gs os p n cs kd  b0 true b2 b3 b4 b5 b6 b7 b8 b9 b10 b11 b12 b13 b14 b15 a0).eval (.tmp 26) = (.pointer (some ⟨g, 0, none⟩)) := by
  simp [C6.A, eval_putIf, eval_put, size_putIf, hs]
theorem C6.p2 (wr : World) (bl bp g gs os p n cs : Nat) (kd : Int)   (b0 b1 b3 b4 b5 b6 b7 b8 b9 b10 b11 b12 b13 b14 b15 : Bool) (a0 : Act) :
    (C6.A wr bl bp g gs os p n cs kd  b0 b1 false b3 b4 b5 b6 b7 b8 b9 b10 b11 b12 b13 b14 b15 a0).put (some 27) (.pointer (some ⟨g, 0, none⟩)) = C6.A wr bl bp g gs os p n cs kd  b0 b1 true b3 b4 b5 b6 b7 b8 b9 b10 b11 b12 b13 b14 b15 a0 := by
  simp only [C6.A, putIf_put, ne_eq, Nat.reduceEqDiff, not_false_eq_true]
  rfl
theorem C6.e2 {wr : World} {bl bp g gs os p n cs : Nat} {kd : Int}  {b0 b1 b3 b4 b5 b6 b7 b8 b9 b10 b11 b12 b13 b14 b15 : Bool} {a0 : Act} (hs : a0.tmps.size = 43) : (C6.A wr bl bp g gs os p n cs kd  b0 b1 true b3 b4 b5 b6 b7 b8 b9 b10 b11 b12 b13 b14 b15 a0).eval (.tmp 27) = (.pointer (some ⟨g, 0, none⟩)) := by
  simp [C6.A, eval_putIf, eval_put, size_putIf, hs]
theorem C6.p3 (wr : World) (bl bp g gs os p n cs : Nat) (kd : Int)   (b0 b1 b2 b4 b5 b6 b7 b8 b9 b10 b11 b12 b13 b14 b15 : Bool) (a0 : Act) :
    (C6.A wr bl bp g gs os p n cs kd  b0 b1 b2 false b4 b5 b6 b7 b8 b9 b10 b11 b12 b13 b14 b15 a0).put (some 28) (.pointer (some ⟨g, 3, none⟩)) = C6.A wr bl bp g gs os p n cs kd  b0 b1 b2 true b4 b5 b6 b7 b8 b9 b10 b11 b12 b13 b14 b15 a0 := by
  simp only [C6.A, putIf_put, ne_eq, Nat.reduceEqDiff, not_false_eq_true]
  rfl
theorem C6.e3 {wr : World} {bl bp g gs os p n cs : Nat} {kd : Int}  {b0 b1 b2 b4 b5 b6 b7 b8 b9 b10 b11 b12 b13 b14 b15 : Bool} {a0 : Act} (hs : a0.tmps.size = 43) : (C6.A wr bl bp g gs os p n cs kd  b0 b1 b2 true b4 b5 b6 b7 b8 b9 b10 b11 b12 b13 b14 b15 a0).eval (.tmp 28) = (.pointer (some ⟨g, 3, none⟩)) := by
  simp [C6.A, eval_putIf, eval_put, size_putIf, hs]
theorem C6.p4 (wr : World) (bl bp g gs os p n cs : Nat) (kd : Int)   (b0 b1 b2 b3 b5 b6 b7 b8 b9 b10 b11 b12 b13 b14 b15 : Bool) (a0 : Act) :
    (C6.A wr bl bp g gs os p n cs kd  b0 b1 b2 b3 false b5 b6 b7 b8 b9 b10 b11 b12 b13 b14 b15 a0).put (some 29) (.slice (some ⟨gs, os, none⟩) n cs) = C6.A wr bl bp g gs os p n cs kd  b0 b1 b2 b3 true b5 b6 b7 b8 b9 b10 b11 b12 b13 b14 b15 a0 := by
  simp only [C6.A, putIf_put, ne_eq, Nat.reduceEqDiff, not_false_eq_true]
  rfl
theorem C6.e4 {wr : World} {bl bp g gs os p n cs : Nat} {kd : Int}  {b0 b1 b2 b3 b5 b6 b7 b8 b9 b10 b11 b12 b13 b14 b15 : Bool} {a0 : Act} (hs : a0.tmps.size = 43) : (C6.A wr bl bp g gs os p n cs kd  b0 b1 b2 b3 true b5 b6 b7 b8 b9 b10 b11 b12 b13 b14 b15 a0).eval (.tmp 29) = (.slice (some ⟨gs, os, none⟩) n cs) := by
  simp [C6.A, eval_putIf, eval_put, size_putIf, hs]
theorem C6.p5 (wr : World) (bl bp g gs os p n cs : Nat) (kd : Int)   (b0 b1 b2 b3 b4 b6 b7 b8 b9 b10 b11 b12 b13 b14 b15 : Bool) (a0 : Act) :
    (C6.A wr bl bp g gs os p n cs kd  b0 b1 b2 b3 b4 false b6 b7 b8 b9 b10 b11 b12 b13 b14 b15 a0).put (some 30) (.int .i64 (p : Int)) = C6.A wr bl bp g gs os p n cs kd  b0 b1 b2 b3 b4 true b6 b7 b8 b9 b10 b11 b12 b13 b14 b15 a0 := by
  simp only [C6.A, putIf_put, ne_eq, Nat.reduceEqDiff, not_false_eq_true]
  rfl
theorem C6.e5 {wr : World} {bl bp g gs os p n cs : Nat} {kd : Int}  {b0 b1 b2 b3 b4 b6 b7 b8 b9 b10 b11 b12 b13 b14 b15 : Bool} {a0 : Act} (hs : a0.tmps.size = 43) : (C6.A wr bl bp g gs os p n cs kd  b0 b1 b2 b3 b4 true b6 b7 b8 b9 b10 b11 b12 b13 b14 b15 a0).eval (.tmp 30) = (.int .i64 (p : Int)) := by
  simp [C6.A, eval_putIf, eval_put, size_putIf, hs]
theorem C6.p6 (wr : World) (bl bp g gs os p n cs : Nat) (kd : Int)   (b0 b1 b2 b3 b4 b5 b7 b8 b9 b10 b11 b12 b13 b14 b15 : Bool) (a0 : Act) :
    (C6.A wr bl bp g gs os p n cs kd  b0 b1 b2 b3 b4 b5 false b7 b8 b9 b10 b11 b12 b13 b14 b15 a0).put (some 31) (.pointer (some ⟨gs, os + p * 13, none⟩)) = C6.A wr bl bp g gs os p n cs kd  b0 b1 b2 b3 b4 b5 true b7 b8 b9 b10 b11 b12 b13 b14 b15 a0 := by
  simp only [C6.A, putIf_put, ne_eq, Nat.reduceEqDiff, not_false_eq_true]
  rfl
theorem C6.e6 {wr : World} {bl bp g gs os p n cs : Nat} {kd : Int}  {b0 b1 b2 b3 b4 b5 b7 b8 b9 b10 b11 b12 b13 b14 b15 : Bool} {a0 : Act} (hs : a0.tmps.size = 43) : (C6.A wr bl bp g gs os p n cs kd  b0 b1 b2 b3 b4 b5 true b7 b8 b9 b10 b11 b12 b13 b14 b15 a0).eval (.tmp 31) = (.pointer (some ⟨gs, os + p * 13, none⟩)) := by
  simp [C6.A, eval_putIf, eval_put, size_putIf, hs]
theorem C6.p7 (wr : World) (bl bp g gs os p n cs : Nat) (kd : Int)   (b0 b1 b2 b3 b4 b5 b6 b8 b9 b10 b11 b12 b13 b14 b15 : Bool) (a0 : Act) :
    (C6.A wr bl bp g gs os p n cs kd  b0 b1 b2 b3 b4 b5 b6 false b8 b9 b10 b11 b12 b13 b14 b15 a0).put (some 32) (.pointer (some ⟨gs, os + p * 13 + 1, none⟩)) = C6.A wr bl bp g gs os p n cs kd  b0 b1 b2 b3 b4 b5 b6 true b8 b9 b10 b11 b12 b13 b14 b15 a0 := by
  simp only [C6.A, putIf_put, ne_eq, Nat.reduceEqDiff, not_false_eq_true]
  rfl
theorem C6.e7 {wr : World} {bl bp g gs os p n cs : Nat} {kd : Int}  {b0 b1 b2 b3 b4 b5 b6 b8 b9 b10 b11 b12 b13 b14 b15 : Bool} {a0 : Act} (hs : a0.tmps.size = 43) : (C6.A wr bl bp g gs os p n cs kd  b0 b1 b2 b3 b4 b5 b6 true b8 b9 b10 b11 b12 b13 b14 b15 a0).eval (.tmp 32) = (.pointer (some ⟨gs, os + p * 13 + 1, none⟩)) := by
  simp [C6.A, eval_putIf, eval_put, size_putIf, hs]
theorem C6.p8 (wr : World) (bl bp g gs os p n cs : Nat) (kd : Int)   (b0 b1 b2 b3 b4 b5 b6 b7 b9 b10 b11 b12 b13 b14 b15 : Bool) (a0 : Act) :
    (C6.A wr bl bp g gs os p n cs kd  b0 b1 b2 b3 b4 b5 b6 b7 false b9 b10 b11 b12 b13 b14 b15 a0).put (some 33) (.int .i64 kd) = C6.A wr bl bp g gs os p n cs kd  b0 b1 b2 b3 b4 b5 b6 b7 true b9 b10 b11 b12 b13 b14 b15 a0 := by
  simp only [C6.A, putIf_put, ne_eq, Nat.reduceEqDiff, not_false_eq_true]
  rfl
theorem C6.e8 {wr : World} {bl bp g gs os p n cs : Nat} {kd : Int}  {b0 b1 b2 b3 b4 b5 b6 b7 b9 b10 b11 b12 b13 b14 b15 : Bool} {a0 : Act} (hs : a0.tmps.size = 43) : (C6.A wr bl bp g gs os p n cs kd  b0 b1 b2 b3 b4 b5 b6 b7 true b9 b10 b11 b12 b13 b14 b15 a0).eval (.tmp 33) = (.int .i64 kd) := by
  simp [C6.A, eval_putIf, eval_put, size_putIf, hs]
theorem C6.p9 (wr : World) (bl bp g gs os p n cs : Nat) (kd : Int)   (b0 b1 b2 b3 b4 b5 b6 b7 b8 b10 b11 b12 b13 b14 b15 : Bool) (a0 : Act) :
    (C6.A wr bl bp g gs os p n cs kd  b0 b1 b2 b3 b4 b5 b6 b7 b8 false b10 b11 b12 b13 b14 b15 a0).put (some 34) (.bool false) = C6.A wr bl bp g gs os p n cs kd  b0 b1 b2 b3 b4 b5 b6 b7 b8 true b10 b11 b12 b13 b14 b15 a0 := by
  simp only [C6.A, putIf_put, ne_eq, Nat.reduceEqDiff, not_false_eq_true]
  rfl
theorem C6.e9 {wr : World} {bl bp g gs os p n cs : Nat} {kd : Int}  {b0 b1 b2 b3 b4 b5 b6 b7 b8 b10 b11 b12 b13 b14 b15 : Bool} {a0 : Act} (hs : a0.tmps.size = 43) : (C6.A wr bl bp g gs os p n cs kd  b0 b1 b2 b3 b4 b5 b6 b7 b8 true b10 b11 b12 b13 b14 b15 a0).eval (.tmp 34) = (.bool false) := by
  simp [C6.A, eval_putIf, eval_put, size_putIf, hs]
theorem C6.p10 (wr : World) (bl bp g gs os p n cs : Nat) (kd : Int)   (b0 b1 b2 b3 b4 b5 b6 b7 b8 b9 b11 b12 b13 b14 b15 : Bool) (a0 : Act) :
    (C6.A wr bl bp g gs os p n cs kd  b0 b1 b2 b3 b4 b5 b6 b7 b8 b9 false b11 b12 b13 b14 b15 a0).put (some 35) (.bool false) = C6.A wr bl bp g gs os p n cs kd  b0 b1 b2 b3 b4 b5 b6 b7 b8 b9 true b11 b12 b13 b14 b15 a0 := by
  simp only [C6.A, putIf_put, ne_eq, Nat.reduceEqDiff, not_false_eq_true]
  rfl
theorem C6.e10 {wr : World} {bl bp g gs os p n cs : Nat} {kd : Int}  {b0 b1 b2 b3 b4 b5 b6 b7 b8 b9 b11 b12 b13 b14 b15 : Bool} {a0 : Act} (hs : a0.tmps.size = 43) : (C6.A wr bl bp g gs os p n cs kd  b0 b1 b2 b3 b4 b5 b6 b7 b8 b9 true b11 b12 b13 b14 b15 a0).eval (.tmp 35) = (.bool false) := by
  simp [C6.A, eval_putIf, eval_put, size_putIf, hs]
theorem C6.p11 (wr : World) (bl bp g gs os p n cs : Nat) (kd : Int)   (b0 b1 b2 b3 b4 b5 b6 b7 b8 b9 b10 b12 b13 b14 b15 : Bool) (a0 : Act) :
    (C6.A wr bl bp g gs os p n cs kd  b0 b1 b2 b3 b4 b5 b6 b7 b8 b9 b10 false b12 b13 b14 b15 a0).put (some 36) undef = C6.A wr bl bp g gs os p n cs kd  b0 b1 b2 b3 b4 b5 b6 b7 b8 b9 b10 true b12 b13 b14 b15 a0 := by
  simp only [C6.A, putIf_put, ne_eq, Nat.reduceEqDiff, not_false_eq_true]
  rfl
theorem C6.e11 {wr : World} {bl bp g gs os p n cs : Nat} {kd : Int}  {b0 b1 b2 b3 b4 b5 b6 b7 b8 b9 b10 b12 b13 b14 b15 : Bool} {a0 : Act} (hs : a0.tmps.size = 43) : (C6.A wr bl bp g gs os p n cs kd  b0 b1 b2 b3 b4 b5 b6 b7 b8 b9 b10 true b12 b13 b14 b15 a0).eval (.tmp 36) = undef := by
  simp [C6.A, eval_putIf, eval_put, size_putIf, hs]
theorem C6.p12 (wr : World) (bl bp g gs os p n cs : Nat) (kd : Int)   (b0 b1 b2 b3 b4 b5 b6 b7 b8 b9 b10 b11 b13 b14 b15 : Bool) (a0 : Act) :
    (C6.A wr bl bp g gs os p n cs kd  b0 b1 b2 b3 b4 b5 b6 b7 b8 b9 b10 b11 false b13 b14 b15 a0).put (some 37) undef = C6.A wr bl bp g gs os p n cs kd  b0 b1 b2 b3 b4 b5 b6 b7 b8 b9 b10 b11 true b13 b14 b15 a0 := by
  simp only [C6.A, putIf_put, ne_eq, Nat.reduceEqDiff, not_false_eq_true]
  rfl
theorem C6.e12 {wr : World} {bl bp g gs os p n cs : Nat} {kd : Int}  {b0 b1 b2 b3 b4 b5 b6 b7 b8 b9 b10 b11 b13 b14 b15 : Bool} {a0 : Act} (hs : a0.tmps.size = 43) : (C6.A wr bl bp g gs os p n cs kd  b0 b1 b2 b3 b4 b5 b6 b7 b8 b9 b10 b11 true b13 b14 b15 a0).eval (.tmp 37) = undef := by
  simp [C6.A, eval_putIf, eval_put, size_putIf, hs]
theorem C6.p13 (wr : World) (bl bp g gs os p n cs : Nat) (kd : Int)   (b0 b1 b2 b3 b4 b5 b6 b7 b8 b9 b10 b11 b12 b14 b15 : Bool) (a0 : Act) :
    (C6.A wr bl bp g gs os p n cs kd  b0 b1 b2 b3 b4 b5 b6 b7 b8 b9 b10 b11 b12 false b14 b15 a0).put (some 38) undef = C6.A wr bl bp g gs os p n cs kd  b0 b1 b2 b3 b4 b5 b6 b7 b8 b9 b10 b11 b12 true b14 b15 a0 := by
  simp only [C6.A, putIf_put, ne_eq, Nat.reduceEqDiff, not_false_eq_true]
  rfl
theorem C6.e13 {wr : World} {bl bp g gs os p n cs : Nat} {kd : Int}  {b0 b1 b2 b3 b4 b5 b6 b7 b8 b9 b10 b11 b12 b14 b15 : Bool} {a0 : Act} (hs : a0.tmps.size = 43) : (C6.A wr bl bp g gs os p n cs kd  b0 b1 b2 b3 b4 b5 b6 b7 b8 b9 b10 b11 b12 true b14 b15 a0).eval (.tmp 38) = undef := by
  simp [C6.A, eval_putIf, eval_put, size_putIf, hs]
theorem C6.p14 (wr : World) (bl bp g gs os p n cs : Nat) (kd : Int)   (b0 b1 b2 b3 b4 b5 b6 b7 b8 b9 b10 b11 b12 b13 b15 : Bool) (a0 : Act) :
    (C6.A wr bl bp g gs os p n cs kd  b0 b1 b2 b3 b4 b5 b6 b7 b8 b9 b10 b11 b12 b13 false b15 a0).put (some 39) undef = C6.A wr bl bp g gs os p n cs kd  b0 b1 b2 b3 b4 b5 b6 b7 b8 b9 b10 b11 b12 b13 true b15 a0 := by
  simp only [C6.A, putIf_put, ne_eq, Nat.reduceEqDiff, not_false_eq_true]
  rfl
theorem C6.e14 {wr : World} {bl bp g gs os p n cs : Nat} {kd : Int}  {b0 b1 b2 b3 b4 b5 b6 b7 b8 b9 b10 b11 b12 b13 b15 : Bool} {a0 : Act} (hs : a0.tmps.size = 43) : (C6.A wr bl bp g gs os p n cs kd  b0 b1 b2 b3 b4 b5 b6 b7 b8 b9 b10 b11 b12 b13 true b15 a0).eval (.tmp 39) = undef := by
  simp [C6.A, eval_putIf, eval_put, size_putIf, hs]
theorem C6.p15 (wr : World) (bl bp g gs os p n cs : Nat) (kd : Int)   (b0 b1 b2 b3 b4 b5 b6 b7 b8 b9 b10 b11 b12 b13 b14 : Bool) (a0 : Act) :
    (C6.A wr bl bp g gs os p n cs kd  b0 b1 b2 b3 b4 b5 b6 b7 b8 b9 b10 b11 b12 b13 b14 false a0).put (some 40) (.bool false) = C6.A wr bl bp g gs os p n cs kd  b0 b1 b2 b3 b4 b5 b6 b7 b8 b9 b10 b11 b12 b13 b14 true a0 := by
  simp only [C6.A, putIf_put, ne_eq, Nat.reduceEqDiff, not_false_eq_true]
  rfl
theorem C6.e15 {wr : World} {bl bp g gs os p n cs : Nat} {kd : Int}  {b0 b1 b2 b3 b4 b5 b6 b7 b8 b9 b10 b11 b12 b13 b14 : Bool} {a0 : Act} (hs : a0.tmps.size = 43) : (C6.A wr bl bp g gs os p n cs kd  b0 b1 b2 b3 b4 b5 b6 b7 b8 b9 b10 b11 b12 b13 b14 true a0).eval (.tmp 40) = (.bool false) := by
  simp [C6.A, eval_putIf, eval_put, size_putIf, hs]
theorem C6.z (wr : World) (bl bp g gs os p n cs : Nat) (kd : Int)  (a0 : Act) : a0 = C6.A wr bl bp g gs os p n cs kd  false false false false false false false false false false false false false false false false a0 := rfl
theorem C6.size {wr : World} {bl bp g gs os p n cs : Nat} {kd : Int}  {b0 b1 b2 b3 b4 b5 b6 b7 b8 b9 b10 b11 b12 b13 b14 b15 : Bool} {a0 : Act} : (C6.A wr bl bp g gs os p n cs kd  b0 b1 b2 b3 b4 b5 b6 b7 b8 b9 b10 b11 b12 b13 b14 b15 a0).tmps.size = a0.tmps.size := by
  simp [C6.A, size_putIf]
theorem C6.f2 {wr : World} {bl bp g gs os p n cs : Nat} {kd : Int}  {b0 b1 b2 b3 b4 b5 b6 b7 b8 b9 b10 b11 b12 b13 b14 b15 : Bool} {a0 : Act} : (C6.A wr bl bp g gs os p n cs kd  b0 b1 b2 b3 b4 b5 b6 b7 b8 b9 b10 b11 b12 b13 b14 b15 a0).eval (.tmp 2) = a0.eval (.tmp 2) := by
  simp [C6.A, eval_putIf]
theorem C6.f6 {wr : World} {bl bp g gs os p n cs : Nat} {kd : Int}  {b0 b1 b2 b3 b4 b5 b6 b7 b8 b9 b10 b11 b12 b13 b14 b15 : Bool} {a0 : Act} : (C6.A wr bl bp g gs os p n cs kd  b0 b1 b2 b3 b4 b5 b6 b7 b8 b9 b10 b11 b12 b13 b14 b15 a0).eval (.tmp 6) = a0.eval (.tmp 6) := by
  simp [C6.A, eval_putIf]
def C6.B (wr : World) (bl bp g gs os p n cs : Nat) (kd : Int) (a0 : Act) : Prop := a0.tmps.size = 43 ∧ a0.eval (.tmp 2) = (.pointer (some ⟨bl, 0, none⟩)) ∧ a0.eval (.tmp 6) = (.pointer (some ⟨bp, 0, none⟩))
def C6.I (wr : World) (bl bp g gs os p n cs : Nat) (kd : Int)  (b0 b1 b2 b3 b4 b5 b6 b7 b8 b9 b10 b11 b12 b13 b14 b15 : Bool) (w : World) : Prop := w = wr.drew
/-- What stays true inside the region, whatever has come up. -/
def C6.J (wr : World) (bl bp g gs os p n cs : Nat) (kd : Int) (a0 : Act) (l : Array Bool) (a : Act) (w : World) : Prop :=
  C6.B wr bl bp g gs os p n cs kd a0 ∧ ∃ b0 b1 b2 b3 b4 b5 b6 b7 b8 b9 b10 b11 b12 b13 b14 b15, l = #[b0, b1, b2, b3, b4, b5, b6, b7, b8, b9, b10, b11, b12, b13, b14, b15] ∧ a = C6.A wr bl bp g gs os p n cs kd  b0 b1 b2 b3 b4 b5 b6 b7 b8 b9 b10 b11 b12 b13 b14 b15 a0 ∧ C6.I wr bl bp g gs os p n cs kd  b0 b1 b2 b3 b4 b5 b6 b7 b8 b9 b10 b11 b12 b13 b14 b15 w
attribute [irreducible] C6.A

set_option maxRecDepth 100000 in
set_option maxHeartbeats 8000000 in
theorem com6 {Q : Exit → Act → World → Prop} {t0 t1 t3 t4 t5 t7 t8 t9 t10 t11 t12 t13 t14 t15 t16 t17 t18 t19 t20 t21 t22 t23 t24 t25 t26 t27 t28 t29 t30 t31 t32 t33 t34 t35 t36 t37 t38 t39 t40 t41 t42 : Value} {wr : World} {bl bp g gs os p n cs : Nat} {kd : Int} (hb : wr.cell? ⟨bl, 0, none⟩ = some (.pointer (some ⟨g, 0, none⟩))) (hp : wr.cell? ⟨bp, 0, none⟩ = some (.int .i64 (p : Int))) (hg : wr.cell? ⟨g, 3, none⟩ = some (.slice (some ⟨gs, os, none⟩) n cs)) (hk : wr.cell? ⟨gs, os + p * 13 + 1, none⟩ = some (.int .i64 kd)) (hpn : p < n) (hk1 : ¬ kd ≤ 1)
    (hQ : ∀ (u25 u26 u27 u28 u29 u30 u31 u32 u33 u34 u35 u36 u37 u38 u39 u40 : Value) (wx : World), wx = wr.drew ∧ u40 = .bool false → Q .normal ⟨#[t0, t1, (.pointer (some ⟨bl, 0, none⟩)), t3, t4, t5, (.pointer (some ⟨bp, 0, none⟩)), t7, t8, t9, t10, t11, t12, t13, t14, t15, t16, t17, t18, t19, t20, t21, t22, t23, t24, u25, u26, u27, u28, u29, u30, u31, u32, u33, u34, u35, u36, u37, u38, u39, u40, t41, t42], []⟩ wx) :
    (regAt Try.f35 6).wp Try.prog Q ⟨#[t0, t1, (.pointer (some ⟨bl, 0, none⟩)), t3, t4, t5, (.pointer (some ⟨bp, 0, none⟩)), t7, t8, t9, t10, t11, t12, t13, t14, t15, t16, t17, t18, t19, t20, t21, t22, t23, t24, t25, t26, t27, t28, t29, t30, t31, t32, t33, t34, t35, t36, t37, t38, t39, t40, t41, t42], []⟩ wr := by
  have hk0 : (0 : Int) ≤ (p : Int) := by omega
  have hkn : (p : Int) < (n : Int) := by omega
  refine Code.wp_mono (Q := OnlyN (fun a w => Q .normal a w)) onlyN_imp ?_
  conv => arg 2; whnf
  dsimp only
  refine region_inv (by kernel_rfl) (fun a0 l a w => C6.J wr bl bp g gs os p n cs kd a0 l a w) ?_ ?_ ?_
  · exact ⟨⟨rfl, rfl, rfl⟩, false, false, false, false, false, false, false, false, false, false, false, false, false, false, false, false, rfl, C6.z .., rfl⟩
  · intro l a' w' hJ hi
    obtain ⟨-, b0, b1, b2, b3, b4, b5, b6, b7, b8, b9, b10, b11, b12, b13, b14, b15, rfl, rfl, hinv⟩ := hJ
    have t0 : b0 = true := ready_nil hi 0 (by decide) (by simp [Region.binds])
    have t1 : b1 = true := ready_nil hi 1 (by decide) (by simp [Region.binds, t0])
    have t2 : b2 = true := ready_nil hi 2 (by decide) (by simp [Region.binds, t1])
    have t3 : b3 = true := ready_nil hi 3 (by decide) (by simp [Region.binds, t2])
    have t4 : b4 = true := ready_nil hi 4 (by decide) (by simp [Region.binds, t3])
    have t5 : b5 = true := ready_nil hi 5 (by decide) (by simp [Region.binds])
    have t6 : b6 = true := ready_nil hi 6 (by decide) (by simp [Region.binds, t4, t5])
    have t7 : b7 = true := ready_nil hi 7 (by decide) (by simp [Region.binds, t6])
    have t8 : b8 = true := ready_nil hi 8 (by decide) (by simp [Region.binds, t7])
    have t9 : b9 = true := ready_nil hi 9 (by decide) (by simp [Region.binds, t8])
    have t10 : b10 = true := ready_nil hi 10 (by decide) (by simp [Region.binds, t9])
    have t11 : b11 = true := ready_nil hi 11 (by decide) (by simp [Region.binds, t10])
    have t12 : b12 = true := ready_nil hi 12 (by decide) (by simp [Region.binds, t10])
    have t13 : b13 = true := ready_nil hi 13 (by decide) (by simp [Region.binds, t10, t11, t12])
    have t14 : b14 = true := ready_nil hi 14 (by decide) (by simp [Region.binds, t10, t13])
    have t15 : b15 = true := ready_nil hi 15 (by decide) (by simp [Region.binds, t10, t14])
    subst t0 t1 t2 t3 t4 t5 t6 t7 t8 t9 t10 t11 t12 t13 t14 t15
    clear hi
    simp only [OnlyN, C6.A, putIf_true, Act.put, List.setIfInBounds_toArray, List.set_cons_zero, List.set_cons_succ]
    exact hQ _ _ _ _ _ _ _ _ _ _ _ _ _ _ _ _ _ ⟨hinv, rfl⟩
  · intro a0 l a' w' i hJ hi
    obtain ⟨hB, b0, b1, b2, b3, b4, b5, b6, b7, b8, b9, b10, b11, b12, b13, b14, b15, rfl, rfl, hinv⟩ := hJ
    have hBB := hB
    obtain ⟨hs0, g2, g6⟩ := hBB
    obtain ⟨h10, hlf, haf⟩ := mem_ready hi
    clear hi
    have hc : i = 0 ∨ i = 1 ∨ i = 2 ∨ i = 3 ∨ i = 4 ∨ i = 5 ∨ i = 6 ∨ i = 7 ∨ i = 8 ∨ i = 9 ∨ i = 10 ∨ i = 11 ∨ i = 12 ∨ i = 13 ∨ i = 14 ∨ i = 15 := by
      have : i < 16 := h10
      omega
    clear h10
    rcases hc with rfl | rfl | rfl | rfl | rfl | rfl | rfl | rfl | rfl | rfl | rfl | rfl | rfl | rfl | rfl | rfl
    · obtain rfl : b0 = false := by simpa using hlf
      refine wpOp_at rfl rfl ?_
      simp only [List.getElem_toArray, List.getElem_cons_zero, List.getElem_cons_succ]
      refine op_val (v := (.pointer (some ⟨g, 0, none⟩))) ?_ (show C6.J wr bl bp g gs os p n cs kd a0 _ _ _ from ⟨hB, true, b1, b2, b3, b4, b5, b6, b7, b8, b9, b10, b11, b12, b13, b14, b15, rfl, C6.p0 .., hinv⟩)
      simp only [execOp, C6.f2, g2]
      have hw : _ = wr.drew := hinv
      subst hw
      go_simp
    · obtain rfl : b1 = false := by simpa using hlf
      refine wpOp_at rfl rfl ?_
      simp only [List.getElem_toArray, List.getElem_cons_zero, List.getElem_cons_succ]
      simp [Region.binds] at haf
      subst haf
      refine op_val (v := (.pointer (some ⟨g, 0, none⟩))) ?_ (show C6.J wr bl bp g gs os p n cs kd a0 _ _ _ from ⟨hB, true, true, b2, b3, b4, b5, b6, b7, b8, b9, b10, b11, b12, b13, b14, b15, rfl, C6.p1 .., hinv⟩)
      simp only [execOp, C6.e0 hs0]
      have hw : _ = wr.drew := hinv
      subst hw
      go_simp
    · obtain rfl : b2 = false := by simpa using hlf
      refine wpOp_at rfl rfl ?_
      simp only [List.getElem_toArray, List.getElem_cons_zero, List.getElem_cons_succ]
      simp [Region.binds] at haf
      subst haf
      refine op_val (v := (.pointer (some ⟨g, 0, none⟩))) ?_ (show C6.J wr bl bp g gs os p n cs kd a0 _ _ _ from ⟨hB, b0, true, true, b3, b4, b5, b6, b7, b8, b9, b10, b11, b12, b13, b14, b15, rfl, C6.p2 .., hinv⟩)
      simp only [execOp, C6.e1 hs0]
      have hw : _ = wr.drew := hinv
      subst hw
      go_simp
    · obtain rfl : b3 = false := by simpa using hlf
      refine wpOp_at rfl rfl ?_
      simp only [List.getElem_toArray, List.getElem_cons_zero, List.getElem_cons_succ]
      simp [Region.binds] at haf
      subst haf
      refine op_val (v := (.pointer (some ⟨g, 3, none⟩))) ?_ (show C6.J wr bl bp g gs os p n cs kd a0 _ _ _ from ⟨hB, b0, b1, true, true, b4, b5, b6, b7, b8, b9, b10, b11, b12, b13, b14, b15, rfl, C6.p3 .., hinv⟩)
      simp only [execOp, C6.e2 hs0]
      have hw : _ = wr.drew := hinv
      subst hw
      go_simp
    · obtain rfl : b4 = false := by simpa using hlf
      refine wpOp_at rfl rfl ?_
      simp only [List.getElem_toArray, List.getElem_cons_zero, List.getElem_cons_succ]
      simp [Region.binds] at haf
      subst haf
      refine op_val (v := (.slice (some ⟨gs, os, none⟩) n cs)) ?_ (show C6.J wr bl bp g gs os p n cs kd a0 _ _ _ from ⟨hB, b0, b1, b2, true, true, b5, b6, b7, b8, b9, b10, b11, b12, b13, b14, b15, rfl, C6.p4 .., hinv⟩)
      simp only [execOp, C6.e3 hs0]
      have hw : _ = wr.drew := hinv
      subst hw
      go_simp
    · obtain rfl : b5 = false := by simpa using hlf
      refine wpOp_at rfl rfl ?_
      simp only [List.getElem_toArray, List.getElem_cons_zero, List.getElem_cons_succ]
      refine op_val (v := (.int .i64 (p : Int))) ?_ (show C6.J wr bl bp g gs os p n cs kd a0 _ _ _ from ⟨hB, b0, b1, b2, b3, b4, true, b6, b7, b8, b9, b10, b11, b12, b13, b14, b15, rfl, C6.p5 .., hinv⟩)
      simp only [execOp, C6.f6, g6]
      have hw : _ = wr.drew := hinv
      subst hw
      go_simp
    · obtain rfl : b6 = false := by simpa using hlf
      refine wpOp_at rfl rfl ?_
      simp only [List.getElem_toArray, List.getElem_cons_zero, List.getElem_cons_succ]
      simp [Region.binds] at haf
      obtain ⟨a0, a1⟩ := haf
      subst a0 a1
      refine op_val (v := (.pointer (some ⟨gs, os + p * 13, none⟩))) ?_ (show C6.J wr bl bp g gs os p n cs kd a0 _ _ _ from ⟨hB, b0, b1, b2, b3, true, true, true, b7, b8, b9, b10, b11, b12, b13, b14, b15, rfl, C6.p6 .., hinv⟩)
      simp only [execOp, C6.e4 hs0, C6.e5 hs0]
      have hw : _ = wr.drew := hinv
      subst hw
      go_simp
    · obtain rfl : b7 = false := by simpa using hlf
      refine wpOp_at rfl rfl ?_
      simp only [List.getElem_toArray, List.getElem_cons_zero, List.getElem_cons_succ]
      simp [Region.binds] at haf
      subst haf
      refine op_val (v := (.pointer (some ⟨gs, os + p * 13 + 1, none⟩))) ?_ (show C6.J wr bl bp g gs os p n cs kd a0 _ _ _ from ⟨hB, b0, b1, b2, b3, b4, b5, true, true, b8, b9, b10, b11, b12, b13, b14, b15, rfl, C6.p7 .., hinv⟩)
      simp only [execOp, C6.e6 hs0]
      have hw : _ = wr.drew := hinv
      subst hw
      go_simp
    · obtain rfl : b8 = false := by simpa using hlf
      refine wpOp_at rfl rfl ?_
      simp only [List.getElem_toArray, List.getElem_cons_zero, List.getElem_cons_succ]
      simp [Region.binds] at haf
      subst haf
      refine op_val (v := (.int .i64 kd)) ?_ (show C6.J wr bl bp g gs os p n cs kd a0 _ _ _ from ⟨hB, b0, b1, b2, b3, b4, b5, b6, true, true, b9, b10, b11, b12, b13, b14, b15, rfl, C6.p8 .., hinv⟩)
      simp only [execOp, C6.e7 hs0]
      have hw : _ = wr.drew := hinv
      subst hw
      go_simp
    · obtain rfl : b9 = false := by simpa using hlf
      refine wpOp_at rfl rfl ?_
      simp only [List.getElem_toArray, List.getElem_cons_zero, List.getElem_cons_succ]
      simp [Region.binds] at haf
      subst haf
      refine op_val (v := .bool false) ?_ (show C6.J wr bl bp g gs os p n cs kd a0 _ _ _ from ⟨hB, b0, b1, b2, b3, b4, b5, b6, b7, true, true, b10, b11, b12, b13, b14, b15, rfl, C6.p9 .., hinv⟩)
      simp only [execOp, C6.e8 hs0]
      go_simp
      
    · obtain rfl : b10 = false := by simpa using hlf
      refine wpOp_at rfl rfl ?_
      simp only [List.getElem_toArray, List.getElem_cons_zero, List.getElem_cons_succ]
      simp [Region.binds] at haf
      subst haf
      refine op_val (v := (.bool false)) ?_ (show C6.J wr bl bp g gs os p n cs kd a0 _ _ _ from ⟨hB, b0, b1, b2, b3, b4, b5, b6, b7, b8, true, true, b11, b12, b13, b14, b15, rfl, C6.p10 .., hinv⟩)
      simp only [execOp, C6.e9 hs0]
      have hw : _ = wr.drew := hinv
      subst hw
      go_simp
    · obtain rfl : b11 = false := by simpa using hlf
      simp [Region.binds] at haf
      subst haf
      refine wpOp_skip rfl rfl (yielded_of rfl rfl (by rw [C6.size, hs0]; decide) (C6.e10 hs0)) (by decide) ?_
      exact (show C6.J wr bl bp g gs os p n cs kd a0 _ _ _ from ⟨hB, b0, b1, b2, b3, b4, b5, b6, b7, b8, b9, true, true, b12, b13, b14, b15, rfl, C6.p11 .., hinv⟩)
    · obtain rfl : b12 = false := by simpa using hlf
      simp [Region.binds] at haf
      subst haf
      refine wpOp_skip rfl rfl (yielded_of rfl rfl (by rw [C6.size, hs0]; decide) (C6.e10 hs0)) (by decide) ?_
      exact (show C6.J wr bl bp g gs os p n cs kd a0 _ _ _ from ⟨hB, b0, b1, b2, b3, b4, b5, b6, b7, b8, b9, true, b11, true, b13, b14, b15, rfl, C6.p12 .., hinv⟩)
    · obtain rfl : b13 = false := by simpa using hlf
      simp [Region.binds] at haf
      obtain ⟨a0, a1, a2⟩ := haf
      subst a0 a1 a2
      refine wpOp_skip rfl rfl (yielded_of rfl rfl (by rw [C6.size, hs0]; decide) (C6.e10 hs0)) (by decide) ?_
      exact (show C6.J wr bl bp g gs os p n cs kd a0 _ _ _ from ⟨hB, b0, b1, b2, b3, b4, b5, b6, b7, b8, b9, true, true, true, true, b14, b15, rfl, C6.p13 .., hinv⟩)
    · obtain rfl : b14 = false := by simpa using hlf
      simp [Region.binds] at haf
      obtain ⟨a0, a1⟩ := haf
      subst a0 a1
      refine wpOp_skip rfl rfl (yielded_of rfl rfl (by rw [C6.size, hs0]; decide) (C6.e10 hs0)) (by decide) ?_
      exact (show C6.J wr bl bp g gs os p n cs kd a0 _ _ _ from ⟨hB, b0, b1, b2, b3, b4, b5, b6, b7, b8, b9, true, b11, b12, true, true, b15, rfl, C6.p14 .., hinv⟩)
    · obtain rfl : b15 = false := by simpa using hlf
      refine wpOp_at rfl rfl ?_
      simp only [List.getElem_toArray, List.getElem_cons_zero, List.getElem_cons_succ]
      simp [Region.binds] at haf
      obtain ⟨a0, a1⟩ := haf
      subst a0 a1
      refine op_val (v := (.bool false)) ?_ (show C6.J wr bl bp g gs os p n cs kd a0 _ _ _ from ⟨hB, b0, b1, b2, b3, b4, b5, b6, b7, b8, b9, true, b11, b12, b13, true, true, rfl, C6.p15 .., hinv⟩)
      simp only [execOp, C6.e10 hs0, C6.e14 hs0]
      have hw : _ = wr.drew := hinv
      subst hw
      go_simp
end Go.Proofs.Ytekfbafljilchaa

/- Common. -/
set_option linter.unusedVariables false
set_option linter.unusedSimpArgs false
namespace Go.Proofs.Ytekfbafljilchaa
open Go.RowKit Go.Lib
attribute [local go_sem ↓] Go.wp_at_zero Go.wp_at_succ

def comOk (c : DChart) (l : List Int) (p : Int) : Bool := decide (knd c p.toNat ≤ 1) && !(l.any fun x => !ab c x.toNat p.toNat)
def comF (c : DChart) (l : List Int) : List Int → Int
  | [] => -1
  | p :: r => if comOk c l p then p else comF c l r
def comB (c : DChart) (l : List Int) : Int := if l = [] then -1 else if l.any (fun x => !isSt c x) then -1 else comF c l (abv c (l[0]?.getD 0) (-1))

theorem abvF_len (c : DChart) (top : Int) : ∀ (f : Nat) (p : Int), (abvF c top f p).length ≤ f := by
  intro f
  induction f with
  | zero => intro p; simp [abvF]
  | succ f ih =>
    intro p
    rw [abvF]
    split
    · simp
    · simpa using ih _
theorem abv_len (c : DChart) (a top : Int) : (abv c a top).length ≤ ns c := by
  unfold abv
  split
  · exact abvF_len _ _ _ _
  · simp
theorem Tree.abvF_mem {c : DChart} (T : Tree c) (top : Int) : ∀ (f : Nat) (p x : Int), (p = -1 ∨ ∃ j : Nat, p = (j : Int) ∧ j < ns c) → x ∈ abvF c top f p → ∃ b : Nat, x = (b : Int) ∧ b < ns c := by
  intro f
  induction f with
  | zero => intro p x _ h; simp [abvF] at h
  | succ f ih =>
    intro p x hp h
    rcases hp with rfl | ⟨j, rfl, hj⟩
    · rw [abvF_neg] at h; simp at h
    · by_cases e : (j : Int) = top
      · rw [e, abvF_top] at h; simp at h
      · rw [abvF_step _ _ _ _ e] at h
        rcases List.mem_cons.1 h with rfl | h
        · exact ⟨j, rfl, hj⟩
        · refine ih _ _ ?_ h
          rcases T.par_cases hj with h | ⟨i, h, hi⟩
          · exact .inl h
          · exact .inr ⟨i, h, by omega⟩
theorem Tree.abv_mem {c : DChart} (T : Tree c) {a top x : Int} (h : x ∈ abv c a top) : ∃ b : Nat, x = (b : Int) ∧ b < ns c := by
  unfold abv at h
  split at h
  · rename_i hs
    obtain ⟨b, rfl, hb⟩ := isSt_true hs
    refine T.abvF_mem top _ _ _ ?_ h
    rcases T.par_cases (j := b) hb with h | ⟨i, h, hi⟩
    · exact .inl (by simpa using h)
    · exact .inr ⟨i, by simpa using h, by have : b < ns c := hb; omega⟩
  · simp at h
theorem comF_no {c : DChart} {l : List Int} : ∀ {r : List Int}, (∀ j (h : j < r.length), comOk c l r[j] = false) → comF c l r = -1
  | [], _ => rfl
  | p :: r, h => by
    have h0 := h 0 (by simp)
    simp at h0
    rw [comF, h0]
    simp
    exact comF_no fun j hj => h (j + 1) (by simpa using hj)
theorem comF_at {c : DChart} {l : List Int} : ∀ {r : List Int} {k : Nat} (hk : k < r.length), (∀ j (h : j < r.length), j < k → comOk c l r[j] = false) → comOk c l r[k] = true → comF c l r = r[k]
  | [], k, hk, _, _ => by simp at hk
  | p :: r, 0, _, _, h => by
    simp at h
    rw [comF, h]
    simp
  | p :: r, k + 1, hk, hn, h => by
    have h0 := hn 0 (by simp) (by omega)
    simp at h0 h hk
    rw [comF, h0]
    simp
    exact comF_at hk (fun j hj hjk => hn (j + 1) (by simpa using hj) (by omega)) h

set_option maxRecDepth 100000 in
set_option maxHeartbeats 16000000 in
theorem common_any (W : World) (g : Nat) (c : DChart) (l : List Int) (A : Option Addr) (d : Nat) (q : Nat → Prop) (T : Tree c) (hC : Sl rInt q W (.slice A l.length d) l) (hL : Lat (fun _ => True) W g c) :
    Calls Try.prog 35 #[.pointer (some ⟨g, 0, none⟩), .slice A l.length d] W fun e w' => e = .returned (.int .i64 (comB c l)) ∧ Fr [] W w' := by
  have HL := Lib.hid hL
  have HC := Lib.hid hC
  have HT := Lib.hid T
  have hg := hL.lt
  have lC := hC.len
  have hbx := Lib.hid (Blk.new W #[.pointer (some ⟨g, 0, none⟩)] 36)
  have hf0 := Lib.hid ((Fr.refl [] W).alloc (.cells #[.pointer (some ⟨g, 0, none⟩)] 36))
  have hcf := containsFunc 78 #[.pointer (some ⟨W.heap.size, 0, none⟩)] (fun x => !isSt c x) l (fun _ => True) A d (W.alloc (.cells #[.pointer (some ⟨g, 0, none⟩)] 36)) (hC.fr fun k _ hk => ⟨trivial, hf0.out.block k hk (by simp)⟩) (com_state _ g c _ _ (HL.out.on hf0.out) hbx.out l)
  clear hL hC T
  by_cases hl : l = []
  · have HZ : Hid (comB c l = -1) := Lib.hid (by simp [comB, hl])
    have hl0 : l.length = 0 := by rw [hl]; rfl
    clear hl hcf
    rw [hl0]
    go_enter Try.func35, Try.ntmps35
    go_wp2
    go_ret
    exact ⟨by rw [HZ.out]; rfl, hf0.out⟩
  · have hl0 : ((l.length : Int) == 0) = false := by
      have : l.length ≠ 0 := fun h => hl (List.eq_nil_of_length_eq_zero h)
      simpa using hl
    have hlp : 0 < l.length := List.length_pos_iff.2 hl
    cases hany : l.any (fun x => !isSt c x) with
    | true =>
      have HZ : Hid (comB c l = -1) := Lib.hid (by simp only [comB, hany]; simp)
      rw [hany] at hcf
      clear hl hany
      go_enter Try.func35, Try.ntmps35
      go_wp2_with fail
      refine hcf.mono ?_
      rintro e w' ⟨rfl, f1⟩
      go_wp2
      go_ret
      exact ⟨by rw [HZ.out]; rfl, hf0.out.trans' f1⟩
    | false =>
      have HST : Hid (∀ x, x ∈ l → isSt c x = true) := Lib.hid (fun x hx => by
        have := List.any_eq_false.1 hany x hx
        simpa using this)
      have HZ : Hid (comB c l = comF c l (abv c (l[0]?.getD 0) (-1))) := Lib.hid (by simp only [comB, hany]; simp [hl])
      rw [hany] at hcf
      clear hl hany
      go_enter Try.func35, Try.ntmps35
      go_wp2_with fail
      refine hcf.mono ?_
      rintro e w1 ⟨rfl, f1⟩
      have HF1 := Lib.hid (hf0.out.trans' f1)
      have HBX1 := Lib.hid (hbx.out.fr f1 (by simp))
      obtain ⟨gx, ox, rfl, _, hgx, hx⟩ := HC.out.int_at 0 hlp
      have hx' : w1.cell? ⟨gx, ox, none⟩ = some (.int .i64 l[0]) := (World.cell?_of_block (HF1.out.block gx hgx (by simp))).trans hx
      have hb1 := HBX1.out.cell 0
      simp at hb1
      have hbl := HBX1.out.lt
      have hgxl : gx < w1.heap.size := Nat.lt_of_lt_of_le hgx HF1.out.size
      have hab := above_any w1.drew g c l[0] (-1) HT.out (HL.out.on HF1.out.drew)
      have hlz : (0 : Int) < (l.length : Int) := by omega
      clear hx
      go_wp2
      go_region_held3 (fun w' => w'.cell? ⟨W.heap.size, 0, none⟩ = some (.pointer (some ⟨g, 0, none⟩)) ∧ w'.cell? ⟨gx, ox, none⟩ = some (.int .i64 l[0])) (first | exact ⟨k1, k2⟩ | go_keep)
        ((go_at_call 41; refine hab.mono ?_; rintro e w4 ⟨v4, rfl, own4, f4⟩; have F4 := ((Fr.refl [] w1).drew).trans' f4; have k1 : w4.cell? ⟨W.heap.size, 0, none⟩ = some (.pointer (some ⟨g, 0, none⟩)) := (World.cell?_of_block (F4.block W.heap.size hbl (by simp))).trans hb1; have k2 : w4.cell? ⟨gx, ox, none⟩ = some (.int .i64 l[0]) := (World.cell?_of_block (F4.block gx hgxl (by simp))).trans hx'; obtain ⟨A4, d4, rfl⟩ := own_slice own4))
      have HM : Hid (∀ x, x ∈ abv c l[0] (-1) → ∃ b : Nat, x = (b : Int) ∧ b < c.states.length) := Lib.hid (fun x h => HT.out.abv_mem h)
      have HF4 := Lib.hid (HF1.out.trans' F4)
      have HBX4 := Lib.hid (HBX1.out.fr F4 (by simp))
      have hget : l[0]?.getD 0 = l[0] := by simp [hlp]
      have HZ2 : Hid (comB c l = comF c l (abv c l[0] (-1))) := Lib.hid (by rw [HZ.out, hget])
      have HR := Lib.hid (int_own own4 (Nat.le_trans (abv_len _ _ _) HT.out.many))
      have lR := HR.out.len
      clear own4 f4 F4 k1 k2 hget HZ hx' hb1 hab f1
      generalize abv c l[0] (-1) = r at *
      go_wp2
      go_loopg [21] r.length (fun gg s21 wr => ∃ j : Nat, j ≤ r.length ∧ r.length - j ≤ gg ∧ s21 = .int .i64 j ∧ Aside (Fr [] w4 wr) ∧ Aside (∀ k (h : k < r.length), k < j → comOk c l r[k] = false))
      case atStart => exact ⟨0, Nat.zero_le _, by omega, rfl, Fr.refl _ _, (show Aside _ from fun k _ h => absurd h (Nat.not_lt_zero _))⟩
      case round =>
        obtain ⟨j, hj, hgj, rfl, hfr, hno⟩ := hrel
        have HFW := Lib.hid (HF4.out.trans' hfr.out)
        by_cases hjt : j < r.length
        · have hjz : (j : Int) < (r.length : Int) := by omega
          obtain ⟨gy, oy, rfl, _, hgy, hy⟩ := HR.out.int_at j hjt
          have hy' : wr.cell? ⟨gy, oy + j, none⟩ = some (.int .i64 r[j]) := (World.cell?_of_block (hfr.out.block gy hgy (by simp))).trans hy
          have hgyl : gy < wr.heap.size := Nat.lt_of_lt_of_le hgy hfr.out.size
          obtain ⟨p, hpe, hpn⟩ := HM.out _ (List.getElem_mem hjt)
          have HAT : Hid (comOk c l (p : Int) = true → comB c l = (p : Int)) := Lib.hid (fun h => by rw [HZ2.out, comF_at hjt hno.out (by rw [hpe]; exact h), hpe])
          have HNX : Hid (comOk c l (p : Int) = false → ∀ k (h : k < r.length), k < j + 1 → comOk c l r[k] = false) := Lib.hid (fun h k hk hkj => by
            rcases Nat.lt_succ_iff_lt_or_eq.1 hkj with h1 | rfl
            · exact hno.out k hk h1
            · rw [hpe]; exact h)
          rw [hpe] at hy'
          obtain ⟨wo, rfl⟩ : ∃ wo : World, wo = wr := ⟨_, rfl⟩
          have F1 := Lib.hid ((Fr.refl [] wo).alloc (.cells #[.int .i64 (p : Int)] 3))
          have BP := Lib.hid (Blk.new wo #[.int .i64 (p : Int)] 3)
          have HBX6 := Lib.hid ((HBX4.out.fr hfr.out (by simp)).fr F1.out (by simp))
          have HFP := Lib.hid (HFW.out.trans' F1.out)
          have hb6 := (HBX6.out.cell 0).trans (show _ = some (Value.pointer (some ⟨g, 0, none⟩)) from rfl)
          have hb6l := HBX6.out.lt
          have hp6 := (BP.out.cell 0).trans (show _ = some (Value.int .i64 (p : Int)) from rfl)
          have hp6l := BP.out.lt
          obtain ⟨As, cs, At, ct, Aa, ca, Ak, ck, hLC⟩ := (HL.out.on HFP.out).open_
          obtain ⟨gs, os, rfl, x1, x2⟩ := hLC.st hpn
          have x3 := hLC.s
          have hpz : (p : Int) < (c.states.length : Int) := by omega
          have hp0 : (0 : Int) ≤ (p : Int) := by omega
          have hcc := containsFunc 79 #[.pointer (some ⟨W.heap.size, 0, none⟩), .pointer (some ⟨wo.heap.size, 0, none⟩)] (fun x => !ab c x.toNat p) l (fun _ => True) (some ⟨gx, ox, none⟩) d (wo.alloc (.cells #[.int .i64 (p : Int)] 3)).drew (HC.out.fr fun k _ hk => ⟨trivial, HFP.out.drew.block k hk (by simp)⟩) (com_above _ g c p hpn _ _ _ _ (HL.out.on HFP.out.drew) (HBX6.out.fr ((Fr.refl [] _).drew) (by simp)) (BP.out.fr ((Fr.refl [] _).drew) (by simp)) l HST.out)
          clear hLC hy x2 hpe
          by_cases hk1 : knd c p ≤ 1
          · cases hay : l.any (fun x => !ab c x.toNat p) with
            | true =>
              have HN := Lib.hid (HNX.out (by simp [comOk, hay]))
              rw [hay] at hcc
              clear hay
              go_wp2
              go_region_with (first
                | (go_at_call 61; refine hcc.mono ?_; rintro e w8 ⟨rfl, f8⟩))
              all_goals
                go_wp2
                go_roundg (r.length - (j + 1))
                case measure => omega
                case rel => exact ⟨j + 1, by omega, by omega, by go_num, ((hfr.out.trans' F1.out).trans' ((Fr.refl [] _).drew)).trans' f8, HN.out⟩
            | false =>
              have HV := Lib.hid (HAT.out (by simp [comOk, hay, hk1]))
              rw [hay] at hcc
              clear hay
              go_wp2
              go_region_with (first
                | (go_at_call 61; refine hcc.mono ?_; rintro e w8 ⟨rfl, f8⟩))
              all_goals
                have hp9 := ((BP.out.fr ((Fr.refl [] _).drew) (by simp)).fr f8 (by simp)).cell 0
                simp at hp9
                have HF9 := Lib.hid ((HFP.out.trans' ((Fr.refl [] _).drew)).trans' f8)
                go_wp2
                go_ret
                exact ⟨by rw [HV.out]; rfl, HF9.out⟩
          · have HN := Lib.hid (HNX.out (by simp [comOk, hk1]))
            have HK1 := Lib.hid hk1
            clear hcc hk1
            go_wp2
            refine com6 hb6 hp6 x3 x1 hpn (by have := HK1.out; omega) ?_
            rintro u25 u26 u27 u28 u29 u30 u31 u32 u33 u34 u35 u36 u37 u38 u39 u40 w9 ⟨rfl, rfl⟩
            go_wp2
            go_roundg (r.length - (j + 1))
            case measure => omega
            case rel => exact ⟨j + 1, by omega, by omega, by go_num, (hfr.out.trans' F1.out).trans' ((Fr.refl [] _).drew), HN.out⟩
        · obtain rfl : j = r.length := by omega
          have hjz : ¬ (r.length : Int) < (r.length : Int) := by omega
          have HD : Hid (comB c l = -1) := Lib.hid (by rw [HZ2.out]; exact comF_no fun k hk => hno.out k hk hk)
          go_wp2
          go_ret
          exact ⟨by rw [HD.out]; rfl, HFW.out⟩
end Go.Proofs.Ytekfbafljilchaa
