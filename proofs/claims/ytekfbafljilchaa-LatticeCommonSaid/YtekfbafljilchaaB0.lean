/- A lattice in memory; its small methods. -/
import Derived.Test.YtekfbafljilchaaP0
import Derived.Test.YtekfbafljilchaaA4
set_option linter.unusedVariables false
set_option linter.unusedSimpArgs false
namespace Go.Proofs.Ytekfbafljilchaa
open Go.RowKit Go.Lib

/-- A lattice at block g: the chart c, what is inside what, the plain kids. -/
def Lat (p : Nat → Prop) (w : World) (g : Nat) (c : DChart) : Prop :=
  ∃ vs vt vb vd vi va vk, Blk w g #[.string c.name, .bool c.late, .int .i64 c.script, vs, vt, vb, vd, vi, va, vk] 87 ∧ Sl rState p w vs c.states ∧ Sl rTrans p w vt c.trans ∧ Sl rBlock p w vb c.blocks ∧
    Sl rDatum p w vd c.data ∧ Sl rInvoke p w vi c.invokes ∧ Sl (rSl rBool) p w va (abRows c) ∧ Sl (rSl rInt) p w vk (kdRows c)
theorem Lat.fr {p q : Nat → Prop} {w w' : World} {g : Nat} {c : DChart} (h : Lat p w g c) (hg : w'.heap[g]? = w.heap[g]?) (hp : ∀ k, p k → k < w.heap.size → q k ∧ w'.heap[k]? = w.heap[k]?) : Lat q w' g c := by
  obtain ⟨vs, vt, vb, vd, vi, va, vk, hb, h1, h2, h3, h4, h5, h6, h7⟩ := h
  exact ⟨vs, vt, vb, vd, vi, va, vk, hg.trans hb, h1.fr hp, h2.fr hp, h3.fr hp, h4.fr hp, h5.fr hp, h6.fr hp, h7.fr hp⟩
theorem Lat.lt {p : Nat → Prop} {w : World} {g : Nat} {c : DChart} (h : Lat p w g c) : g < w.heap.size := by
  obtain ⟨vs, vt, vb, vd, vi, va, vk, hb, _⟩ := h
  exact hb.lt
theorem Lat.any {p : Nat → Prop} {w : World} {g : Nat} {c : DChart} (h : Lat p w g c) : Lat (fun _ => True) w g c := h.fr rfl (fun _ _ _ => ⟨trivial, rfl⟩)
/-- Nothing old has turned. -/
theorem Lat.on {w w' : World} {g : Nat} {c : DChart} (h : Lat (fun _ => True) w g c) (f : Fr [] w w') : Lat (fun _ => True) w' g c :=
  h.fr (f.block g h.lt (by simp)) (fun k _ hk => ⟨trivial, f.block k hk (by simp)⟩)

/-- The cells that the small methods read. -/
structure LatC (w : World) (g : Nat) (c : DChart) (As : Option Addr) (cs : Nat) (At : Option Addr) (ct : Nat) (Aa : Option Addr) (ca : Nat) (Ak : Option Addr) (ck : Nat) : Prop where
  s : w.cell? ⟨g, 3, none⟩ = some (.slice As c.states.length cs)
  t : w.cell? ⟨g, 4, none⟩ = some (.slice At c.trans.length ct)
  a : w.cell? ⟨g, 8, none⟩ = some (.slice Aa c.states.length ca)
  k : w.cell? ⟨g, 9, none⟩ = some (.slice Ak c.states.length ck)
  S : Sl rState (fun _ => True) w (.slice As c.states.length cs) c.states
  T : Sl rTrans (fun _ => True) w (.slice At c.trans.length ct) c.trans
  A : Sl (rSl rBool) (fun _ => True) w (.slice Aa c.states.length ca) (abRows c)
  K : Sl (rSl rInt) (fun _ => True) w (.slice Ak c.states.length ck) (kdRows c)
theorem Lat.open_ {p : Nat → Prop} {w : World} {g : Nat} {c : DChart} (h : Lat p w g c) : ∃ As cs At ct Aa ca Ak ck, LatC w g c As cs At ct Aa ca Ak ck := by
  obtain ⟨vs, vt, vb, vd, vi, va, vk, hb, h1, h2, h3, h4, h5, h6, h7⟩ := h.any
  obtain ⟨As, cs, rfl, _⟩ := h1.form
  obtain ⟨At, ct, rfl, _⟩ := h2.form
  obtain ⟨Aa, ca, rfl, _⟩ := h6.form
  obtain ⟨Ak, ck, rfl, _⟩ := h7.form
  have c3 := hb.cell 3
  have c4 := hb.cell 4
  have c8 := hb.cell 8
  have c9 := hb.cell 9
  simp [abRows, kdRows] at c3 c4 c8 c9
  have ha : (abRows c).length = c.states.length := by simp [abRows]
  have hk : (kdRows c).length = c.states.length := by simp [kdRows]
  rw [ha] at h6
  rw [hk] at h7
  exact ⟨As, cs, At, ct, Aa, ca, Ak, ck, c3, c4, c8, c9, h1, h2, h6, h7⟩

/-- State i's cells that matter: its kind, its parent. -/
theorem LatC.st {w : World} {g : Nat} {c : DChart} {As : Option Addr} {cs : Nat} {At : Option Addr} {ct : Nat} {Aa : Option Addr} {ca : Nat} {Ak : Option Addr} {ck : Nat} (h : LatC w g c As cs At ct Aa ca Ak ck) {i : Nat} (hi : i < c.states.length) :
    ∃ gs os, As = some ⟨gs, os, none⟩ ∧ w.cell? ⟨gs, os + i * 13 + 1, none⟩ = some (.int .i64 (knd c i)) ∧ w.cell? ⟨gs, os + i * 13 + 2, none⟩ = some (.int .i64 (par c i)) := by
  obtain ⟨gs, os, A3, d3, A5, d5, A6, d6, A7, d7, A8, d8, A9, d9, A11, d11, e, _, _, h0, h1, h2, _⟩ := h.S.state_at i hi
  rw [st_at hi] at h1 h2
  exact ⟨gs, os, e, h1, h2⟩
theorem row_at {c : DChart} {i : Nat} (hi : i < c.states.length) : (abRows c)[i]? = some (row c i) := by
  unfold abRows
  rw [List.getElem?_map, List.getElem?_range hi]
  rfl
theorem kids_at {c : DChart} {i : Nat} (hi : i < c.states.length) : (kdRows c)[i]? = some (kidsOf c i) := by
  unfold kdRows
  rw [List.getElem?_map, List.getElem?_range hi]
  rfl
theorem LatC.row {w : World} {g : Nat} {c : DChart} {As : Option Addr} {cs : Nat} {At : Option Addr} {ct : Nat} {Aa : Option Addr} {ca : Nat} {Ak : Option Addr} {ck : Nat} (h : LatC w g c As cs At ct Aa ca Ak ck) {i j : Nat} (hi : i < c.states.length) (hj : j < c.states.length) :
    ∃ ga oa gb ob db, Aa = some ⟨ga, oa, none⟩ ∧ w.cell? ⟨ga, oa + i, none⟩ = some (.slice (some ⟨gb, ob, none⟩) c.states.length db) ∧ w.cell? ⟨gb, ob + j, none⟩ = some (.bool (ab c i j)) := by
  have hil : i < (abRows c).length := by simpa [abRows] using hi
  obtain ⟨ga, oa, B, d, e, _, _, hc, _, hs⟩ := h.A.sl_at i hil
  have hr : (abRows c)[i] = Ytekfbafljilchaa.row c i := by
    have := row_at hi
    rw [List.getElem?_eq_getElem hil] at this
    exact Option.some.inj this
  rw [hr] at hc hs
  have hl : (Ytekfbafljilchaa.row c i).length = c.states.length := by simp [Ytekfbafljilchaa.row]
  obtain ⟨gb, ob, e2, _, _, hb⟩ := hs.bool_at j (by rw [hl]; exact hj)
  subst e2
  rw [hl] at hc
  refine ⟨ga, oa, gb, ob, d, e, hc, ?_⟩
  rw [hb]
  simp [Ytekfbafljilchaa.row]
theorem LatC.kd {w : World} {g : Nat} {c : DChart} {As : Option Addr} {cs : Nat} {At : Option Addr} {ct : Nat} {Aa : Option Addr} {ca : Nat} {Ak : Option Addr} {ck : Nat} (h : LatC w g c As cs At ct Aa ca Ak ck) {i : Nat} (hi : i < c.states.length) :
    ∃ ga oa B d, Ak = some ⟨ga, oa, none⟩ ∧ w.cell? ⟨ga, oa + i, none⟩ = some (.slice B (kidsOf c i).length d) ∧ Sl rInt (fun _ => True) w (.slice B (kidsOf c i).length d) (kidsOf c i) := by
  have hil : i < (kdRows c).length := by simpa [kdRows] using hi
  obtain ⟨ga, oa, B, d, e, _, _, hc, _, hs⟩ := h.K.sl_at i hil
  have hr : (kdRows c)[i] = kidsOf c i := by
    have := kids_at hi
    rw [List.getElem?_eq_getElem hil] at this
    exact Option.some.inj this
  rw [hr] at hc hs
  exact ⟨ga, oa, B, d, e, hc, hs⟩

/-! ### state -/
def isSt (c : DChart) (a : Int) : Bool := decide (0 ≤ a) && decide (a < (c.states.length : Int))
theorem isSt_true {c : DChart} {a : Int} (h : isSt c a = true) : ∃ i : Nat, a = (i : Int) ∧ i < c.states.length := by
  simp [isSt] at h
  exact ⟨a.toNat, by omega, by omega⟩
theorem isSt_nat {c : DChart} {i : Nat} (h : i < c.states.length) : isSt c (i : Int) = true := by
  simp [isSt]
  exact h
theorem isSt_false {c : DChart} {a : Int} (h : isSt c a = false) : a < 0 ∨ (c.states.length : Int) ≤ a := by
  simp [isSt] at h
  omega

theorem state_any (w : World) (g : Nat) (c : DChart) (a : Int) (hL : Lat (fun _ => True) w g c) :
    Calls Try.prog 53 #[.pointer (some ⟨g, 0, none⟩), .int .i64 a] w fun e w' => e = .returned (.bool (isSt c a)) ∧ w = w' := by
  obtain ⟨As, cs, At, ct, Aa, ca, Ak, ck, hC⟩ := hL.open_
  have hs := hC.s
  have hl := hC.S.len
  have hg := hL.lt
  clear hC hL
  by_cases h0 : 0 ≤ a
  · have e : isSt c a = decide (a < (c.states.length : Int)) := by simp [isSt, h0]
    rw [e]
    go_enter Try.func53, Try.ntmps53
    go_wp2
    go_ret
    exact ⟨rfl, rfl⟩
  · have e : isSt c a = false := by simp [isSt]; omega
    have hd : decide (0 ≤ a) = false := by simpa using h0
    rw [e]
    go_enter Try.func53, Try.ntmps53
    go_wp2
    go_ret
    exact ⟨rfl, rfl⟩

/-! ### Inside -/
def inB (c : DChart) (a b : Int) : Bool := isSt c a && isSt c b && ab c a.toNat b.toNat

theorem inside_any (w : World) (g : Nat) (c : DChart) (a b : Int) (hL : Lat (fun _ => True) w g c) :
    Calls Try.prog 29 #[.pointer (some ⟨g, 0, none⟩), .int .i64 a, .int .i64 b] w fun e w' => e = .returned (.bool (inB c a b)) ∧ w = w' := by
  obtain ⟨As, cs, At, ct, Aa, ca, Ak, ck, hC⟩ := hL.open_
  have hl := hC.S.len
  have sa := state_any w g c a hL
  have sb := state_any w g c b hL
  have hg := hL.lt
  cases ha : isSt c a with
  | false =>
    have e : inB c a b = false := by simp [inB, ha]
    rw [e]
    rw [ha] at sa
    clear hC hL ha e
    go_enter Try.func29, Try.ntmps29
    go_wp2_with (with_reducible refine sa.mono ?_; rintro e w' ⟨rfl, rfl⟩)
    go_ret
    exact ⟨rfl, rfl⟩
  | true =>
    cases hb : isSt c b with
    | false =>
      have e : inB c a b = false := by simp [inB, ha, hb]
      rw [e]
      rw [ha] at sa
      rw [hb] at sb
      clear hC hL ha hb e
      go_enter Try.func29, Try.ntmps29
      go_wp2_with (first | (with_reducible refine sa.mono ?_; rintro e w' ⟨rfl, rfl⟩) | (with_reducible refine sb.mono ?_; rintro e w' ⟨rfl, rfl⟩))
      go_ret
      exact ⟨rfl, rfl⟩
    | true =>
      obtain ⟨i, rfl, hi⟩ := isSt_true ha
      obtain ⟨j, rfl, hj⟩ := isSt_true hb
      have e : inB c (i : Int) (j : Int) = ab c i j := by simp [inB, ha, hb]
      rw [e]
      rw [ha] at sa
      rw [hb] at sb
      obtain ⟨ga, oa, gb, ob, db, rfl, h1, h2⟩ := hC.row hi hj
      have h3 := hC.a
      clear hC hL ha hb e
      have hiz : (i : Int) < (c.states.length : Int) := by omega
      have hjz : (j : Int) < (c.states.length : Int) := by omega
      go_enter Try.func29, Try.ntmps29
      go_wp2_with (first | (with_reducible refine sa.mono ?_; rintro e w' ⟨rfl, rfl⟩) | (with_reducible refine sb.mono ?_; rintro e w' ⟨rfl, rfl⟩))
      go_ret
      exact ⟨rfl, rfl⟩
end Go.Proofs.Ytekfbafljilchaa
