/- (*Lattice).initial: its closure. -/
import Derived.Test.YtekfbafljilchaaD0
import Derived.Test.YtekfbafljilchaaB2
set_option linter.unusedVariables false
set_option linter.unusedSimpArgs false
namespace Go.Proofs.Ytekfbafljilchaa
open Go.RowKit Go.Lib

/-- A target that an Initial of state i may not have. -/
def badInit (c : DChart) (i a : Nat) : Bool :=
  if knd c i < 4 then !ab c a i else if knd c i = 4 then !has (kidsOf c (up c i)) (a : Int) else !ab c a (up c i) || decide (4 ≤ knd c a)

set_option maxHeartbeats 2000000 in
theorem init_closure (W : World) (g : Nat) (c : DChart) (T : Tree c) (i : Nat) (hi : i < c.states.length) (bh bl bi bs : Nat) (th tl ti ts : TypeId) (y0 y3 y5 y6 y7 y8 y9 y10 y11 y12 : Value) (ini : Int)
    (hL : Lat (fun _ => True) W g c) (hbh : Blk W bh #[.bool (decide (4 ≤ knd c i))] th) (hbl : Blk W bl #[.pointer (some ⟨g, 0, none⟩)] tl) (hbi : Blk W bi #[.int .i64 i] ti)
    (hbs : Blk W bs #[y0, .int .i64 (knd c i), .int .i64 (par c i), y3, .int .i64 ini, y5, y6, y7, y8, y9, y10, y11, y12] ts) (l : List Int) (hl : ∀ x, x ∈ l → isSt c x = true) :
    Says 120 #[.pointer (some ⟨bh, 0, none⟩), .pointer (some ⟨bl, 0, none⟩), .pointer (some ⟨bi, 0, none⟩), .pointer (some ⟨bs, 0, none⟩)] (fun x => badInit c i x.toNat) l W := by
  refine ⟨enters_of Try.func120 (by kernel_rfl) rfl, fun x hx W' f => ?_⟩
  obtain ⟨a, rfl, ha⟩ := isSt_true (hl x hx)
  have hL' := hL.on f
  have kh := (hbh.fr f (by simp)).cell 0
  have kl := (hbl.fr f (by simp)).cell 0
  have ki := (hbi.fr f (by simp)).cell 0
  have k1 := (hbs.fr f (by simp)).cell 1
  have k2 := (hbs.fr f (by simp)).cell 2
  simp at kh kl ki k1 k2
  have hlh := (hbh.fr f (by simp)).lt
  obtain ⟨As, cs, At, ct, Aa, ca, Ak, ck, hC⟩ := hL'.open_
  have hlen := hC.S.len
  have h3 := hC.s
  have h8 := hC.a
  have h9 := hC.k
  have hg := hL'.lt
  have ha0 : (0 : Int) ≤ (a : Int) := by omega
  have haz : (a : Int) < (c.states.length : Int) := by omega
  have hi0 : (0 : Int) ≤ (i : Int) := by omega
  have hiz : (i : Int) < (c.states.length : Int) := by omega
  show Calls Try.prog 120 #[.int .i64 a, .pointer (some ⟨bh, 0, none⟩), .pointer (some ⟨bl, 0, none⟩), .pointer (some ⟨bi, 0, none⟩), .pointer (some ⟨bs, 0, none⟩)] W' _
  show Calls Try.prog 120 _ W' fun e w' => e = .returned (.bool (badInit c i a)) ∧ Fr [] W' w'
  by_cases hk : knd c i < 4
  · have hd : decide (4 ≤ knd c i) = false := by simp; omega
    have hb : badInit c i a = !ab c a i := by simp [badInit, hk]
    obtain ⟨ga, oa, gb, ob, db, rfl, r1, r2⟩ := hC.row ha hi
    rw [hd] at kh
    have HB := Lib.hid hb
    clear hC hL hL' hbh hbl hbi hbs hx hl hd hb hk T
    go_enter Try.func120, Try.ntmps120
    go_wp2
    go_quiet (fail)
    go_wp2
    go_ret
    exact ⟨by rw [HB.out]; rfl, (Fr.refl _ _).drewN _⟩
  · have hd : decide (4 ≤ knd c i) = true := by simp; omega
    have h0 : 0 < i := by
      rcases Nat.eq_zero_or_pos i with rfl | h
      · have := T.root; omega
      · exact h
    rw [T.par_up h0 hi] at k2
    have hu : up c i < c.states.length := T.up_ns hi
    have hu0 : (0 : Int) ≤ (up c i : Int) := by omega
    have huz : (up c i : Int) < (c.states.length : Int) := by omega
    rw [hd] at kh
    by_cases h4 : knd c i = 4
    · have hb : badInit c i a = !has (kidsOf c (up c i)) (a : Int) := by simp [badInit, h4]
      obtain ⟨gk, ok, B, d, rfl, r1, r2⟩ := hC.kd hu
      rw [h4] at k1
      have HB := Lib.hid hb
      have hct : ∀ n, Calls Try.prog 56 #[.slice B (kidsOf c (up c i)).length d, .int .i64 a] (W'.drewN n) fun e w' => e = .returned (.bool (has (kidsOf c (up c i)) (a : Int))) ∧ w' = W'.drewN n := fun n =>
        (contains_any (kidsOf c (up c i)) (a : Int) (fun _ => True) B d (W'.drewN n) (r2.fr (fun k _ hk => ⟨trivial, rfl⟩))).mono (fun e w' h => ⟨h.1, h.2.symm⟩)
      have hct0 := hct 0
      clear hC hL hL' hbh hbl hbi hbs hx hl hd hb hk T h4 r2
      go_enter Try.func120, Try.ntmps120
      go_wp2
      go_quiet ((go_at_call 56; exact Calls.quiet_of_same (hct _)))
      go_wp2
      go_ret
      exact ⟨by rw [HB.out]; rfl, (Fr.refl _ _).drewN _⟩
    · have hb : badInit c i a = (!ab c a (up c i) || decide (4 ≤ knd c a)) := by simp [badInit, h4, hk]
      have hne : (knd c i == 4) = false := by simpa using h4
      obtain ⟨ga, oa, gb, ob, db, rfl, r1, r2⟩ := hC.row ha hu
      obtain ⟨gs, os, rfl, s1, _⟩ := hC.st ha
      cases hab : ab c a (up c i) with
      | false =>
        rw [hab] at r2
        have hb' : badInit c i a = true := by rw [hb, hab]; rfl
        have HB := Lib.hid hb'
        clear hC hL hL' hbh hbl hbi hbs hx hl hd hb hb' hk T h4 hab
        go_enter Try.func120, Try.ntmps120
        go_wp2
        go_quiet (fail)
        go_wp2
        go_ret
        exact ⟨by rw [HB.out]; rfl, (Fr.refl _ _).drewN _⟩
      | true =>
        rw [hab] at r2
        have hb' : badInit c i a = decide (4 ≤ knd c a) := by rw [hb, hab]; rfl
        have HB := Lib.hid hb'
        clear hC hL hL' hbh hbl hbi hbs hx hl hd hb hb' hk T h4 hab
        go_enter Try.func120, Try.ntmps120
        go_wp2
        go_quiet (fail)
        go_wp2
        go_ret
        exact ⟨by rw [HB.out]; rfl, (Fr.refl _ _).drewN _⟩
end Go.Proofs.Ytekfbafljilchaa
