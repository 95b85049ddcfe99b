/- Common: its closures. -/
import Derived.Test.YtekfbafljilchaaD1
set_option linter.unusedVariables false
set_option linter.unusedSimpArgs false
namespace Go.Proofs.Ytekfbafljilchaa
open Go.RowKit Go.Lib

theorem com_state (W : World) (g : Nat) (c : DChart) (bl : Nat) (tl : TypeId) (hL : Lat (fun _ => True) W g c) (hbl : Blk W bl #[.pointer (some ⟨g, 0, none⟩)] tl) (l : List Int) :
    Says 78 #[.pointer (some ⟨bl, 0, none⟩)] (fun x => !isSt c x) l W := by
  refine ⟨enters_of Try.func78 (by kernel_rfl) rfl, fun x hx W' f => ?_⟩
  have hL' := hL.on f
  have kl := (hbl.fr f (by simp)).cell 0
  simp at kl
  have hst := state_any W' g c x hL'
  obtain ⟨z, hz⟩ : ∃ z, z = isSt c x := ⟨_, rfl⟩
  simp only [← hz] at hst ⊢
  clear hz hL hL' hbl hx
  show Calls Try.prog 78 #[.int .i64 x, .pointer (some ⟨bl, 0, none⟩)] W' _
  go_enter Try.func78, Try.ntmps78
  go_wp2_with fail
  refine hst.mono ?_
  rintro e w' ⟨rfl, rfl⟩
  go_wp2
  go_ret
  exact ⟨rfl, Fr.refl _ _⟩
set_option maxHeartbeats 2000000 in
theorem com_above (W : World) (g : Nat) (c : DChart) (p : Nat) (hp : p < c.states.length) (bl bp : Nat) (tl tp : TypeId) (hL : Lat (fun _ => True) W g c) (hbl : Blk W bl #[.pointer (some ⟨g, 0, none⟩)] tl) (hbp : Blk W bp #[.int .i64 p] tp) (l : List Int) (hl : ∀ x, x ∈ l → isSt c x = true) :
    Says 79 #[.pointer (some ⟨bl, 0, none⟩), .pointer (some ⟨bp, 0, none⟩)] (fun x => !ab c x.toNat p) l W := by
  refine ⟨enters_of Try.func79 (by kernel_rfl) rfl, fun x hx W' f => ?_⟩
  obtain ⟨a, rfl, ha⟩ := isSt_true (hl x hx)
  have hL' := hL.on f
  have kl := (hbl.fr f (by simp)).cell 0
  have kp := (hbp.fr f (by simp)).cell 0
  simp at kl kp
  obtain ⟨As, cs, At, ct, Aa, ca, Ak, ck, hC⟩ := hL'.open_
  have h8 := hC.a
  have hg := hL'.lt
  have ha0 : (0 : Int) ≤ (a : Int) := by omega
  have haz : (a : Int) < (c.states.length : Int) := by omega
  have hp0 : (0 : Int) ≤ (p : Int) := by omega
  have hpz : (p : Int) < (c.states.length : Int) := by omega
  obtain ⟨ga, oa, gb, ob, db, rfl, r1, r2⟩ := hC.row ha hp
  show Calls Try.prog 79 #[.int .i64 a, .pointer (some ⟨bl, 0, none⟩), .pointer (some ⟨bp, 0, none⟩)] W' _
  show Calls Try.prog 79 _ W' fun e w' => e = .returned (.bool (!ab c a p)) ∧ Fr [] W' w'
  clear hC hL hL' hbl hbp hx hl
  go_enter Try.func79, Try.ntmps79
  go_wp2
  go_quiet (fail)
  go_wp2
  go_ret
  exact ⟨rfl, (Fr.refl _ _).drewN _⟩
end Go.Proofs.Ytekfbafljilchaa
