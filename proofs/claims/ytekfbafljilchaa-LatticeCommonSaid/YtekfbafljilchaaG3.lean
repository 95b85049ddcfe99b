/- Finished. -/
import Derived.Test.YtekfbafljilchaaD1
set_option linter.unusedVariables false
set_option linter.unusedSimpArgs false
namespace Go.Proofs.Ytekfbafljilchaa
open Go.RowKit Go.Lib

def finF (c : DChart) (cfg : List Int) : Nat → Nat → Bool
  | 0, _ => false
  | f + 1, a => if compB c (a : Int) then (kidsOf c a).any (fun x => knd c x.toNat == 3 && has cfg x) else if knd c a ≠ 2 ∨ (kidsOf c a).length = 0 then false else !((kidsOf c a).any fun x => !finF c cfg f x.toNat)
def finB (c : DChart) (cfg : List Int) (a : Int) : Bool := isSt c a && finF c cfg (ns c) a.toNat

set_option maxRecDepth 100000 in
set_option maxHeartbeats 4000000 in
theorem fin_closure1 (W : World) (g : Nat) (c : DChart) (cfg : List Int) (A : Option Addr) (d : Nat) (bl bc : Nat) (tl tc : TypeId) (hL : Lat (fun _ => True) W g c) (hC : Sl rInt (fun _ => True) W (.slice A cfg.length d) cfg)
    (hbl : Blk W bl #[.pointer (some ⟨g, 0, none⟩)] tl) (hbc : Blk W bc #[.slice A cfg.length d] tc) (l : List Int) (hl : ∀ x, x ∈ l → isSt c x = true) :
    Says 80 #[.pointer (some ⟨bl, 0, none⟩), .pointer (some ⟨bc, 0, none⟩)] (fun x => knd c x.toNat == 3 && has cfg x) l W := by
  refine ⟨enters_of Try.func80 (by kernel_rfl) rfl, fun x hx W' f => ?_⟩
  obtain ⟨a, rfl, ha⟩ := isSt_true (hl x hx)
  have hL' := hL.on f
  have hC' := hC.fr (q := fun _ => True) (fun k _ hk => ⟨trivial, f.block k hk (by simp)⟩)
  have kl := (hbl.fr f (by simp)).cell 0
  have kc := (hbc.fr f (by simp)).cell 0
  simp at kl kc
  obtain ⟨As, cs, At, ct, Aa, ca, Ak, ck, hLC⟩ := hL'.open_
  have h3 := hLC.s
  have hg := hL'.lt
  obtain ⟨gs, os, rfl, k1, _⟩ := hLC.st ha
  have ha0 : (0 : Int) ≤ (a : Int) := by omega
  have haz : (a : Int) < (c.states.length : Int) := by omega
  have hcn := contains_any cfg (a : Int) (fun _ => True) A d W' hC'
  show Calls Try.prog 80 #[.int .i64 a, .pointer (some ⟨bl, 0, none⟩), .pointer (some ⟨bc, 0, none⟩)] W' _
  show Calls Try.prog 80 _ W' fun e w' => e = .returned (.bool (knd c a == 3 && has cfg a)) ∧ Fr [] W' w'
  clear hLC hL hL' hbl hbc hx hl hC hC'
  cases h3k : (knd c a == 3) with
  | false =>
    clear hcn
    go_enter Try.func80, Try.ntmps80
    go_wp2
    go_ret
    exact ⟨rfl, Fr.refl _ _⟩
  | true =>
    simp only [Bool.true_and]
    go_enter Try.func80, Try.ntmps80
    go_wp2_with fail
    refine hcn.mono ?_
    rintro e w' ⟨rfl, rfl⟩
    go_wp2
    go_ret
    exact ⟨rfl, Fr.refl _ _⟩
end Go.Proofs.Ytekfbafljilchaa
