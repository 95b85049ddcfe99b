/- pennantlaw13: large. -/
import Derived.Test.YtekfbafljilchaaE5
set_option linter.unusedVariables false
set_option linter.unusedSimpArgs false
namespace Go.Proofs.Ytekfbafljilchaa
open Go.RowKit Go.Lib

/-- It says something, and turns nothing old. -/
def SomeBool (W : World) (e : Ending) (w' : World) : Prop := (∃ b : Bool, e = .returned (.bool b)) ∧ Fr [] W w'
def chartA (c : DChart) (vS vT vB vD vI : Value) : Array Value := #[.string c.name, .bool c.late, .int .i64 c.script, vS, vT, vB, vD, vI]

theorem len_sum {a b : Nat} (ha : a ≤ 140737488351232) (hb : b ≤ 140737488351232) : IntKind.i64.wrap ((a : Int) + (b : Int)) = (a : Int) + (b : Int) := IntWalk.i64_in _ (by omega)

set_option maxRecDepth 100000 in
set_option maxHeartbeats 8000000 in
theorem large13_any (W : World) (c : DChart) (vS vT vB vD vI : Value) (h : Rows8 (fun k => k < W.heap.size) W c vS vT vB vD vI) :
    Calls Try.prog 25 #[chartV c vS vT vB vD vI] W (SomeBool W) := by
  obtain ⟨hS, hT, hB, hD, hI⟩ := h
  have lS := hS.len
  have lT := hT.len
  obtain ⟨As, cs, rfl, _⟩ := hS.form
  obtain ⟨At, ct, rfl, _⟩ := hT.form
  have HS := Lib.hid hS
  have HT := Lib.hid hT
  have hbx := Lib.hid (Blk.new W #[.string c.name, .bool c.late, .int .i64 c.script, .slice As c.states.length cs, .slice At c.trans.length ct, vB, vD, vI] 28)
  have hf0 := Lib.hid ((Fr.refl [] W).alloc (.cells #[.string c.name, .bool c.late, .int .i64 c.script, .slice As c.states.length cs, .slice At c.trans.length ct, vB, vD, vI] 28))
  clear hS hT hB hD hI
  unfold chartV
  by_cases h1 : (200 : Int) < (c.states.length : Int)
  · go_enter Try.func25, Try.ntmps25
    go_wp2
    go_ret
    exact ⟨⟨_, rfl⟩, hf0.out⟩
  by_cases h2 : (400 : Int) < (c.trans.length : Int)
  · go_enter Try.func25, Try.ntmps25
    go_wp2
    go_ret
    exact ⟨⟨_, rfl⟩, hf0.out⟩
  go_enter Try.func25, Try.ntmps25
  go_wp2
  generalize (W.alloc (.cells #[.string c.name, .bool c.late, .int .i64 c.script, .slice As c.states.length cs, .slice At c.trans.length ct, vB, vD, vI] 28)) = W1 at *
  go_loopg [18] c.states.length (fun gg s18 wr => ∃ k : Nat, k ≤ c.states.length ∧ c.states.length - k ≤ gg ∧ s18 = .int .i64 k ∧ Aside (Fr [] W1 wr))
  case atStart => exact ⟨0, Nat.zero_le _, by omega, rfl, Fr.refl _ _⟩
  case round =>
    obtain ⟨k, hk, hg, rfl, hfr⟩ := hrel
    have hb3 : wr.cell? ⟨W.heap.size, 3, none⟩ = some (.slice As c.states.length cs) := by have := (hbx.out.fr hfr.out (by simp)).cell 3; simpa using this
    have hb4 : wr.cell? ⟨W.heap.size, 4, none⟩ = some (.slice At c.trans.length ct) := by have := (hbx.out.fr hfr.out (by simp)).cell 4; simpa using this
    by_cases hlt : k < c.states.length
    · have hltz : (k : Int) < (c.states.length : Int) := by omega
      have hk0 : (0 : Int) ≤ (k : Int) := by omega
      have hSr := HS.out.fr (q := fun _ => True) (w' := wr) (fun x hx hlt => ⟨trivial, (hf0.out.trans' hfr.out).block x hlt (by simp)⟩)
      obtain ⟨gs, os, A3, d3, A5, d5, A6, d6, A7, d7, A8, d8, A9, d9, A11, d11, rfl, _, _, _, _, _, c3, _, _, _, c7, _, _, _, _, _, s3, _, _, s7, _⟩ := hSr.state_at k hlt
      have l3 := s3.len
      have l7 := s7.len
      have hsum := len_sum l3 l7
      clear s3 s7 hSr hb4
      go_wp2
      go_quiet (fail)
      by_cases hbig : (400 : Int) < (c.states[k].kids.length : Int) + (c.states[k].trans.length : Int)
      · go_wp2
        go_ret
        exact ⟨⟨_, rfl⟩, hf0.out.trans' (hfr.out.drewN _)⟩
      · go_wp2
        go_roundg (c.states.length - (k + 1))
        case measure => omega
        case rel => exact ⟨k + 1, by omega, by omega, by go_num, hfr.out.drewN _⟩
    · obtain rfl : k = c.states.length := by omega
      have hltz : ¬ (c.states.length : Int) < (c.states.length : Int) := by omega
      go_wp2
      obtain ⟨wo, rfl⟩ : ∃ wo : World, wo = wr := ⟨_, rfl⟩
      go_loopg [41] c.trans.length (fun gg s41 wr => ∃ k : Nat, k ≤ c.trans.length ∧ c.trans.length - k ≤ gg ∧ s41 = .int .i64 k ∧ Aside (Fr [] W1 wr))
      case atStart => exact ⟨0, Nat.zero_le _, by omega, rfl, hfr⟩
      case round =>
        obtain ⟨k, hk, hg, rfl, hfr⟩ := hrel
        clear hb3 hb4
        have hb4 : wr.cell? ⟨W.heap.size, 4, none⟩ = some (.slice At c.trans.length ct) := by have := (hbx.out.fr hfr.out (by simp)).cell 4; simpa using this
        by_cases hlt : k < c.trans.length
        · have hltz : (k : Int) < (c.trans.length : Int) := by omega
          have hk0 : (0 : Int) ≤ (k : Int) := by omega
          have hTr := HT.out.fr (q := fun _ => True) (w' := wr) (fun x hx hlt => ⟨trivial, (hf0.out.trans' hfr.out).block x hlt (by simp)⟩)
          obtain ⟨gt, ot, A1, d1, A3, d3, rfl, _, _, _, _, _, c3, _, _, _, s3⟩ := hTr.trans_at k hlt
          have l3 := s3.len
          clear s3 hTr
          by_cases hbig : (30 : Int) < (c.trans[k].targets.length : Int)
          · go_wp2
            go_ret
            exact ⟨⟨_, rfl⟩, hf0.out.trans' hfr.out⟩
          · go_wp2
            go_roundg (c.trans.length - (k + 1))
            case measure => omega
            case rel => exact ⟨k + 1, by omega, by omega, by go_num, hfr⟩
        · obtain rfl : k = c.trans.length := by omega
          have hltz : ¬ (c.trans.length : Int) < (c.trans.length : Int) := by omega
          go_wp2
          go_ret
          exact ⟨⟨_, rfl⟩, hf0.out.trans' hfr.out⟩
end Go.Proofs.Ytekfbafljilchaa
