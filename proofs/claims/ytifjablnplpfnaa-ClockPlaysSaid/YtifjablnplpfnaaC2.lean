/- SameInts, timers. -/
import Derived.Test.YtifjablnplpfnaaC1
set_option linter.unusedVariables false
set_option linter.unusedSimpArgs false
namespace Go.Proofs.Ytifjablnplpfnaa
open Go.RowKit Go.Lib

/-- A slice that reads as these ints. -/
def RI (w : World) (v : Value) (ns : List Int) : Prop :=
  ∃ A c, v = .slice A ns.length c ∧ ns.length ≤ 9223372036854775807 ∧ ∀ j (h : j < ns.length), ∃ g, A = some ⟨g, 0, none⟩ ∧ w.cell? ⟨g, j, none⟩ = some (.int .i64 ns[j])
theorem OwnI.ri {w : World} {base : Nat} {v : Value} {ns : List Int} (h : OwnI w base v ns) : RI w v ns := by
  rcases h.2 with ⟨rfl, h0⟩ | ⟨g, cap, cur, rfl, hb, hg, h1, h2, h3, h4⟩
  · have := List.eq_nil_of_length_eq_zero h0; subst this
    exact ⟨none, 0, rfl, by simp, fun j h => absurd h (by simp)⟩
  · refine ⟨_, cap, rfl, by unfold maxLen at h2; omega, fun j hj => ⟨g, rfl, ?_⟩⟩
    have := World.ownsRow.cells h (g := g) rfl j (.int .i64 ns[j]) (by simp [hj])
    rwa [plain_add] at this
theorem RI.lit {w : World} {b : Nat} {ns : List Int} (h : Blk w b (ns.map (Value.int .i64)).toArray 3) (hn : ns.length ≤ 9223372036854775807) (c : Nat) : RI w (.slice (some ⟨b, 0, none⟩) ns.length c) ns :=
  ⟨_, c, rfl, hn, fun j hj => ⟨b, rfl, by rw [h.cell]; simp [hj]⟩⟩

theorem same_cons (a b : List Int) (k : Nat) (ha : k < a.length) (hl : a.length = b.length) (hall : ∀ j (h : j < k), a[j]'(by omega) = b[j]'(by omega)) (hne : a[k] ≠ b[k]'(by omega)) : (a == b) = false := by
  rw [beq_eq_false_iff_ne]
  rintro rfl
  exact hne rfl
theorem same_all (a b : List Int) (hl : a.length = b.length) (hall : ∀ j (h : j < a.length), a[j] = b[j]'(by omega)) : (a == b) = true := by
  rw [beq_iff_eq]
  exact List.ext_getElem hl (fun j h1 h2 => hall j h1)

set_option maxHeartbeats 1000000 in
theorem sameInts_any (W : World) (v1 v2 : Value) (a b : List Int) (h1 : RI W v1 a) (h2 : RI W v2 b) :
    Calls Try.prog 11 #[v1, v2] W fun e w' => e = .returned (.bool (a == b)) ∧ Fr [] W w' := by
  obtain ⟨A, c, rfl, hla, ha⟩ := h1
  obtain ⟨B, d, rfl, hlb, hb⟩ := h2
  have HA := Lib.hid ha
  have HB := Lib.hid hb
  clear ha hb
  by_cases hl : a.length = b.length
  · have HL := Lib.hid hl
    have hne : ((a.length : Int) != (b.length : Int)) = false := by simp [hl]
    have hle : a.length ≤ b.length := by omega
    clear hl
    go_enter Try.func11, Try.ntmps11
    go_wp2
    go_loopg [5] a.length (fun gg s5 wr => ∃ k q : Nat, k ≤ a.length ∧ a.length - k ≤ gg ∧ s5 = .int .i64 k ∧ wr = W.drewN q ∧ Aside (∀ j (h : j < k) (h1 : j < a.length) (h2 : j < b.length), a[j] = b[j]))
    case atStart => exact ⟨0, 0, by omega, by omega, rfl, rfl, fun j h => absurd h (Nat.not_lt_zero _)⟩
    case round =>
      obtain ⟨k, q, hk, hg, rfl, rfl, hall⟩ := hrel
      by_cases hlt : k < a.length
      · have hltz : (k : Int) < (a.length : Int) := by omega
        have hltz2 : (k : Int) < (b.length : Int) := by omega
        obtain ⟨g1, rfl, f1⟩ := HA.out k hlt
        obtain ⟨g2, rfl, f2⟩ := HB.out k (by omega)
        by_cases he : a[k] = b[k]
        · have he' : (a[k] != b[k]) = false := by simp [he]
          have HE := Lib.hid he
          clear he
          go_wp2
          go_quiet (fail)
          go_wp2
          go_roundg (a.length - (k + 1))
          case measure => omega
          case rel =>
            refine ⟨k + 1, _, by omega, by omega, by go_num, rfl, (show Aside _ from fun j h h1 h2 => ?_)⟩
            rcases Nat.lt_succ_iff_lt_or_eq.1 h with h | rfl
            · exact hall j h h1 h2
            · exact HE.out
        · have he' : (a[k] != b[k]) = true := by simpa using he
          go_wp2
          go_quiet (fail)
          go_wp2
          go_ret
          exact ⟨by rw [same_cons a b k hlt HL.out (fun j h => hall j h _ _) he]; rfl, ((Fr.refl _ _).drewN _).drewN _⟩
      · have hltz : ¬ (k : Int) < (a.length : Int) := by omega
        obtain rfl : k = a.length := by omega
        go_wp2
        go_ret
        exact ⟨by rw [same_all a b HL.out (fun j h => hall j h h _)]; rfl, (Fr.refl _ _).drewN _⟩
  · have hne : ((a.length : Int) != (b.length : Int)) = true := by simp; omega
    have hr : (a == b) = false := by rw [beq_eq_false_iff_ne]; rintro rfl; exact hl rfl
    have HR := Lib.hid hr
    clear hr
    go_enter Try.func11, Try.ntmps11
    go_wp2
    go_ret
    exact ⟨by rw [HR.out]; rfl, Fr.refl _ _⟩

end Go.Proofs.Ytifjablnplpfnaa
