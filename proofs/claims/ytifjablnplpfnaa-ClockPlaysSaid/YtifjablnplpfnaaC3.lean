/- timers: two rows of timers held against each other. -/
import Derived.Test.YtifjablnplpfnaaC2
set_option linter.unusedVariables false
set_option linter.unusedSimpArgs false
namespace Go.Proofs.Ytifjablnplpfnaa
open Go.RowKit Go.Lib

def Tm.same (a b : Tm) : Bool := a.o == b.o && a.i.toList == b.i.toList && a.d == b.d && a.n == b.n
theorem stood44 : Try.prog.stoodInHeld 44 = false := by kernel_rfl
theorem guard44 : Try.prog.eqGuardType Try.prog.depth 44 = false := by kernel_rfl
theorem fields44 : Try.prog.fieldsOf 44 = #[{ name := "Owner", type := 3, offset := 0, embedded := false, tag := "", pkgPath := "", byteOffset := 0 }, { name := "Id", type := 9, offset := 1, embedded := false, tag := "", pkgPath := "", byteOffset := 8 },
    { name := "Due", type := 2, offset := 2, embedded := false, tag := "", pkgPath := "", byteOffset := 24 }, { name := "N", type := 3, offset := 3, embedded := false, tag := "", pkgPath := "", byteOffset := 32 }] := by kernel_rfl

theorem run_neq_tm (w : World) (a b : Tm) : (binOp .neq 44 a.val b.val).run Try.prog w = .ok (.bool (!a.same b)) w := by
  have hu : Try.prog.underlying 44 = some (.struct (Try.prog.fieldsOf 44)) := by rw [fields44]; exact Try.underlying44
  unfold Tm.val Tm.same
  have p0 : ∀ (x0 x1 x2 x3 : Value) (w : World), (part 3 #[x0, x1, x2, x3] 0).run Try.prog w = .ok x0 w := fun _ _ _ _ _ => by kernel_rfl
  have p1 : ∀ (x0 x1 x2 x3 : Value) (w : World), (part 9 #[x0, x1, x2, x3] 1).run Try.prog w = .ok x1 w := fun _ _ _ _ _ => by kernel_rfl
  have p2 : ∀ (x0 x1 x2 x3 : Value) (w : World), (part 2 #[x0, x1, x2, x3] 2).run Try.prog w = .ok x2 w := fun _ _ _ _ _ => by kernel_rfl
  have p3 : ∀ (x0 x1 x2 x3 : Value) (w : World), (part 3 #[x0, x1, x2, x3] 3).run Try.prog w = .ok x3 w := fun _ _ _ _ _ => by kernel_rfl
  have e3 := fun a b => run_equalIn_int (P := Try.prog) w 9998 3 .i64 .i64 a b Try.underlying3
  have e2 := fun a b => run_equalIn_int (P := Try.prog) w 9998 2 .i64 .i64 a b Try.underlying2
  have e9 := fun a b => run_equalIn_string (P := Try.prog) w 9998 9 a b Try.underlying9
  simp only [binOp]
  simp [Op.equal, Op.maxDepth, run_equalIn_struct w 9999 44 _ _ hu stood44, fields44, Op.eqFields, p0, p1, p2, p3, e3, e2, e9, Result.andThen]
  by_cases h0 : a.o = b.o <;> by_cases h1 : a.i.toList = b.i.toList <;> by_cases h2 : a.d = b.d <;> by_cases h3 : a.n = b.n <;> simp [h0, h1, h2, h3]


/-- A slice that reads as these timers. -/
def RT (w : World) (v : Value) (ts : List Tm) : Prop :=
  ∃ A c, v = .slice A ts.length c ∧ ts.length ≤ 9223372036854775807 ∧ ∀ j (h : j < ts.length), ∃ g, A = some ⟨g, 0, none⟩ ∧ Four w g j ts[j]
theorem RT.of_own {w : World} {base : Nat} {v : Value} {ts : List Tm} (h : w.ownsRow base 44 4 v ts.length (flat ts)) (hn : ts.length ≤ 9223372036854775807) : RT w v ts := by
  obtain ⟨rb, hr, _⟩ := TRow.of_own h
  obtain ⟨A, c, rfl, hf⟩ := hr.slice'
  exact ⟨A, c, rfl, hn, hf⟩

/-- Are two rows of timers the same? -/
def sameTs (a b : List Tm) : Bool := a.length == b.length && (a.zip b).all fun x => x.1.same x.2
theorem sameTs_no {a b : List Tm} (k : Nat) (ha : k < a.length) (hl : a.length = b.length) (hne : a[k].same (b[k]'(by omega)) = false) : sameTs a b = false := by
  unfold sameTs
  simp only [hl, beq_self_eq_true, Bool.true_and]
  rw [List.all_eq_false]
  refine ⟨(a[k], b[k]'(by omega)), ?_, by simp [hne]⟩
  rw [List.mem_iff_getElem]
  exact ⟨k, by simp; omega, by simp⟩
theorem sameTs_yes {a b : List Tm} (hl : a.length = b.length) (hall : ∀ j (h : j < a.length), a[j].same (b[j]'(by omega)) = true) : sameTs a b = true := by
  unfold sameTs
  simp only [hl, beq_self_eq_true, Bool.true_and]
  rw [List.all_eq_true]
  intro x hx
  obtain ⟨k, hk, rfl⟩ := List.mem_iff_getElem.1 hx
  have hk' : k < a.length := by simp at hk; omega
  simpa using hall k hk'

set_option maxHeartbeats 1000000 in
theorem timers_same (W : World) (v1 v2 : Value) (a b : List Tm) (h1 : RT W v1 a) (h2 : RT W v2 b) :
    Calls Try.prog 16 #[v1, v2] W fun e w' => e = .returned (.bool (sameTs a b)) ∧ Fr [] W w' := by
  obtain ⟨A, c, rfl, hla, ha⟩ := h1
  obtain ⟨B, d, rfl, hlb, hb⟩ := h2
  have HA := Lib.hid ha
  have HB := Lib.hid hb
  clear ha hb
  by_cases hl : a.length = b.length
  · have HL := Lib.hid hl
    have hne : ((a.length : Int) != (b.length : Int)) = false := by simp [hl]
    have hle : a.length ≤ b.length := by omega
    clear hl
    go_enter Try.func16, Try.ntmps16
    go_wp2
    go_loopg [5, 13] a.length (fun gg _ s13 wr => ∃ k q : Nat, k ≤ a.length ∧ a.length - k ≤ gg ∧ s13 = .int .i64 k ∧ wr = W.drewN q ∧ Aside (∀ j (h : j < k) (h1 : j < a.length) (h2 : j < b.length), a[j].same b[j] = true))
    case atStart => exact ⟨0, 0, by omega, by omega, rfl, rfl, fun j h => absurd h (Nat.not_lt_zero _)⟩
    case round =>
      obtain ⟨k, q, hk, hg, rfl, rfl, hall⟩ := hrel
      by_cases hlt : k < a.length
      · have hltz : (k : Int) < (a.length : Int) := by omega
        have hltz2 : (k : Int) < (b.length : Int) := by omega
        obtain ⟨g1, rfl, f0, f1, f2, f3⟩ := HA.out k hlt
        obtain ⟨g2, rfl, e0, e1, e2, e3⟩ := HB.out k (by omega)
        have hrun := fun w' => run_neq_tm w' a[k] (b[k]'(by omega))
        unfold Tm.val at hrun
        cases he : a[k].same (b[k]'(by omega)) with
        | true =>
          rw [he] at hrun
          have HE := Lib.hid he
          clear he
          go_wp2
          go_quiet (fail)
          go_wp2
          go_roundg (a.length - (k + 1))
          case measure => omega
          case rel =>
            refine ⟨k + 1, _, by omega, by omega, by go_num, rfl, (show Aside _ from fun j h h1 h2 => ?_)⟩
            rcases Nat.lt_succ_iff_lt_or_eq.1 h with h | rfl
            · exact hall j h h1 h2
            · exact HE.out
        | false =>
          rw [he] at hrun
          have HE := Lib.hid he
          clear he
          go_wp2
          go_quiet (fail)
          go_wp2
          go_ret
          exact ⟨by rw [sameTs_no k hlt HL.out HE.out]; rfl, ((Fr.refl _ _).drewN _).drewN _⟩
      · have hltz : ¬ (k : Int) < (a.length : Int) := by omega
        obtain rfl : k = a.length := by omega
        go_wp2
        go_ret
        exact ⟨by rw [sameTs_yes HL.out (fun j h => hall j h h _)]; rfl, (Fr.refl _ _).drewN _⟩
  · have hne : ((a.length : Int) != (b.length : Int)) = true := by simp; omega
    have hr : sameTs a b = false := by unfold sameTs; simp [hl]
    have HR := Lib.hid hr
    clear hr
    go_enter Try.func16, Try.ntmps16
    go_wp2
    go_ret
    exact ⟨by rw [HR.out]; rfl, Fr.refl _ _⟩

end Go.Proofs.Ytifjablnplpfnaa
