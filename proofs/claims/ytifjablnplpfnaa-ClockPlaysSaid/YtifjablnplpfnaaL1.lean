/- A script that came in, read as calls. -/
import Derived.Test.YtifjablnplpfnaaL0
import Derived.Test.YtifjablnplpfnaaF1
import Derived.Deep.Slices
set_option linter.unusedVariables false
set_option linter.unusedSimpArgs false
namespace Go.Proofs.Ytifjablnplpfnaa
open Go.ChangeShapes Go.WideShapes Go.ChangeAt Go.RowKit Go.WideElems Go.Deep

theorem wf_u8b {n : Int} (h : (Lit.int .u8 n).wf = true) : 0 ≤ n ∧ n ≤ 255 := by
  simp [Lit.wf, IntKind.min, IntKind.max, IntKind.signed, IntKind.bits] at h
  omega
theorem wf_u32b {n : Int} (h : (Lit.int .u32 n).wf = true) : 0 ≤ n ∧ n ≤ 4294967295 := by
  simp [Lit.wf, IntKind.min, IntKind.max, IntKind.signed, IntKind.bits] at h
  omega
theorem wf_i64b {n : Int} (h : (Lit.int .i64 n).wf = true) : -9223372036854775808 ≤ n ∧ n ≤ 9223372036854775807 := by
  simp [Lit.wf, IntKind.min, IntKind.max, IntKind.signed, IntKind.bits] at h
  omega

theorem cells31 : Try.prog.cellsOf 31 = 6 := by kernel_rfl
theorem cells3 : Try.prog.cellsOf 3 = 1 := by kernel_rfl
theorem cells5 : Try.prog.cellsOf 5 = 1 := by kernel_rfl
theorem cells9 : Try.prog.cellsOf 9 = 1 := by kernel_rfl
theorem cells2 : Try.prog.cellsOf 2 = 1 := by kernel_rfl

theorem take_one {cs : List Value} {j : Nat} {v : Value} (h : (cs.drop j).take 1 = [v]) : cs[j]? = some v := by
  have h2 := congrArg (fun l => l[0]?) h
  simp only [List.getElem?_cons_zero] at h2
  rw [List.getElem?_take, List.getElem?_drop] at h2
  simpa using h2

/-- One call, of its six cells. -/
theorem call_of_trod {H : Type} {enc : TypeId × Value → H} {W : World} {base fuel : Nat} {spare : Nat → Bool} {held : Bool} {cs : List Value} {x : DataW H × List MemPlace} (h : DataW.trod enc Try.prog W base spare held fuel 31 cs = some x) :
    ∃ c : Call, c.Ok ∧ cs[0]? = some (.int .u8 c.kind) ∧ cs[1]? = some (.int .i64 c.owner) ∧ cs[2]? = some (.string c.id) ∧ cs[3]? = some (.int .i64 c.delay) ∧ cs[4]? = some (.int .i64 c.n) ∧ cs[5]? = some (.int .i64 c.by_) := by
  obtain ⟨xs, n, _, _, _, hxl, hf⟩ := DataW.trod_struct Try.underlying31 h
  simp at hxl
  have hx : ∀ i, i < 6 → ∃ y, xs[i]? = some y := fun i hi => ⟨xs[i]'(by omega), List.getElem?_eq_getElem (by omega)⟩
  have i64 : ∀ {t : TypeId} (i : Nat) (y : DataW H × List MemPlace), Try.prog.underlying t = some (.int .i64) → DataW.trod enc Try.prog W base spare held n t ((cs.drop i).take 1) = some y → ∃ m, cs[i]? = some (.int .i64 m) ∧ -9223372036854775808 ≤ m ∧ m ≤ 9223372036854775807 := fun i y ht hy => by
    obtain ⟨m, hc, _, hw⟩ := DataW.trod_int ht hy
    have := wf_i64b hw
    exact ⟨m, take_one hc, this.1, this.2⟩
  have h0 : DataW.trod enc Try.prog W base spare held n 5 ((cs.drop 0).take (Try.prog.cellsOf 5)) = xs[0]? := hf 0 _ rfl
  have h1 : DataW.trod enc Try.prog W base spare held n 3 ((cs.drop 1).take (Try.prog.cellsOf 3)) = xs[1]? := hf 1 _ rfl
  have h2 : DataW.trod enc Try.prog W base spare held n 9 ((cs.drop 2).take (Try.prog.cellsOf 9)) = xs[2]? := hf 2 _ rfl
  have h3 : DataW.trod enc Try.prog W base spare held n 3 ((cs.drop 3).take (Try.prog.cellsOf 3)) = xs[3]? := hf 3 _ rfl
  have h4 : DataW.trod enc Try.prog W base spare held n 3 ((cs.drop 4).take (Try.prog.cellsOf 3)) = xs[4]? := hf 4 _ rfl
  have h5 : DataW.trod enc Try.prog W base spare held n 2 ((cs.drop 5).take (Try.prog.cellsOf 2)) = xs[5]? := hf 5 _ rfl
  rw [cells5] at h0
  rw [cells3] at h1 h3 h4
  rw [cells9] at h2
  rw [cells2] at h5
  obtain ⟨y0, e0⟩ := hx 0 (by omega)
  obtain ⟨y1, e1⟩ := hx 1 (by omega)
  obtain ⟨y2, e2⟩ := hx 2 (by omega)
  obtain ⟨y3, e3⟩ := hx 3 (by omega)
  obtain ⟨y4, e4⟩ := hx 4 (by omega)
  obtain ⟨y5, e5⟩ := hx 5 (by omega)
  rw [e0] at h0; rw [e1] at h1; rw [e2] at h2; rw [e3] at h3; rw [e4] at h4; rw [e5] at h5
  obtain ⟨m0, hc0, _, hw0⟩ := DataW.trod_int Try.underlying5 h0
  have hk := wf_u8b hw0
  obtain ⟨m1, c1, _, _⟩ := i64 1 _ Try.underlying3 h1
  obtain ⟨s2, hc2, _, _⟩ := DataW.trod_string Try.underlying9 h2
  obtain ⟨m3, c3, d0, d1⟩ := i64 3 _ Try.underlying3 h3
  obtain ⟨m4, c4, _, _⟩ := i64 4 _ Try.underlying3 h4
  obtain ⟨m5, c5, b0, b1⟩ := i64 5 _ Try.underlying2 h5
  refine ⟨⟨m0.toNat, m1, s2, m3, m4, m5⟩, ⟨by dsimp; omega, d0, d1, b0, b1⟩, ?_, c1, take_one hc2, c3, c4, c5⟩
  have := take_one hc0
  rw [this]
  simp
  omega

theorem list_choose {α : Type} {n : Nat} {Q : Nat → α → Prop} (h : ∀ i, i < n → ∃ a, Q i a) : ∃ l : List α, l.length = n ∧ ∀ i (hi : i < l.length), Q i l[i] := by
  induction n with
  | zero => exact ⟨[], rfl, fun i hi => absurd hi (by simp)⟩
  | succ n ih =>
    obtain ⟨l, hl, hq⟩ := ih (fun i hi => h i (by omega))
    obtain ⟨a, ha⟩ := h n (by omega)
    refine ⟨l ++ [a], by simp [hl], fun i hi => ?_⟩
    simp at hi
    rcases Nat.lt_or_ge i l.length with h1 | h1
    · rw [List.getElem_append_left h1]; exact hq i h1
    · obtain rfl : i = l.length := by omega
      simp
      rw [hl]
      exact ha

theorem rc_of_trod {H : Type} {enc : TypeId × Value → H} {W : World} {v : Value} {d : DataW H} {p : List MemPlace} {base : Nat} (h : DataW.Trod enc Try.prog W 0 (fun _ => true) true 22 v d p) (hok : Value.okWide Try.prog W .any base 22 v) : ∃ xs, RC W v xs := by
  obtain ⟨a0, len, cap, rfl⟩ := okWide_slice Try.underlying22 hok
  obtain ⟨fuel, hf⟩ := h
  rcases open_slice Try.underlying22 hf with ⟨hcs, hx⟩ | ⟨a, len', cap', m, n, D, Pl, hcs, _, hl, hm, hmm, _, hel⟩
  · simp [Value.cells] at hcs
    obtain ⟨rfl, rfl, rfl⟩ := hcs
    exact ⟨[], none, 0, rfl, by simp, fun j h => absurd h (by simp)⟩
  · simp [Value.cells] at hcs
    obtain ⟨rfl, rfl, rfl⟩ := hcs
    simp at hmm
    subst hmm
    rw [cells31] at hel
    have key : ∀ i, i < len → ∃ c : Call, c.Ok ∧ W.cell? (a.add (i * 6)) = some (.int .u8 c.kind) ∧ (∀ q : Nat, q < 6 → W.cell? ((a.add (i * 6)).add q) = [Value.int .u8 c.kind, .int .i64 c.owner, .string c.id, .int .i64 c.delay, .int .i64 c.n, .int .i64 c.by_][q]?) := by
      intro i hi
      obtain ⟨cs', hc, ht⟩ := hel i (by omega)
      obtain ⟨_, hcl, hat⟩ := World.cells?_some hc
      obtain ⟨c, hok, e0, e1, e2, e3, e4, e5⟩ := call_of_trod ht
      have hq : ∀ q : Nat, q < 6 → W.cell? ((a.add (i * 6)).add q) = [Value.int .u8 c.kind, .int .i64 c.owner, .string c.id, .int .i64 c.delay, .int .i64 c.n, .int .i64 c.by_][q]? := by
        intro q hq
        rw [hat q hq]
        match q, hq with
        | 0, _ => exact e0
        | 1, _ => exact e1
        | 2, _ => exact e2
        | 3, _ => exact e3
        | 4, _ => exact e4
        | 5, _ => exact e5
      refine ⟨c, hok, ?_, hq⟩
      have := hq 0 (by omega)
      simpa [Addr.add] using this
    obtain ⟨xs, hxl, hxs⟩ := list_choose key
    refine ⟨xs, some a, m, by rw [hxl], by simp [maxLen] at hm; omega, fun j hj => ?_⟩
    obtain ⟨hokc, hc0, hq⟩ := hxs j hj
    have hz := (hxs 0 (by omega)).2.1
    obtain ⟨b, o, sp⟩ := a
    obtain rfl : sp = none := by
      simp only [Nat.zero_mul, Addr.add, if_true] at hz
      cases sp with
      | none => rfl
      | some x => simp [World.cell?] at hz; split at hz <;> simp at hz
    refine ⟨hokc, b, o, rfl, ?_, ?_, ?_, ?_, ?_, ?_⟩
    · rw [plain_add'] at hc0; exact hc0
    · have := hq 1 (by omega); rw [plain_add', plain_add'] at this; simpa using this
    · have := hq 2 (by omega); rw [plain_add', plain_add'] at this; simpa using this
    · have := hq 3 (by omega); rw [plain_add', plain_add'] at this; simpa using this
    · have := hq 4 (by omega); rw [plain_add', plain_add'] at this; simpa using this
    · have := hq 5 (by omega); rw [plain_add', plain_add'] at this; simpa using this
end Go.Proofs.Ytifjablnplpfnaa
