/- How a chart's states stand in one another, in plain words. -/
import Derived.Test.YtekfbafljilchaaA4
set_option linter.unusedVariables false
set_option linter.unusedSimpArgs false
namespace Go.Proofs.Ytekfbafljilchaa

def st (c : DChart) (i : Nat) : DState := c.states[i]?.getD default
def knd (c : DChart) (i : Nat) : Int := (st c i).kind
def par (c : DChart) (i : Nat) : Int := (st c i).par
def up (c : DChart) (i : Nat) : Nat := (par c i).toNat
abbrev ns (c : DChart) : Nat := c.states.length

theorem st_at {c : DChart} {i : Nat} (h : i < c.states.length) : c.states[i] = st c i := by simp [st, h]

/-- Is i inside j? (f: as far as it is looked.) -/
def abF (c : DChart) : Nat → Nat → Nat → Bool
  | 0, _, _ => false
  | f + 1, i, j => if i = 0 then false else (up c i == j) || abF c f (up c i) j
def ab (c : DChart) (i j : Nat) : Bool := abF c i i j

/-- The states stand rightly in one another. -/
structure Tree (c : DChart) : Prop where
  two : 2 ≤ ns c
  many : ns c ≤ 128
  root : knd c 0 = 0
  top : par c 0 = -1
  low : ∀ i, 0 < i → i < ns c → 1 ≤ knd c i
  high : ∀ i, 0 < i → i < ns c → knd c i ≤ 5
  par0 : ∀ i, 0 < i → i < ns c → 0 ≤ par c i
  par1 : ∀ i, 0 < i → i < ns c → par c i < i
  holds : ∀ i, 0 < i → i < ns c → knd c (up c i) ≤ 2

section
variable {c : DChart} (T : Tree c)
include T
theorem Tree.up_lt {i : Nat} (h0 : 0 < i) (h : i < ns c) : up c i < i := by
  have := T.par0 i h0 h
  have := T.par1 i h0 h
  unfold up
  omega
theorem Tree.up_ns {i : Nat} (h : i < ns c) : up c i < ns c := by
  rcases Nat.eq_zero_or_pos i with rfl | h0
  · have := T.top
    have := T.two
    unfold up
    omega
  · exact Nat.lt_trans (T.up_lt h0 h) h
theorem Tree.par_up {i : Nat} (h0 : 0 < i) (h : i < ns c) : par c i = (up c i : Int) := by
  have := T.par0 i h0 h
  unfold up
  omega
theorem Tree.abF_succ {j : Nat} : ∀ (g i : Nat), i ≤ g → i < ns c → abF c (g + 1) i j = abF c g i j := by
  intro g
  induction g with
  | zero =>
    intro i h _
    obtain rfl : i = 0 := by omega
    simp [abF]
  | succ g ihh =>
    intro i hi hin
    rcases Nat.eq_zero_or_pos i with rfl | hi0
    · simp [abF]
    · have := T.up_lt hi0 hin
      rw [abF, if_neg (by omega)]
      conv => rhs; rw [abF, if_neg (by omega)]
      rw [ihh (up c i) (by omega) (by omega)]
theorem Tree.abF_more {j : Nat} (f i : Nat) (hi : i ≤ f) (hn : i < ns c) : abF c f i j = abF c i i j := by
  obtain ⟨d, rfl⟩ : ∃ d, f = i + d := ⟨f - i, by omega⟩
  clear hi
  induction d with
  | zero => rfl
  | succ d ih => rw [← Nat.add_assoc, T.abF_succ _ _ (by omega) hn, ih]
theorem Tree.ab_up {i j : Nat} (h0 : 0 < i) (h : i < ns c) : ab c i j = ((up c i == j) || ab c (up c i) j) := by
  have hu := T.up_lt h0 h
  obtain ⟨m, rfl⟩ : ∃ m, i = m + 1 := ⟨i - 1, by omega⟩
  unfold ab
  rw [abF, if_neg (by omega), T.abF_more m (up c (m + 1)) (by omega) (by omega)]
theorem Tree.ab_lt : ∀ {i j : Nat}, i < ns c → ab c i j = true → j < i := by
  intro i
  induction i using Nat.strongRecOn with
  | ind i ih =>
    intro j hi h
    rcases Nat.eq_zero_or_pos i with rfl | h0
    · simp [ab, abF] at h
    · have hu := T.up_lt h0 hi
      rw [T.ab_up h0 hi, Bool.or_eq_true] at h
      rcases h with h | h
      · have : up c i = j := by simpa using h
        omega
      · have := ih (up c i) hu (by omega) h
        omega
theorem Tree.ab_root {i : Nat} (h0 : 0 < i) (h : i < ns c) : ab c i 0 = true := by
  induction i using Nat.strongRecOn with
  | ind i ih =>
    have hu := T.up_lt h0 h
    rw [T.ab_up h0 h, Bool.or_eq_true]
    rcases Nat.eq_zero_or_pos (up c i) with e | e
    · left; simp [e]
    · right; exact ih _ hu e (by omega)
theorem Tree.ab_trans : ∀ {i j k : Nat}, i < ns c → ab c i j = true → ab c j k = true → ab c i k = true := by
  intro i
  induction i using Nat.strongRecOn with
  | ind i ih =>
    intro j k hi h1 h2
    rcases Nat.eq_zero_or_pos i with rfl | h0
    · simp [ab, abF] at h1
    · have hu := T.up_lt h0 hi
      rw [T.ab_up h0 hi, Bool.or_eq_true] at h1 ⊢
      rcases h1 with h1 | h1
      · have : up c i = j := by simpa using h1
        rw [this]
        exact .inr h2
      · exact .inr (ih _ hu (by omega) h1 h2)
/-- Of two that are around one, one is around the other. -/
theorem Tree.ab_line : ∀ {i j k : Nat}, i < ns c → ab c i j = true → ab c i k = true → j = k ∨ ab c j k = true ∨ ab c k j = true := by
  intro i
  induction i using Nat.strongRecOn with
  | ind i ih =>
    intro j k hi h1 h2
    rcases Nat.eq_zero_or_pos i with rfl | h0
    · simp [ab, abF] at h1
    · have hu := T.up_lt h0 hi
      rw [T.ab_up h0 hi, Bool.or_eq_true] at h1 h2
      rcases h1 with h1 | h1 <;> rcases h2 with h2 | h2
      · have e1 : up c i = j := by simpa using h1
        have e2 : up c i = k := by simpa using h2
        exact .inl (by omega)
      · have e1 : up c i = j := by simpa using h1
        rw [e1] at h2
        exact .inr (.inl h2)
      · have e2 : up c i = k := by simpa using h2
        rw [e2] at h1
        exact .inr (.inr h1)
      · exact ih _ hu (by omega) h1 h2
end

def row (c : DChart) (i : Nat) : List Bool := (List.range (ns c)).map fun j => ab c i j
def abRows (c : DChart) : List (List Bool) := (List.range (ns c)).map (row c)
def plainIn (c : DChart) (i k : Nat) : Bool := decide (0 < k) && (up c k == i) && decide (knd c k < 4)
def anyIn (c : DChart) (i k : Nat) : Bool := decide (0 < k) && (up c k == i)
/-- A state's plain ones. -/
def kidsOf (c : DChart) (i : Nat) : List Int := ((List.range (ns c)).filter (plainIn c i)).map Int.ofNat
def allOf (c : DChart) (i : Nat) : List Int := ((List.range (ns c)).filter (anyIn c i)).map Int.ofNat
def kdRows (c : DChart) : List (List Int) := (List.range (ns c)).map (kidsOf c)

theorem mem_kids {c : DChart} {i : Nat} {x : Int} : x ∈ kidsOf c i ↔ ∃ k : Nat, x = (k : Int) ∧ k < ns c ∧ 0 < k ∧ up c k = i ∧ knd c k < 4 := by
  unfold kidsOf plainIn
  simp only [List.mem_map, List.mem_filter, List.mem_range, Bool.and_eq_true, decide_eq_true_eq, beq_iff_eq]
  constructor
  · rintro ⟨k, ⟨h1, ⟨h2, h3⟩, h4⟩, rfl⟩
    exact ⟨k, rfl, h1, h2, h3, h4⟩
  · rintro ⟨k, rfl, h1, h2, h3, h4⟩
    exact ⟨k, ⟨h1, ⟨h2, h3⟩, h4⟩, rfl⟩
end Go.Proofs.Ytekfbafljilchaa

/- A lattice in memory; its small methods. -/
set_option linter.unusedVariables false
set_option linter.unusedSimpArgs false
namespace Go.Proofs.Ytekfbafljilchaa
open Go.RowKit Go.Lib

/-- A lattice at block g: the chart c, what is inside what, the plain kids. -/
def Lat (p : Nat → Prop) (w : World) (g : Nat) (c : DChart) : Prop :=
  ∃ vs vt vb vd vi va vk, Blk w g #[.string c.name, .bool c.late, .int .i64 c.script, vs, vt, vb, vd, vi, va, vk] 87 ∧ Sl rState p w vs c.states ∧ Sl rTrans p w vt c.trans ∧ Sl rBlock p w vb c.blocks ∧
    Sl rDatum p w vd c.data ∧ Sl rInvoke p w vi c.invokes ∧ Sl (rSl rBool) p w va (abRows c) ∧ Sl (rSl rInt) p w vk (kdRows c)
theorem Lat.fr {p q : Nat → Prop} {w w' : World} {g : Nat} {c : DChart} (h : Lat p w g c) (hg : w'.heap[g]? = w.heap[g]?) (hp : ∀ k, p k → k < w.heap.size → q k ∧ w'.heap[k]? = w.heap[k]?) : Lat q w' g c := by
  obtain ⟨vs, vt, vb, vd, vi, va, vk, hb, h1, h2, h3, h4, h5, h6, h7⟩ := h
  exact ⟨vs, vt, vb, vd, vi, va, vk, hg.trans hb, h1.fr hp, h2.fr hp, h3.fr hp, h4.fr hp, h5.fr hp, h6.fr hp, h7.fr hp⟩
theorem Lat.lt {p : Nat → Prop} {w : World} {g : Nat} {c : DChart} (h : Lat p w g c) : g < w.heap.size := by
  obtain ⟨vs, vt, vb, vd, vi, va, vk, hb, _⟩ := h
  exact hb.lt
theorem Lat.any {p : Nat → Prop} {w : World} {g : Nat} {c : DChart} (h : Lat p w g c) : Lat (fun _ => True) w g c := h.fr rfl (fun _ _ _ => ⟨trivial, rfl⟩)
/-- Nothing old has turned. -/
theorem Lat.on {w w' : World} {g : Nat} {c : DChart} (h : Lat (fun _ => True) w g c) (f : Fr [] w w') : Lat (fun _ => True) w' g c :=
  h.fr (f.block g h.lt (by simp)) (fun k _ hk => ⟨trivial, f.block k hk (by simp)⟩)

/-- The cells that the small methods read. -/
structure LatC (w : World) (g : Nat) (c : DChart) (As : Option Addr) (cs : Nat) (At : Option Addr) (ct : Nat) (Aa : Option Addr) (ca : Nat) (Ak : Option Addr) (ck : Nat) : Prop where
  s : w.cell? ⟨g, 3, none⟩ = some (.slice As c.states.length cs)
  t : w.cell? ⟨g, 4, none⟩ = some (.slice At c.trans.length ct)
  a : w.cell? ⟨g, 8, none⟩ = some (.slice Aa c.states.length ca)
  k : w.cell? ⟨g, 9, none⟩ = some (.slice Ak c.states.length ck)
  S : Sl rState (fun _ => True) w (.slice As c.states.length cs) c.states
  T : Sl rTrans (fun _ => True) w (.slice At c.trans.length ct) c.trans
  A : Sl (rSl rBool) (fun _ => True) w (.slice Aa c.states.length ca) (abRows c)
  K : Sl (rSl rInt) (fun _ => True) w (.slice Ak c.states.length ck) (kdRows c)
theorem Lat.open_ {p : Nat → Prop} {w : World} {g : Nat} {c : DChart} (h : Lat p w g c) : ∃ As cs At ct Aa ca Ak ck, LatC w g c As cs At ct Aa ca Ak ck := by
  obtain ⟨vs, vt, vb, vd, vi, va, vk, hb, h1, h2, h3, h4, h5, h6, h7⟩ := h.any
  obtain ⟨As, cs, rfl, _⟩ := h1.form
  obtain ⟨At, ct, rfl, _⟩ := h2.form
  obtain ⟨Aa, ca, rfl, _⟩ := h6.form
  obtain ⟨Ak, ck, rfl, _⟩ := h7.form
  have c3 := hb.cell 3
  have c4 := hb.cell 4
  have c8 := hb.cell 8
  have c9 := hb.cell 9
  simp [abRows, kdRows] at c3 c4 c8 c9
  have ha : (abRows c).length = c.states.length := by simp [abRows]
  have hk : (kdRows c).length = c.states.length := by simp [kdRows]
  rw [ha] at h6
  rw [hk] at h7
  exact ⟨As, cs, At, ct, Aa, ca, Ak, ck, c3, c4, c8, c9, h1, h2, h6, h7⟩

/-- State i's cells that matter: its kind, its parent. -/
theorem LatC.st {w : World} {g : Nat} {c : DChart} {As : Option Addr} {cs : Nat} {At : Option Addr} {ct : Nat} {Aa : Option Addr} {ca : Nat} {Ak : Option Addr} {ck : Nat} (h : LatC w g c As cs At ct Aa ca Ak ck) {i : Nat} (hi : i < c.states.length) :
    ∃ gs os, As = some ⟨gs, os, none⟩ ∧ w.cell? ⟨gs, os + i * 13 + 1, none⟩ = some (.int .i64 (knd c i)) ∧ w.cell? ⟨gs, os + i * 13 + 2, none⟩ = some (.int .i64 (par c i)) := by
  obtain ⟨gs, os, A3, d3, A5, d5, A6, d6, A7, d7, A8, d8, A9, d9, A11, d11, e, _, _, h0, h1, h2, _⟩ := h.S.state_at i hi
  rw [st_at hi] at h1 h2
  exact ⟨gs, os, e, h1, h2⟩
theorem row_at {c : DChart} {i : Nat} (hi : i < c.states.length) : (abRows c)[i]? = some (row c i) := by
  unfold abRows
  rw [List.getElem?_map, List.getElem?_range hi]
  rfl
theorem kids_at {c : DChart} {i : Nat} (hi : i < c.states.length) : (kdRows c)[i]? = some (kidsOf c i) := by
  unfold kdRows
  rw [List.getElem?_map, List.getElem?_range hi]
  rfl
theorem LatC.row {w : World} {g : Nat} {c : DChart} {As : Option Addr} {cs : Nat} {At : Option Addr} {ct : Nat} {Aa : Option Addr} {ca : Nat} {Ak : Option Addr} {ck : Nat} (h : LatC w g c As cs At ct Aa ca Ak ck) {i j : Nat} (hi : i < c.states.length) (hj : j < c.states.length) :
    ∃ ga oa gb ob db, Aa = some ⟨ga, oa, none⟩ ∧ w.cell? ⟨ga, oa + i, none⟩ = some (.slice (some ⟨gb, ob, none⟩) c.states.length db) ∧ w.cell? ⟨gb, ob + j, none⟩ = some (.bool (ab c i j)) := by
  have hil : i < (abRows c).length := by simpa [abRows] using hi
  obtain ⟨ga, oa, B, d, e, _, _, hc, _, hs⟩ := h.A.sl_at i hil
  have hr : (abRows c)[i] = Ytekfbafljilchaa.row c i := by
    have := row_at hi
    rw [List.getElem?_eq_getElem hil] at this
    exact Option.some.inj this
  rw [hr] at hc hs
  have hl : (Ytekfbafljilchaa.row c i).length = c.states.length := by simp [Ytekfbafljilchaa.row]
  obtain ⟨gb, ob, e2, _, _, hb⟩ := hs.bool_at j (by rw [hl]; exact hj)
  subst e2
  rw [hl] at hc
  refine ⟨ga, oa, gb, ob, d, e, hc, ?_⟩
  rw [hb]
  simp [Ytekfbafljilchaa.row]
theorem LatC.kd {w : World} {g : Nat} {c : DChart} {As : Option Addr} {cs : Nat} {At : Option Addr} {ct : Nat} {Aa : Option Addr} {ca : Nat} {Ak : Option Addr} {ck : Nat} (h : LatC w g c As cs At ct Aa ca Ak ck) {i : Nat} (hi : i < c.states.length) :
    ∃ ga oa B d, Ak = some ⟨ga, oa, none⟩ ∧ w.cell? ⟨ga, oa + i, none⟩ = some (.slice B (kidsOf c i).length d) ∧ Sl rInt (fun _ => True) w (.slice B (kidsOf c i).length d) (kidsOf c i) := by
  have hil : i < (kdRows c).length := by simpa [kdRows] using hi
  obtain ⟨ga, oa, B, d, e, _, _, hc, _, hs⟩ := h.K.sl_at i hil
  have hr : (kdRows c)[i] = kidsOf c i := by
    have := kids_at hi
    rw [List.getElem?_eq_getElem hil] at this
    exact Option.some.inj this
  rw [hr] at hc hs
  exact ⟨ga, oa, B, d, e, hc, hs⟩

/-! ### state -/
def isSt (c : DChart) (a : Int) : Bool := decide (0 ≤ a) && decide (a < (c.states.length : Int))
theorem isSt_true {c : DChart} {a : Int} (h : isSt c a = true) : ∃ i : Nat, a = (i : Int) ∧ i < c.states.length := by
  simp [isSt] at h
  exact ⟨a.toNat, by omega, by omega⟩
theorem isSt_nat {c : DChart} {i : Nat} (h : i < c.states.length) : isSt c (i : Int) = true := by
  simp [isSt]
  exact h
theorem isSt_false {c : DChart} {a : Int} (h : isSt c a = false) : a < 0 ∨ (c.states.length : Int) ≤ a := by
  simp [isSt] at h
  omega

theorem state_any (w : World) (g : Nat) (c : DChart) (a : Int) (hL : Lat (fun _ => True) w g c) :
    Calls Try.prog 53 #[.pointer (some ⟨g, 0, none⟩), .int .i64 a] w fun e w' => e = .returned (.bool (isSt c a)) ∧ w = w' := by
  obtain ⟨As, cs, At, ct, Aa, ca, Ak, ck, hC⟩ := hL.open_
  have hs := hC.s
  have hl := hC.S.len
  have hg := hL.lt
  clear hC hL
  by_cases h0 : 0 ≤ a
  · have e : isSt c a = decide (a < (c.states.length : Int)) := by simp [isSt, h0]
    rw [e]
    go_enter Try.func53, Try.ntmps53
    go_wp2
    go_ret
    exact ⟨rfl, rfl⟩
  · have e : isSt c a = false := by simp [isSt]; omega
    have hd : decide (0 ≤ a) = false := by simpa using h0
    rw [e]
    go_enter Try.func53, Try.ntmps53
    go_wp2
    go_ret
    exact ⟨rfl, rfl⟩

/-! ### Inside -/
def inB (c : DChart) (a b : Int) : Bool := isSt c a && isSt c b && ab c a.toNat b.toNat

theorem inside_any (w : World) (g : Nat) (c : DChart) (a b : Int) (hL : Lat (fun _ => True) w g c) :
    Calls Try.prog 29 #[.pointer (some ⟨g, 0, none⟩), .int .i64 a, .int .i64 b] w fun e w' => e = .returned (.bool (inB c a b)) ∧ w = w' := by
  obtain ⟨As, cs, At, ct, Aa, ca, Ak, ck, hC⟩ := hL.open_
  have hl := hC.S.len
  have sa := state_any w g c a hL
  have sb := state_any w g c b hL
  have hg := hL.lt
  cases ha : isSt c a with
  | false =>
    have e : inB c a b = false := by simp [inB, ha]
    rw [e]
    rw [ha] at sa
    clear hC hL ha e
    go_enter Try.func29, Try.ntmps29
    go_wp2_with (with_reducible refine sa.mono ?_; rintro e w' ⟨rfl, rfl⟩)
    go_ret
    exact ⟨rfl, rfl⟩
  | true =>
    cases hb : isSt c b with
    | false =>
      have e : inB c a b = false := by simp [inB, ha, hb]
      rw [e]
      rw [ha] at sa
      rw [hb] at sb
      clear hC hL ha hb e
      go_enter Try.func29, Try.ntmps29
      go_wp2_with (first | (with_reducible refine sa.mono ?_; rintro e w' ⟨rfl, rfl⟩) | (with_reducible refine sb.mono ?_; rintro e w' ⟨rfl, rfl⟩))
      go_ret
      exact ⟨rfl, rfl⟩
    | true =>
      obtain ⟨i, rfl, hi⟩ := isSt_true ha
      obtain ⟨j, rfl, hj⟩ := isSt_true hb
      have e : inB c (i : Int) (j : Int) = ab c i j := by simp [inB, ha, hb]
      rw [e]
      rw [ha] at sa
      rw [hb] at sb
      obtain ⟨ga, oa, gb, ob, db, rfl, h1, h2⟩ := hC.row hi hj
      have h3 := hC.a
      clear hC hL ha hb e
      have hiz : (i : Int) < (c.states.length : Int) := by omega
      have hjz : (j : Int) < (c.states.length : Int) := by omega
      go_enter Try.func29, Try.ntmps29
      go_wp2_with (first | (with_reducible refine sa.mono ?_; rintro e w' ⟨rfl, rfl⟩) | (with_reducible refine sb.mono ?_; rintro e w' ⟨rfl, rfl⟩))
      go_ret
      exact ⟨rfl, rfl⟩
end Go.Proofs.Ytekfbafljilchaa

/- (*Lattice).Atomic, Compound, plain, together. -/
set_option linter.unusedVariables false
set_option linter.unusedSimpArgs false
namespace Go.Proofs.Ytekfbafljilchaa
open Go.RowKit Go.Lib

def atomB (c : DChart) (a : Int) : Bool := isSt c a && decide (knd c a.toNat < 4) && decide ((kidsOf c a.toNat).length = 0)
def compB (c : DChart) (a : Int) : Bool := isSt c a && decide (knd c a.toNat ≤ 1) && decide (0 < (kidsOf c a.toNat).length)
/-- A state itself, or a history's Parent. -/
def plainOf (c : DChart) (i : Nat) : Nat := if 4 ≤ knd c i then up c i else i
def lcaF (c : DChart) (b : Nat) : Nat → Nat → Nat
  | 0, p => p
  | f + 1, p => if ab c b p then p else lcaF c b f (up c p)
def togP (c : DChart) (a b : Nat) : Bool := if a = b ∨ ab c a b = true ∨ ab c b a = true then false else decide (knd c (lcaF c b a (up c a)) = 2)
def togB (c : DChart) (a b : Nat) : Bool := togP c (plainOf c a) (plainOf c b)

theorem kids_len {c : DChart} (i : Nat) : (kidsOf c i).length ≤ c.states.length := by
  unfold kidsOf
  rw [List.length_map]
  exact Nat.le_trans (List.length_filter_le _ _) (by simp)

theorem atomic_any (w : World) (g : Nat) (c : DChart) (a : Int) (hL : Lat (fun _ => True) w g c) :
    Calls Try.prog 31 #[.pointer (some ⟨g, 0, none⟩), .int .i64 a] w fun e w' => e = .returned (.bool (atomB c a)) ∧ w = w' := by
  obtain ⟨As, cs, At, ct, Aa, ca, Ak, ck, hC⟩ := hL.open_
  have hl := hC.S.len
  have sa := state_any w g c a hL
  have hg := hL.lt
  cases ha : isSt c a with
  | false =>
    have e : atomB c a = false := by simp [atomB, ha]
    rw [e]
    rw [ha] at sa
    clear hC hL ha e
    go_enter Try.func31, Try.ntmps31
    go_wp2_with (with_reducible refine sa.mono ?_; rintro e w' ⟨rfl, rfl⟩)
    go_ret
    exact ⟨rfl, rfl⟩
  | true =>
    obtain ⟨i, rfl, hi⟩ := isSt_true ha
    have e : atomB c (i : Int) = (decide (knd c i < 4) && decide ((kidsOf c i).length = 0)) := by simp [atomB, ha]
    rw [e]
    rw [ha] at sa
    obtain ⟨gs, os, rfl, h1, h2⟩ := hC.st hi
    obtain ⟨gk, ok, B, d, rfl, h3, _⟩ := hC.kd hi
    have h4 := hC.s
    have h5 := hC.k
    have hkl := kids_len (c := c) i
    clear hC hL ha e h2
    have hiz : (i : Int) < (c.states.length : Int) := by omega
    by_cases hk : knd c i < 4
    · by_cases hn : (kidsOf c i).length = 0
      · have hb : (((kidsOf c i).length : Int) == 0) = true := by simpa using hn
        have ee : (decide (knd c i < 4) && decide ((kidsOf c i).length = 0)) = true := by simp [hk, hn]
        rw [ee]
        have HN := Lib.hid hn
        clear hn ee
        go_enter Try.func31, Try.ntmps31
        go_wp2_with (with_reducible refine sa.mono ?_; rintro e w' ⟨rfl, rfl⟩)
        go_ret
        exact ⟨rfl, rfl⟩
      · have hb : (((kidsOf c i).length : Int) == 0) = false := by
          have : ((kidsOf c i).length : Int) ≠ 0 := by omega
          simpa using this
        have ee : (decide (knd c i < 4) && decide ((kidsOf c i).length = 0)) = false := by simp [hn]
        rw [ee]
        clear hn ee
        go_enter Try.func31, Try.ntmps31
        go_wp2_with (with_reducible refine sa.mono ?_; rintro e w' ⟨rfl, rfl⟩)
        go_ret
        exact ⟨rfl, rfl⟩
    · have ee : (decide (knd c i < 4) && decide ((kidsOf c i).length = 0)) = false := by simp [hk]
      rw [ee]
      have hkd : decide (knd c i < 4) = false := by simpa using hk
      clear ee
      go_enter Try.func31, Try.ntmps31
      go_wp2_with (with_reducible refine sa.mono ?_; rintro e w' ⟨rfl, rfl⟩)
      go_ret
      exact ⟨rfl, rfl⟩

theorem compound_any (w : World) (g : Nat) (c : DChart) (a : Int) (hL : Lat (fun _ => True) w g c) :
    Calls Try.prog 33 #[.pointer (some ⟨g, 0, none⟩), .int .i64 a] w fun e w' => e = .returned (.bool (compB c a)) ∧ w = w' := by
  obtain ⟨As, cs, At, ct, Aa, ca, Ak, ck, hC⟩ := hL.open_
  have hl := hC.S.len
  have sa := state_any w g c a hL
  have hg := hL.lt
  cases ha : isSt c a with
  | false =>
    have e : compB c a = false := by simp [compB, ha]
    rw [e]
    rw [ha] at sa
    clear hC hL ha e
    go_enter Try.func33, Try.ntmps33
    go_wp2_with (with_reducible refine sa.mono ?_; rintro e w' ⟨rfl, rfl⟩)
    go_ret
    exact ⟨rfl, rfl⟩
  | true =>
    obtain ⟨i, rfl, hi⟩ := isSt_true ha
    have e : compB c (i : Int) = (decide (knd c i ≤ 1) && decide (0 < (kidsOf c i).length)) := by simp [compB, ha]
    rw [e]
    rw [ha] at sa
    obtain ⟨gs, os, rfl, h1, h2⟩ := hC.st hi
    obtain ⟨gk, ok, B, d, rfl, h3, _⟩ := hC.kd hi
    have h4 := hC.s
    have h5 := hC.k
    have hkl := kids_len (c := c) i
    clear hC hL ha e h2
    have hiz : (i : Int) < (c.states.length : Int) := by omega
    by_cases hk : knd c i ≤ 1
    · have ee : (decide (knd c i ≤ 1) && decide (0 < (kidsOf c i).length)) = decide (0 < (kidsOf c i).length) := by simp [hk]
      rw [ee]
      clear ee
      go_enter Try.func33, Try.ntmps33
      go_wp2_with (with_reducible refine sa.mono ?_; rintro e w' ⟨rfl, rfl⟩)
      go_ret
      exact ⟨by simp, rfl⟩
    · have ee : (decide (knd c i ≤ 1) && decide (0 < (kidsOf c i).length)) = false := by simp [hk]
      rw [ee]
      have hkd : decide (knd c i ≤ 1) = false := by simpa using hk
      clear ee
      go_enter Try.func33, Try.ntmps33
      go_wp2_with (with_reducible refine sa.mono ?_; rintro e w' ⟨rfl, rfl⟩)
      go_ret
      exact ⟨rfl, rfl⟩

theorem plain_any (w : World) (g : Nat) (c : DChart) (i : Nat) (hi : i < c.states.length) (T : Tree c) (hL : Lat (fun _ => True) w g c) :
    Calls Try.prog 119 #[.pointer (some ⟨g, 0, none⟩), .int .i64 i] w fun e w' => e = .returned (.int .i64 (plainOf c i)) ∧ w = w' := by
  obtain ⟨As, cs, At, ct, Aa, ca, Ak, ck, hC⟩ := hL.open_
  have hl := hC.S.len
  have hg := hL.lt
  obtain ⟨gs, os, rfl, h1, h2⟩ := hC.st hi
  have h4 := hC.s
  clear hC hL
  have hiz : (i : Int) < (c.states.length : Int) := by omega
  by_cases hk : 4 ≤ knd c i
  · have h0 : 0 < i := by
      rcases Nat.eq_zero_or_pos i with rfl | h
      · have := T.root; omega
      · exact h
    rw [T.par_up h0 hi] at h2
    have e : plainOf c i = up c i := by simp [plainOf, hk]
    rw [e]
    clear e T
    go_enter Try.func119, Try.ntmps119
    go_wp2
    go_ret
    exact ⟨rfl, rfl⟩
  · have e : plainOf c i = i := by simp [plainOf, hk]
    rw [e]
    clear e T
    go_enter Try.func119, Try.ntmps119
    go_wp2
    go_ret
    exact ⟨rfl, rfl⟩
end Go.Proofs.Ytekfbafljilchaa

/- (*Lattice).together. -/
set_option linter.unusedVariables false
set_option linter.unusedSimpArgs false
namespace Go.Proofs.Ytekfbafljilchaa
open Go.RowKit Go.Lib

theorem Tree.plain_ns {c : DChart} (T : Tree c) {i : Nat} (h : i < c.states.length) : plainOf c i < c.states.length := by
  unfold plainOf
  split
  · exact T.up_ns h
  · exact h

set_option maxHeartbeats 1000000 in
theorem together_any (w : World) (g : Nat) (c : DChart) (i j : Nat) (hi : i < c.states.length) (hj : j < c.states.length) (T : Tree c) (hL : Lat (fun _ => True) w g c) :
    Calls Try.prog 96 #[.pointer (some ⟨g, 0, none⟩), .int .i64 i, .int .i64 j] w fun e w' => e = .returned (.bool (togB c i j)) ∧ w = w' := by
  have pi := plain_any w g c i hi T hL
  have pj := plain_any w g c j hj T hL
  have hg := hL.lt
  unfold togB
  have hi' := T.plain_ns hi
  have hj' := T.plain_ns hj
  generalize plainOf c i = a at *
  generalize plainOf c j = b at *
  clear hi hj
  obtain ⟨As, cs, At, ct, Aa, ca, Ak, ck, hC⟩ := hL.open_
  have hl := hC.S.len
  have h4 := hC.s
  have h8 := hC.a
  have haz : (a : Int) < (c.states.length : Int) := by omega
  have hbz : (b : Int) < (c.states.length : Int) := by omega
  obtain ⟨ga, oa, gb, ob, db, e1, r1, r2⟩ := hC.row hi' hj'
  obtain ⟨ga', oa', gb', ob', db', e2, q1, q2⟩ := hC.row hj' hi'
  have HC := Lib.hid hC
  subst e1
  injection e2 with e2
  injection e2 with e2 e3
  subst e2 e3
  clear hL hC
  by_cases he : a = b
  · have hb' : ((a : Int) == (b : Int)) = true := by simp [he]
    have hp : togP c a b = false := by simp [togP, he]
    rw [hp]
    have HE := Lib.hid he
    clear he hp T
    go_enter Try.func96, Try.ntmps96
    go_wp2_with (first | (with_reducible refine pi.mono ?_; rintro e w' ⟨rfl, rfl⟩) | (with_reducible refine pj.mono ?_; rintro e w' ⟨rfl, rfl⟩))
    go_ret
    exact ⟨rfl, rfl⟩
  · have hb' : ((a : Int) == (b : Int)) = false := by
      have : (a : Int) ≠ (b : Int) := by omega
      simpa using this
    cases hab : ab c a b with
    | true =>
      rw [hab] at r2
      have hp : togP c a b = false := by simp [togP, hab]
      rw [hp]
      clear he hp T hab
      go_enter Try.func96, Try.ntmps96
      go_wp2_with (first | (with_reducible refine pi.mono ?_; rintro e w' ⟨rfl, rfl⟩) | (with_reducible refine pj.mono ?_; rintro e w' ⟨rfl, rfl⟩))
      go_ret
      exact ⟨rfl, rfl⟩
    | false =>
      cases hba : ab c b a with
      | true =>
        rw [hab] at r2
        rw [hba] at q2
        have hp : togP c a b = false := by simp [togP, hba]
        rw [hp]
        clear he hp T hab hba
        go_enter Try.func96, Try.ntmps96
        go_wp2_with (first | (with_reducible refine pi.mono ?_; rintro e w' ⟨rfl, rfl⟩) | (with_reducible refine pj.mono ?_; rintro e w' ⟨rfl, rfl⟩))
        go_ret
        exact ⟨rfl, rfl⟩
      | false =>
        rw [hab] at r2
        rw [hba] at q2
        have hp : togP c a b = decide (knd c (lcaF c b a (up c a)) = 2) := by simp [togP, hab, hba, he]
        have ha0 : 0 < a := by
          rcases Nat.eq_zero_or_pos a with h | h
          · subst h
            rw [T.ab_root (by omega) hj'] at hba
            cases hba
          · exact h
        have hb0 : 0 < b := by
          rcases Nat.eq_zero_or_pos b with h | h
          · subst h
            rw [T.ab_root ha0 hi'] at hab
            cases hab
          · exact h
        rw [hp]
        obtain ⟨L, hL⟩ : ∃ L, L = lcaF c b a (up c a) := ⟨_, rfl⟩
        rw [← hL]
        have HL := Lib.hid hL
        have TT := Lib.hid T
        obtain ⟨gs, os, e4, k1, k2⟩ := HC.out.st hi'
        subst e4
        rw [T.par_up ha0 hi'] at k2
        have hul := T.up_lt ha0 hi'
        clear he hp T hab hba hL
        go_enter Try.func96, Try.ntmps96
        go_wp2_with (first | (with_reducible refine pi.mono ?_; rintro e w' ⟨rfl, rfl⟩) | (with_reducible refine pj.mono ?_; rintro e w' ⟨rfl, rfl⟩))
        go_loop [7] (fun s7 => ∃ p f : Nat, s7 = .int .i64 p ∧ p < a ∧ p ≤ f ∧ Aside (lcaF c b f p = L)) (fun s7 => (intOf s7).toNat)
        case atStart => exact ⟨up c a, a, rfl, hul, by omega, HL.out.symm⟩
        case round =>
          obtain ⟨p, f, rfl, hpa, hpf, hLc⟩ := hrel
          have hpn : p < c.states.length := by omega
          have hpz : (p : Int) < (c.states.length : Int) := by omega
          obtain ⟨gb2, ob2, gb3, ob3, db3, e5, s1, s2⟩ := HC.out.row hj' hpn
          injection e5 with e5
          injection e5 with e5 e6
          subst e5 e6
          have e9 := Option.some.inj (s1.symm.trans q1)
          injection e9 with e9 e10 e11
          injection e9 with e9
          injection e9 with e9 e12
          subst e9 e11 e12
          clear s1
          obtain ⟨gs2, os2, e7, m1, m2⟩ := HC.out.st hpn
          injection e7 with e7
          injection e7 with e7 e8
          subst e7 e8
          cases hbp : ab c b p with
          | true =>
            rw [hbp] at s2
            have hpl : p = L := by
              have h1 := hLc.out
              cases f with
              | zero => exact h1
              | succ f => simpa [lcaF, hbp] using h1
            have hfin : (knd c p == 2) = decide (knd c L = 2) := by rw [hpl]; rfl
            have HF := Lib.hid hfin
            clear hpl hbp hfin
            go_wp2
            go_ret
            exact ⟨by rw [← HF.out]; rfl, rfl⟩
          | false =>
            rw [hbp] at s2
            have hp0 : 0 < p := by
              rcases Nat.eq_zero_or_pos p with h | h
              · subst h
                rw [TT.out.ab_root hb0 hj'] at hbp
                cases hbp
              · exact h
            rw [TT.out.par_up hp0 hpn] at m2
            have hup := TT.out.up_lt hp0 hpn
            obtain ⟨f', rfl⟩ : ∃ f', f = f' + 1 := ⟨f - 1, by omega⟩
            have hnext : lcaF c b f' (up c p) = L := by
              have h1 := hLc.out
              simpa [lcaF, hbp] using h1
            have HX := Lib.hid hnext
            clear hbp hnext
            go_wp2
            go_round
            case rel => exact ⟨up c p, f', rfl, by omega, by omega, HX.out⟩
            case measure => simp [intOf]; omega
end Go.Proofs.Ytekfbafljilchaa
