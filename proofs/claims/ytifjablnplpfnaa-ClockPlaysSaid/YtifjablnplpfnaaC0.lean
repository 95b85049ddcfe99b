/- A clock as a plain thing: what each of its calls answers; and the walks told in these words. -/
import Derived.Test.YtifjablnplpfnaaB2
set_option linter.unusedVariables false
set_option linter.unusedSimpArgs false
namespace Go.Proofs.Ytifjablnplpfnaa
open Go.RowKit Go.Lib

/-- How many of the first n stand ahead of a timer that is due then. -/
def at_ (due : Int) (ts : List Tm) : Nat → Nat
  | 0 => 0
  | k + 1 => if due < (ts[k]?.getD default).d then at_ due ts k else k + 1
def insT (ts : List Tm) (t : Tm) : List Tm := ts.take (at_ t.d ts ts.length) ++ [t] ++ ts.drop (at_ t.d ts ts.length)

structure St where
  now : Int
  ts : List Tm
def St.set (s : St) (o : Int) (i : ByteArray) (delay n : Int) : Int × St :=
  if delay < 0 ∨ delay > 1000000000 then (1, s) else if 128 ≤ s.ts.length then (4, s) else (0, ⟨s.now, insT s.ts ⟨o, i, s.now + delay, n⟩⟩)
def St.cut (s : St) (p : Tm → Bool) : List Int × St := ((s.ts.filter p).map Tm.n, ⟨s.now, s.ts.filter fun t => !p t⟩)
def St.tick (s : St) (b : Int) : List Int × Int × St :=
  if b < 0 ∨ b > 9007199254740992 - s.now then ([], 1, s)
  else ((s.ts.filter fun t => decide (t.d ≤ s.now + b)).map Tm.n, 0, ⟨s.now + b, s.ts.filter fun t => !decide (t.d ≤ s.now + b)⟩)

structure Call where
  kind : Nat
  owner : Int
  id : ByteArray
  delay : Int
  n : Int
  by_ : Int
def St.play (s : St) (x : Call) : List Int × Int × St :=
  match x.kind % 5 with
  | 0 => ([], s.set x.owner x.id x.delay x.n)
  | 1 => let r := s.cut (fun t => t.o == x.owner && t.i.toList == x.id.toList); (r.1, 0, r.2)
  | 2 => let r := s.cut (fun t => t.o == x.owner); (r.1, 0, r.2)
  | 3 => s.tick x.by_
  | _ => ([], 0, s)

/-- What stays true of a clock. -/
structure St.Ok (s : St) : Prop where
  n0 : 0 ≤ s.now
  n1 : s.now ≤ 9007199254740992
  len : s.ts.length ≤ 128
  due : ∀ t, t ∈ s.ts → 0 ≤ t.d ∧ t.d ≤ 9007200254740992

theorem insT_length (ts : List Tm) (t : Tm) : (insT ts t).length = ts.length + 1 := by
  simp [insT]
  have : at_ t.d ts ts.length ≤ ts.length := by
    have h : ∀ n, at_ t.d ts n ≤ n := by
      intro n
      induction n with
      | zero => simp [at_]
      | succ n ih => simp only [at_]; split <;> omega
    exact h _
  omega
theorem mem_insT {ts : List Tm} {t u : Tm} : u ∈ insT ts t ↔ u = t ∨ u ∈ ts := by
  have h := List.take_append_drop (at_ t.d ts ts.length) ts
  have h2 : u ∈ ts ↔ u ∈ ts.take (at_ t.d ts ts.length) ∨ u ∈ ts.drop (at_ t.d ts ts.length) := by
    rw [← List.mem_append, h]
  rw [insT, h2]
  simp only [List.mem_append, List.mem_singleton]
  constructor
  · rintro ((h | h) | h)
    · exact .inr (.inl h)
    · exact .inl h
    · exact .inr (.inr h)
  · rintro (h | h | h)
    · exact .inl (.inr h)
    · exact .inl (.inl h)
    · exact .inr h

theorem SetAt.eq {ts : List Tm} {due : Int} {k : Nat} (h : SetAt ts due k) : k = at_ due ts ts.length := by
  obtain ⟨h1, h2, h3⟩ := h
  have : ∀ n, k ≤ n → n ≤ ts.length → at_ due ts n = k := by
    intro n
    induction n with
    | zero => intro hk _; simp [at_]; omega
    | succ n ih =>
      intro hk hn
      have hg : ts[n]?.getD default = ts[n]'(by omega) := by rw [List.getElem?_eq_getElem (by omega)]; rfl
      simp only [at_, hg]
      rcases Nat.lt_or_ge n k with hnk | hnk
      · obtain rfl : k = n + 1 := by omega
        have := h3 (by omega) (by omega)
        simp at this
        rw [if_neg (by omega)]
      · rw [if_pos (h2 n (by omega) hnk), ih hnk (by omega)]
  exact (this _ h1 (Nat.le_refl _)).symm

theorem St.Ok.set {s : St} (h : s.Ok) (o : Int) (i : ByteArray) (delay n : Int) : (s.set o i delay n).2.Ok := by
  unfold St.set
  split
  · exact h
  · split
    · exact h
    · rename_i h1 h2
      have h0 := h.n0
      have h3 := h.n1
      refine ⟨h.n0, h.n1, by simp [insT_length]; omega, fun t ht => ?_⟩
      rcases mem_insT.1 ht with rfl | ht
      · dsimp; omega
      · exact h.due t ht
theorem St.Ok.cut {s : St} (h : s.Ok) (p : Tm → Bool) : (s.cut p).2.Ok :=
  ⟨h.n0, h.n1, Nat.le_trans (List.length_filter_le _ _) h.len, fun t ht => h.due t ((List.mem_filter.1 ht).1)⟩
theorem St.Ok.tick {s : St} (h : s.Ok) (b : Int) : (s.tick b).2.2.Ok := by
  unfold St.tick
  split
  · exact h
  · rename_i hb
    have h0 := h.n0
    exact ⟨by dsimp; omega, by dsimp; omega, Nat.le_trans (List.length_filter_le _ _) h.len, fun t ht => h.due t ((List.mem_filter.1 ht).1)⟩
theorem St.Ok.play {s : St} (h : s.Ok) (x : Call) : (s.play x).2.2.Ok := by
  unfold St.play
  split
  · exact h.set _ _ _ _
  · exact h.cut _
  · exact h.cut _
  · exact h.tick _
  · exact h

/-- A clock in memory that holds s, in these two blocks. -/
def CkAt (w : World) (gc : Nat) (rb : Option Nat) (s : St) : Prop := Clk w gc rb s.now s.ts

/-- A new row is the old one or a new block. -/
def NewRow (W : World) (rb rb' : Option Nat) : Prop := rb' = rb ∨ ∃ b, rb' = some b ∧ W.heap.size ≤ b

/-- A slice of ints that the caller owns now, new from block 'base' on. -/
def OwnI (w : World) (base : Nat) (v : Value) (ns : List Int) : Prop := w.ownsRow base 3 1 v ns.length (ns.map (Value.int .i64))

theorem set_st (W : World) (gc : Nat) (rb : Option Nat) (s : St) (hC : CkAt W gc rb s) (hs : s.Ok) (ow : Int) (id : ByteArray) (delay n : Int) (hd0 : -9223372036854775808 ≤ delay) (hd1 : delay ≤ 9223372036854775807) :
    Calls Try.prog 19 #[.pointer (some ⟨gc, 0, none⟩), .int .i64 ow, .string id, .int .i64 delay, .int .i64 n] W fun e w' =>
      e = .returned (.int .i64 (s.set ow id delay n).1) ∧ ∃ rb', CkAt w' gc rb' (s.set ow id delay n).2 ∧ NewRow W rb rb' ∧ Fr (gc :: rb.toList) W w' := by
  refine (set_any W gc rb s.now s.ts ow id delay n hC (by have := hs.len; omega) hs.n0 hs.n1 hd0 hd1).mono ?_
  rintro e w' h
  unfold SetPost at h
  unfold St.set
  split at h
  · rename_i h1
    obtain ⟨rfl, rfl⟩ := h
    rw [if_pos h1]
    exact ⟨rfl, rb, hC, .inl rfl, Fr.refl _ _⟩
  · rename_i h1
    rw [if_neg h1]
    split at h
    · rename_i h2
      obtain ⟨rfl, rfl⟩ := h
      rw [if_pos h2]
      exact ⟨rfl, rb, hC, .inl rfl, Fr.refl _ _⟩
    · rename_i h2
      obtain ⟨rfl, k, rb', hk, hc, hr, hf⟩ := h
      rw [if_neg h2]
      refine ⟨rfl, rb', ?_, hr, hf⟩
      obtain rfl := hk.eq
      exact hc

theorem tick_st (W : World) (gc : Nat) (rb : Option Nat) (s : St) (hC : CkAt W gc rb s) (hs : s.Ok) (b : Int) (hb0 : -9223372036854775808 ≤ b) (hb1 : b ≤ 9223372036854775807) :
    Calls Try.prog 18 #[.pointer (some ⟨gc, 0, none⟩), .int .i64 b] W fun e w' =>
      ∃ vr, e = .returned (.tuple #[vr, .int .i64 (s.tick b).2.1]) ∧ OwnI w' W.heap.size vr (s.tick b).1 ∧ CkAt w' gc rb (s.tick b).2.2 ∧ Fr (gc :: rb.toList) W w' := by
  refine (tick_any W gc rb s.now b s.ts hC (by have := hs.len; omega) hs.n0 hs.n1 hb0 hb1).mono ?_
  rintro e w' h
  unfold TickPost at h
  unfold St.tick
  split at h
  · rename_i h1
    obtain ⟨rfl, hf⟩ := h
    rw [if_pos h1]
    refine ⟨_, rfl, World.ownsRow_nil _ _ _ _, ?_, hf.nil⟩
    exact Clk.fr hC hf (by simp) (by simp)
  · rename_i h1
    obtain ⟨vr, rfl, ho, hc, hf⟩ := h
    rw [if_neg h1]
    exact ⟨vr, rfl, by simpa [OwnI] using ho, hc, hf⟩

theorem cut_st {W : World} {gc : Nat} {rb : Option Nat} {s : St} {p : Tm → Bool} {e : Ending} {w' : World} (h : TookPost W gc rb s.now s.ts p e w') :
    ∃ vr, e = .returned vr ∧ OwnI w' W.heap.size vr (s.cut p).1 ∧ CkAt w' gc rb (s.cut p).2 ∧ Fr (gc :: rb.toList) W w' := by
  obtain ⟨vr, rfl, ho, hc, hf⟩ := h
  exact ⟨vr, rfl, by simpa [OwnI, St.cut] using ho, hc, hf⟩

end Go.Proofs.Ytifjablnplpfnaa
