/- play, SameInts, timers. -/
import Derived.Test.YtifjablnplpfnaaC0
set_option linter.unusedVariables false
set_option linter.unusedSimpArgs false
namespace Go.Proofs.Ytifjablnplpfnaa
open Go.RowKit Go.Lib

def Call.val (x : Call) : Value := .agg #[.int .u8 x.kind, .int .i64 x.owner, .string x.id, .int .i64 x.delay, .int .i64 x.n, .int .i64 x.by_]
/-- The numbers of a call are of their kinds. -/
structure Call.Ok (x : Call) : Prop where
  k : x.kind < 256
  d0 : -9223372036854775808 ≤ x.delay
  d1 : x.delay ≤ 9223372036854775807
  b0 : -9223372036854775808 ≤ x.by_
  b1 : x.by_ ≤ 9223372036854775807

theorem OwnI.fr {w w' : World} {S : List Nat} {base : Nat} {v : Value} {ns : List Int} (h : OwnI w base v ns) (f : Fr S w w') (hn : ∀ k, v.ownBlock = some k → k ∉ S) : OwnI w' base v ns := own_fr h f hn
theorem OwnI.low {w : World} {base base' : Nat} {v : Value} {ns : List Int} (h : OwnI w base v ns) (hb : base' ≤ base) : OwnI w base' v ns := own_low h hb

theorem play_0 (s : St) (x : Call) (h : x.kind % 5 = 0) : s.play x = ([], s.set x.owner x.id x.delay x.n) := by unfold St.play; rw [h]; rfl
theorem play_1 (s : St) (x : Call) (h : x.kind % 5 = 1) : s.play x = ((s.cut (fun t => t.o == x.owner && t.i.toList == x.id.toList)).1, 0, (s.cut (fun t => t.o == x.owner && t.i.toList == x.id.toList)).2) := by unfold St.play; rw [h]; rfl
theorem play_2 (s : St) (x : Call) (h : x.kind % 5 = 2) : s.play x = ((s.cut (fun t => t.o == x.owner)).1, 0, (s.cut (fun t => t.o == x.owner)).2) := by unfold St.play; rw [h]; rfl
theorem play_3 (s : St) (x : Call) (h : x.kind % 5 = 3) : s.play x = s.tick x.by_ := by unfold St.play; rw [h]; rfl
theorem play_4 (s : St) (x : Call) (h : x.kind % 5 = 4) : s.play x = ([], 0, s) := by unfold St.play; rw [h]; rfl

/-- The boxes of play behind a call. -/
structure Boxes (W w' : World) : Prop where
  s1 : W.heap.size + 1 + 1 < w'.heap.size
  a0 : w'.cell? ⟨W.heap.size + 1, 0, none⟩ = some (.slice none 0 0)
  a1 : w'.cell? ⟨W.heap.size + 1, 1, none⟩ = some (.int .i64 0)
  b0 : w'.cell? ⟨W.heap.size + 1 + 1, 0, none⟩ = some (.slice none 0 0)
  b1 : w'.cell? ⟨W.heap.size + 1 + 1, 1, none⟩ = some (.int .i64 0)
  fa0 : w'.frozen? ⟨W.heap.size + 1, 0, none⟩ = false
  fa1 : w'.frozen? ⟨W.heap.size + 1, 1, none⟩ = false
  fb0 : w'.frozen? ⟨W.heap.size + 1 + 1, 0, none⟩ = false
  fb1 : w'.frozen? ⟨W.heap.size + 1 + 1, 1, none⟩ = false
  s0 : W.heap.size + 1 < w'.heap.size

theorem boxes {W w' : World} {gc : Nat} {rb : Option Nat} (o : Obj) (hg : gc < W.heap.size) (hr : ∀ k, rb = some k → k < W.heap.size)
    (hf : Fr (gc :: rb.toList) (((W.alloc o).alloc (.cells #[.slice none 0 0, .int .i64 0] 34)).alloc (.cells #[.slice none 0 0, .int .i64 0] 34)) w') : Boxes W w' := by
  have hn : ∀ k, W.heap.size ≤ k → k ∉ gc :: rb.toList := fun k hk hm => by
    rcases List.mem_cons.1 hm with rfl | hm
    · omega
    · have := hr k (by simpa [eq_comm] using hm); omega
  have h1 : Blk w' (W.heap.size + 1) #[.slice none 0 0, .int .i64 0] 34 := by
    have := (Blk.new (W.alloc o) #[.slice none 0 0, .int .i64 0] 34).alloc (.cells #[.slice none 0 0, .int .i64 0] 34)
    simp at this
    exact this.fr hf (hn _ (by omega))
  have h2 : Blk w' (W.heap.size + 1 + 1) #[.slice none 0 0, .int .i64 0] 34 := by
    have := (Blk.new ((W.alloc o).alloc (.cells #[.slice none 0 0, .int .i64 0] 34)) #[.slice none 0 0, .int .i64 0] 34)
    simp at this
    exact this.fr hf (hn _ (by omega))
  exact ⟨h2.lt, by simpa using h1.cell 0, by simpa using h1.cell 1, by simpa using h2.cell 0, by simpa using h2.cell 1, h1.free 0, h1.free 1, h2.free 0, h2.free 1, h1.lt⟩

theorem play_fin {W w' wf : World} {gc : Nat} {rb rb' : Option Nat} {st : St} {vr : Value} {ns : List Int} (o : Obj) (hg : gc < W.heap.size) (hr : ∀ k, rb = some k → k < W.heap.size)
    (hf : Fr (gc :: rb.toList) (((W.alloc o).alloc (.cells #[.slice none 0 0, .int .i64 0] 34)).alloc (.cells #[.slice none 0 0, .int .i64 0] 34)) w')
    (hc : CkAt w' gc rb' st) (hn : NewRow (((W.alloc o).alloc (.cells #[.slice none 0 0, .int .i64 0] 34)).alloc (.cells #[.slice none 0 0, .int .i64 0] 34)) rb rb')
    (ho : OwnI w' (((W.alloc o).alloc (.cells #[.slice none 0 0, .int .i64 0] 34)).alloc (.cells #[.slice none 0 0, .int .i64 0] 34)).heap.size vr ns) (hw : Fr [W.heap.size + 1, W.heap.size + 1 + 1] w' wf) :
    OwnI wf W.heap.size vr ns ∧ CkAt wf gc rb' st ∧ NewRow W rb rb' ∧ Fr (gc :: rb.toList) W wf := by
  simp at ho
  refine ⟨(ho.fr hw (fun k hk => by have := (World.ownsRow.lt ho k hk).1; simp; omega)).low (by omega), Clk.fr hc hw (by simp; omega) (fun k hk => ?_), ?_, ?_⟩
  · rcases hn with rfl | ⟨b, rfl, hb⟩
    · have := hr k hk; simp; omega
    · injection hk with hk; simp at hb ⊢; omega
  · rcases hn with h | ⟨b, h, hb⟩
    · exact .inl h
    · exact .inr ⟨b, h, by simp at hb; omega⟩
  · have h1 : Fr (gc :: rb.toList) W w' := ((((Fr.refl [] W).alloc o).alloc _).alloc _).nil.trans hf (fun x hx _ => hx)
    exact h1.trans hw (fun x hx hxl => by simp at hx; omega)

/-- What play comes to. -/
def PlayPost (W : World) (gc : Nat) (rb : Option Nat) (s : St) (x : Call) (e : Ending) (w' : World) : Prop :=
  ∃ vr rb', e = .returned (.agg #[vr, .int .i64 (s.play x).2.1]) ∧ OwnI w' W.heap.size vr (s.play x).1 ∧ CkAt w' gc rb' (s.play x).2.2 ∧ NewRow W rb rb' ∧ Fr (gc :: rb.toList) W w'

theorem play_done {W w' wf : World} {gc : Nat} {rb rb' : Option Nat} {s st : St} {x : Call} {er : Int} {vr : Value} {ns : List Int} (o : Obj) (hg : gc < W.heap.size) (hr : ∀ k, rb = some k → k < W.heap.size)
    (hf : Fr (gc :: rb.toList) (((W.alloc o).alloc (.cells #[.slice none 0 0, .int .i64 0] 34)).alloc (.cells #[.slice none 0 0, .int .i64 0] 34)) w')
    (hc : CkAt w' gc rb' st) (hn : NewRow (((W.alloc o).alloc (.cells #[.slice none 0 0, .int .i64 0] 34)).alloc (.cells #[.slice none 0 0, .int .i64 0] 34)) rb rb')
    (ho : OwnI w' (((W.alloc o).alloc (.cells #[.slice none 0 0, .int .i64 0] 34)).alloc (.cells #[.slice none 0 0, .int .i64 0] 34)).heap.size vr ns) (hp : s.play x = (ns, er, st)) (hw : Fr [W.heap.size + 1, W.heap.size + 1 + 1] w' wf) :
    PlayPost W gc rb s x (.returned (.agg #[vr, .int .i64 er])) wf := by
  have h := play_fin o hg hr hf hc hn ho hw
  exact ⟨vr, rb', by rw [hp], by rw [hp]; exact h.1, by rw [hp]; exact h.2.1, h.2.2.1, h.2.2.2⟩

set_option maxRecDepth 100000 in
set_option maxHeartbeats 2000000 in
theorem play_any (W : World) (gc : Nat) (rb : Option Nat) (s : St) (hC : CkAt W gc rb s) (hs : s.Ok) (x : Call) (hx : x.Ok) :
    Calls Try.prog 9 #[.pointer (some ⟨gc, 0, none⟩), x.val] W (PlayPost W gc rb s x) := by
  obtain ⟨k0, hd0, hd1, hb0, hb1⟩ := hx
  have hk8 : (x.kind : Int) < 256 := by omega
  have hf0 : Fr [] W (((W.alloc (.cells #[.int .u8 x.kind, .int .i64 x.owner, .string x.id, .int .i64 x.delay, .int .i64 x.n, .int .i64 x.by_] 31)).alloc (.cells #[.slice none 0 0, .int .i64 0] 34)).alloc (.cells #[.slice none 0 0, .int .i64 0] 34)) := (((Fr.refl [] W).alloc _).alloc _).alloc _
  have hC0 : CkAt _ gc rb s := Clk.fr hC hf0 (by simp) (by simp)
  have hset := set_st _ gc rb s hC0 hs x.owner x.id x.delay x.n hd0 hd1
  have hcan := cancel_any _ gc rb s.now s.ts x.owner x.id hC0 (by have := hs.len; omega)
  have hdro := drop_any _ gc rb s.now s.ts x.owner hC0 (by have := hs.len; omega)
  have htic := tick_st _ gc rb s hC0 hs x.by_ hb0 hb1
  have hgl : gc < W.heap.size := by obtain ⟨v, hb, _⟩ := hC; exact hb.lt
  have hrl : ∀ k, rb = some k → k < W.heap.size := by obtain ⟨v, _, hr⟩ := hC; exact fun k hk => (hr.lt k hk).1
  have HRL := Lib.hid hrl
  clear hrl
  have HC := Lib.hid hC0
  clear hC hC0
  unfold Call.val
  have hcases : x.kind % 5 = 0 ∨ x.kind % 5 = 1 ∨ x.kind % 5 = 2 ∨ x.kind % 5 = 3 ∨ x.kind % 5 = 4 := by omega
  rcases hcases with h | h | h | h | h
  · have hp := play_0 s x h
    have b0 : (((x.kind : Int) % 5) == 0) = true := beq_iff_eq.2 (by omega)
    have HPL := Lib.hid hp
    clear hp h
    go_enter Try.func9, Try.ntmps9
    go_wp2_with fail
    refine hset.mono ?_
    rintro e w' ⟨rfl, rb', hc', hnr, hf'⟩
    obtain ⟨s1, a0, a1, b0', b1', fa0, fa1, fb0, fb1, s0⟩ := boxes _ hgl HRL.out hf'
    go_wp2
    refine bodyPost_ret (v := .agg #[.slice none 0 0, .int .i64 (s.set x.owner x.id x.delay x.n).1]) (by simp [results, Try.results9, go_sem, s1, a0, a1, b0', b1', s0]) rfl ?_
    exact play_done _ hgl HRL.out hf' hc' hnr (show OwnI _ _ (.slice none 0 0) [] from World.ownsRow_nil _ _ _ _) HPL.out (by repeat (first | exact Fr.refl _ _ | refine Fr.setCell ?_ (by simp) _))
  · have hp := play_1 s x h
    have b0 : (((x.kind : Int) % 5) == 0) = false := beq_eq_false_iff_ne.2 (by omega)
    have b1 : (((x.kind : Int) % 5) == 1) = true := beq_iff_eq.2 (by omega)
    have HPL := Lib.hid hp
    clear hp h
    go_enter Try.func9, Try.ntmps9
    go_wp2_with fail
    refine hcan.mono ?_
    rintro e w' hh
    obtain ⟨vr, rfl, ho, hc', hf'⟩ := cut_st hh
    obtain ⟨Ar, cr, rfl⟩ := own_slice ho
    obtain ⟨s1, a0, a1, b0', b1', fa0, fa1, fb0, fb1, s0⟩ := boxes _ hgl HRL.out hf'
    go_wp2
    refine bodyPost_ret (v := .agg #[.slice Ar (s.cut fun t => t.o == x.owner && t.i.toList == x.id.toList).1.length cr, .int .i64 0]) (by simp [results, Try.results9, go_sem, s1, a0, a1, b0', b1', s0]) rfl ?_
    exact play_done _ hgl HRL.out hf' hc' (.inl rfl) ho HPL.out (by repeat (first | exact Fr.refl _ _ | refine Fr.setCell ?_ (by simp) _))
  · have hp := play_2 s x h
    have b0 : (((x.kind : Int) % 5) == 0) = false := beq_eq_false_iff_ne.2 (by omega)
    have b1 : (((x.kind : Int) % 5) == 1) = false := beq_eq_false_iff_ne.2 (by omega)
    have b2 : (((x.kind : Int) % 5) == 2) = true := beq_iff_eq.2 (by omega)
    have HPL := Lib.hid hp
    clear hp h
    go_enter Try.func9, Try.ntmps9
    go_wp2_with fail
    refine hdro.mono ?_
    rintro e w' hh
    obtain ⟨vr, rfl, ho, hc', hf'⟩ := cut_st hh
    obtain ⟨Ar, cr, rfl⟩ := own_slice ho
    obtain ⟨s1, a0, a1, b0', b1', fa0, fa1, fb0, fb1, s0⟩ := boxes _ hgl HRL.out hf'
    go_wp2
    refine bodyPost_ret (v := .agg #[.slice Ar (s.cut fun t => t.o == x.owner).1.length cr, .int .i64 0]) (by simp [results, Try.results9, go_sem, s1, a0, a1, b0', b1', s0]) rfl ?_
    exact play_done _ hgl HRL.out hf' hc' (.inl rfl) ho HPL.out (by repeat (first | exact Fr.refl _ _ | refine Fr.setCell ?_ (by simp) _))
  · have hp := play_3 s x h
    have b0 : (((x.kind : Int) % 5) == 0) = false := beq_eq_false_iff_ne.2 (by omega)
    have b1 : (((x.kind : Int) % 5) == 1) = false := beq_eq_false_iff_ne.2 (by omega)
    have b2 : (((x.kind : Int) % 5) == 2) = false := beq_eq_false_iff_ne.2 (by omega)
    have b3 : (((x.kind : Int) % 5) == 3) = true := beq_iff_eq.2 (by omega)
    have HPL := Lib.hid hp
    clear hp h
    go_enter Try.func9, Try.ntmps9
    go_wp2_with fail
    refine htic.mono ?_
    rintro e w' ⟨vr, rfl, ho, hc', hf'⟩
    obtain ⟨Ar, cr, rfl⟩ := own_slice ho
    obtain ⟨s1, a0, a1, b0', b1', fa0, fa1, fb0, fb1, s0⟩ := boxes _ hgl HRL.out hf'
    go_wp2
    refine bodyPost_ret (v := .agg #[.slice Ar (s.tick x.by_).1.length cr, .int .i64 (s.tick x.by_).2.1]) (by simp [results, Try.results9, go_sem, s1, a0, a1, b0', b1', s0]) rfl ?_
    exact play_done _ hgl HRL.out hf' hc' (.inl rfl) ho HPL.out (by repeat (first | exact Fr.refl _ _ | refine Fr.setCell ?_ (by simp) _))
  · have hp := play_4 s x h
    have b0 : (((x.kind : Int) % 5) == 0) = false := beq_eq_false_iff_ne.2 (by omega)
    have b1 : (((x.kind : Int) % 5) == 1) = false := beq_eq_false_iff_ne.2 (by omega)
    have b2 : (((x.kind : Int) % 5) == 2) = false := beq_eq_false_iff_ne.2 (by omega)
    have b3 : (((x.kind : Int) % 5) == 3) = false := beq_eq_false_iff_ne.2 (by omega)
    have HPL := Lib.hid hp
    clear hp h
    go_enter Try.func9, Try.ntmps9
    go_wp2
    refine bodyPost_ret (v := .agg #[.slice none 0 0, .int .i64 0]) (by simp [results, Try.results9, go_sem]) rfl ?_
    exact play_done _ hgl HRL.out (Fr.refl _ _) HC.out (.inl rfl) (show OwnI _ _ (.slice none 0 0) [] from World.ownsRow_nil _ _ _ _) HPL.out (Fr.refl _ _)
end Go.Proofs.Ytifjablnplpfnaa
