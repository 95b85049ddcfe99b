/- The reference's clock: want, one call of a script. -/
import Derived.Test.YtifjablnplpfnaaG3
set_option linter.unusedVariables false
set_option linter.unusedSimpArgs false
namespace Go.Proofs.Ytifjablnplpfnaa
open Go.RowKit Go.Lib

theorem stable_eq {a b c : List Tm} (h : Stable a c) (k : Stable b c) : a = b := stable_unique a b h.1 k.1 (fun v => (h.2 v).trans (k.2 v).symm)

/-- The reference's clock in memory, of the same time and timers as s. -/
def Rs (w : World) (gr : Nat) (rb : Option Nat) (s : St) : Prop := ∃ ts, Stable s.ts ts ∧ Rk w gr rb s.now ts
theorem Rs.fr {w w' : World} {gr : Nat} {rb : Option Nat} {s : St} {S : List Nat} (h : Rs w gr rb s) (f : Fr S w w') (hg : gr ∉ S) (hn : ∀ k, rb = some k → k ∉ S) : Rs w' gr rb s := by
  obtain ⟨ts, hst, hR⟩ := h
  exact ⟨ts, hst, hR.fr f hg hn⟩
theorem Rs.lt {w : World} {gr : Nat} {rb : Option Nat} {s : St} (h : Rs w gr rb s) : gr < w.heap.size ∧ ∀ k, rb = some k → k < w.heap.size := by
  obtain ⟨ts, hst, v, hb, hr⟩ := h
  exact ⟨hb.lt, fun k hk => (hr.lt k hk).1⟩

/-- The row behind a call is the one ahead of it, or a new one, or none. -/
def NewK (W : World) (rb rb' : Option Nat) : Prop := ∀ k, rb' = some k → rb = some k ∨ W.heap.size ≤ k
theorem NewK.of {W : World} {rb rb' : Option Nat} (h : NewRow W rb rb') : NewK W rb rb' := by
  intro k hk
  rcases h with rfl | ⟨b, rfl, hb⟩
  · exact .inl hk
  · injection hk with hk; exact .inr (by omega)

theorem rset_st (W : World) (gr : Nat) (rb : Option Nat) (s : St) (hR : Rs W gr rb s) (hs : s.Ok) (ow : Int) (id : ByteArray) (delay n : Int) :
    Calls Try.prog 22 #[.pointer (some ⟨gr, 0, none⟩), .int .i64 ow, .string id, .int .i64 delay, .int .i64 n] W fun e w' =>
      e = .returned (.int .i64 (s.set ow id delay n).1) ∧ ∃ rb', Rs w' gr rb' (s.set ow id delay n).2 ∧ NewK W rb rb' ∧ Fr (gr :: rb.toList) W w' := by
  obtain ⟨ts, hst, hR⟩ := hR
  have hl := hst.length
  have hsl := hs.len
  refine (rset_any W gr rb s.now ts hR (by omega) hs.n0 hs.n1 ow id delay n).mono ?_
  rintro e w' h
  unfold RsetPost at h
  unfold St.set
  split at h
  · rename_i h1
    obtain ⟨rfl, rfl⟩ := h
    rw [if_pos h1]
    exact ⟨rfl, rb, ⟨ts, hst, hR⟩, fun k hk => .inl hk, Fr.refl _ _⟩
  · rename_i h1
    rw [if_neg h1]
    split at h
    · rename_i h2
      obtain ⟨rfl, rfl⟩ := h
      rw [if_pos (by omega)]
      exact ⟨rfl, rb, ⟨ts, hst, hR⟩, fun k hk => .inl hk, Fr.refl _ _⟩
    · rename_i h2
      obtain ⟨rfl, rb', hR', hn, hf⟩ := h
      rw [if_neg (by omega)]
      exact ⟨rfl, rb', ⟨_, hst.ins _, hR'⟩, .of hn, hf⟩

theorem rcut_st {W : World} {gr : Nat} {s : St} {ts : List Tm} (rb : Option Nat) (hst : Stable s.ts ts) {p : Tm → Bool} {e : Ending} {w' : World} (h : RtookPost W gr s.now ts p e w') :
    ∃ vr rb', e = .returned vr ∧ OwnI w' W.heap.size vr (s.cut p).1 ∧ Rs w' gr rb' (s.cut p).2 ∧ NewK W rb rb' ∧ Fr (gr :: rb.toList) W w' := by
  obtain ⟨vr, out, rb', rfl, ho1, ho, hR, hrb, hf⟩ := h
  obtain rfl := stable_eq hst ho1
  exact ⟨vr, rb', rfl, ho, ⟨_, hst.filter _, hR⟩, fun k hk => .inr (hrb k hk), hf.wide (by simp)⟩

theorem rtick_st (W : World) (gr : Nat) (rb : Option Nat) (s : St) (hR : Rs W gr rb s) (hs : s.Ok) (b : Int) (hb0 : -9223372036854775808 ≤ b) (hb1 : b ≤ 9223372036854775807) :
    Calls Try.prog 24 #[.pointer (some ⟨gr, 0, none⟩), .int .i64 b] W fun e w' =>
      ∃ vr rb', e = .returned (.tuple #[vr, .int .i64 (s.tick b).2.1]) ∧ OwnI w' W.heap.size vr (s.tick b).1 ∧ Rs w' gr rb' (s.tick b).2.2 ∧ NewK W rb rb' ∧ Fr (gr :: rb.toList) W w' := by
  obtain ⟨ts, hst, hR⟩ := hR
  have hl := hst.length
  have hsl := hs.len
  have h0 := hs.n0
  have h1 := hs.n1
  refine (rtick_any W gr rb s.now ts hR (by omega) hs.n0 hs.n1 b hb0 hb1).mono ?_
  rintro e w' h
  unfold RtickPost at h
  unfold St.tick
  split at h
  · rename_i h1
    obtain ⟨rfl, hf⟩ := h
    rw [if_pos (by omega)]
    exact ⟨_, rb, rfl, World.ownsRow_nil _ _ _ _, ⟨ts, hst, hR.fr hf (by simp) (by simp)⟩, fun k hk => .inl hk, hf.nil⟩
  · rename_i h1
    obtain ⟨vr, out, rb', rfl, ho1, ho, hR', hrb, hf⟩ := h
    rw [if_neg (by omega)]
    obtain rfl := stable_eq hst ho1
    exact ⟨vr, rb', rfl, ho, ⟨_, hst.filter _, hR'⟩, fun k hk => .inr (hrb k hk), hf.wide (by simp)⟩

/-- What want comes to. -/
def WantPost (W : World) (gr : Nat) (rb : Option Nat) (s : St) (x : Call) (e : Ending) (w' : World) : Prop :=
  ∃ vr rb', e = .returned (.agg #[vr, .int .i64 (s.play x).2.1]) ∧ OwnI w' W.heap.size vr (s.play x).1 ∧ Rs w' gr rb' (s.play x).2.2 ∧ NewK W rb rb' ∧ Fr (gr :: rb.toList) W w'

theorem want_done {W w' wf : World} {gr : Nat} {rb rb' : Option Nat} {s st : St} {x : Call} {er : Int} {vr : Value} {ns : List Int} (o : Obj) (hg : gr < W.heap.size) (hr : ∀ k, rb = some k → k < W.heap.size)
    (hf : Fr (gr :: rb.toList) (((W.alloc o).alloc (.cells #[.slice none 0 0, .int .i64 0] 34)).alloc (.cells #[.slice none 0 0, .int .i64 0] 34)) w')
    (hc : Rs w' gr rb' st) (hn : NewK (((W.alloc o).alloc (.cells #[.slice none 0 0, .int .i64 0] 34)).alloc (.cells #[.slice none 0 0, .int .i64 0] 34)) rb rb')
    (ho : OwnI w' (((W.alloc o).alloc (.cells #[.slice none 0 0, .int .i64 0] 34)).alloc (.cells #[.slice none 0 0, .int .i64 0] 34)).heap.size vr ns) (hp : s.play x = (ns, er, st)) (hw : Fr [W.heap.size + 1, W.heap.size + 1 + 1] w' wf) :
    WantPost W gr rb s x (.returned (.agg #[vr, .int .i64 er])) wf := by
  simp at ho
  have hn' : ∀ k, rb' = some k → rb = some k ∨ W.heap.size + 1 + 1 + 1 ≤ k := fun k hk => by have := hn k hk; simpa using this
  refine ⟨vr, rb', by rw [hp], ?_, ?_, fun k hk => ?_, ?_⟩
  · rw [hp]
    exact (ho.fr hw (fun k hk => by have := (World.ownsRow.lt ho k hk).1; simp; omega)).low (by omega)
  · rw [hp]
    exact hc.fr hw (by simp; omega) (fun k hk => by
      rcases hn' k hk with h | h
      · have := hr k h; simp; omega
      · simp; omega)
  · rcases hn' k hk with h | h
    · exact .inl h
    · exact .inr (by omega)
  · have h1 : Fr (gr :: rb.toList) W w' := ((((Fr.refl [] W).alloc o).alloc _).alloc _).nil.trans hf (fun x hx _ => hx)
    exact h1.trans hw (fun x hx hxl => by simp at hx; omega)

set_option maxRecDepth 100000 in
set_option maxHeartbeats 4000000 in
theorem want_any (W : World) (gr : Nat) (rb : Option Nat) (s : St) (hC : Rs W gr rb s) (hs : s.Ok) (x : Call) (hx : x.Ok) :
    Calls Try.prog 10 #[.pointer (some ⟨gr, 0, none⟩), x.val] W (WantPost W gr rb s x) := by
  obtain ⟨k0, hd0, hd1, hb0, hb1⟩ := hx
  have hk8 : (x.kind : Int) < 256 := by omega
  have hf0 : Fr [] W (((W.alloc (.cells #[.int .u8 x.kind, .int .i64 x.owner, .string x.id, .int .i64 x.delay, .int .i64 x.n, .int .i64 x.by_] 31)).alloc (.cells #[.slice none 0 0, .int .i64 0] 34)).alloc (.cells #[.slice none 0 0, .int .i64 0] 34)) := (((Fr.refl [] W).alloc _).alloc _).alloc _
  have hC0 : Rs _ gr rb s := hC.fr hf0 (by simp) (by simp)
  have hset := rset_st _ gr rb s hC0 hs x.owner x.id x.delay x.n
  have htic := rtick_st _ gr rb s hC0 hs x.by_ hb0 hb1
  have hgl : gr < W.heap.size := hC.lt.1
  have hrl : ∀ k, rb = some k → k < W.heap.size := hC.lt.2
  have HRL := Lib.hid hrl
  clear hrl
  have hC1 := hC0
  obtain ⟨ts, hst, hR⟩ := hC1
  have hl := hst.length
  have hcan := rtake_any _ gr rb s.now ts hR (by have := hs.len; omega) 0 (by omega) x.owner x.id
  have hdro := rtake_any _ gr rb s.now ts hR (by have := hs.len; omega) 1 (by omega) x.owner ⟨#[]⟩
  have HST := Lib.hid hst
  have HC := Lib.hid hC0
  clear hC hC0 hst hR
  unfold Call.val
  have hcases : x.kind % 5 = 0 ∨ x.kind % 5 = 1 ∨ x.kind % 5 = 2 ∨ x.kind % 5 = 3 ∨ x.kind % 5 = 4 := by omega
  rcases hcases with h | h | h | h | h
  · have hp := play_0 s x h
    have b0 : (((x.kind : Int) % 5) == 0) = true := beq_iff_eq.2 (by omega)
    have HPL := Lib.hid hp
    clear hp h hcan hdro htic
    go_enter Try.func10, Try.ntmps10
    go_wp2_with fail
    refine hset.mono ?_
    rintro e w' ⟨rfl, rb', hc', hnr, hf'⟩
    obtain ⟨s1, a0, a1, b0', b1', fa0, fa1, fb0, fb1, s0⟩ := boxes _ hgl HRL.out hf'
    have hnr := Lib.hid hnr
    go_wp2
    refine bodyPost_ret (v := .agg #[.slice none 0 0, .int .i64 (s.set x.owner x.id x.delay x.n).1]) (by simp [results, Try.results10, go_sem, s1, a0, a1, b0', b1', s0]) rfl ?_
    exact want_done _ hgl HRL.out hf' hc' hnr.out (show OwnI _ _ (.slice none 0 0) [] from World.ownsRow_nil _ _ _ _) HPL.out (by repeat (first | exact Fr.refl _ _ | refine Fr.setCell ?_ (by simp) _))
  · have hp := play_1 s x h
    have b0 : (((x.kind : Int) % 5) == 0) = false := beq_eq_false_iff_ne.2 (by omega)
    have b1 : (((x.kind : Int) % 5) == 1) = true := beq_iff_eq.2 (by omega)
    have HPL := Lib.hid hp
    clear hp h hset hdro htic
    go_enter Try.func10, Try.ntmps10
    go_wp2_with fail
    refine hcan.mono ?_
    rintro e w' hh
    obtain ⟨vr, rb', rfl, ho, hc', hnr, hf'⟩ := rcut_st rb HST.out hh
    obtain ⟨Ar, cr, rfl⟩ := own_slice ho
    obtain ⟨s1, a0, a1, b0', b1', fa0, fa1, fb0, fb1, s0⟩ := boxes _ hgl HRL.out hf'
    have hnr := Lib.hid hnr
    clear hh
    go_wp2
    refine bodyPost_ret (v := .agg #[.slice Ar (s.cut (goneP s.now 0 x.owner x.id)).1.length cr, .int .i64 0]) (by simp [results, Try.results10, go_sem, s1, a0, a1, b0', b1', s0]) rfl ?_
    exact want_done _ hgl HRL.out hf' hc' hnr.out ho HPL.out (by repeat (first | exact Fr.refl _ _ | refine Fr.setCell ?_ (by simp) _))
  · have hp := play_2 s x h
    have b0 : (((x.kind : Int) % 5) == 0) = false := beq_eq_false_iff_ne.2 (by omega)
    have b1 : (((x.kind : Int) % 5) == 1) = false := beq_eq_false_iff_ne.2 (by omega)
    have b2 : (((x.kind : Int) % 5) == 2) = true := beq_iff_eq.2 (by omega)
    have HPL := Lib.hid hp
    clear hp h hset hcan htic
    go_enter Try.func10, Try.ntmps10
    go_wp2_with fail
    refine hdro.mono ?_
    rintro e w' hh
    obtain ⟨vr, rb', rfl, ho, hc', hnr, hf'⟩ := rcut_st rb HST.out hh
    obtain ⟨Ar, cr, rfl⟩ := own_slice ho
    obtain ⟨s1, a0, a1, b0', b1', fa0, fa1, fb0, fb1, s0⟩ := boxes _ hgl HRL.out hf'
    have hnr := Lib.hid hnr
    clear hh
    go_wp2
    refine bodyPost_ret (v := .agg #[.slice Ar (s.cut (goneP s.now 1 x.owner ⟨#[]⟩)).1.length cr, .int .i64 0]) (by simp [results, Try.results10, go_sem, s1, a0, a1, b0', b1', s0]) rfl ?_
    exact want_done _ hgl HRL.out hf' hc' hnr.out ho HPL.out (by repeat (first | exact Fr.refl _ _ | refine Fr.setCell ?_ (by simp) _))
  · have hp := play_3 s x h
    have b0 : (((x.kind : Int) % 5) == 0) = false := beq_eq_false_iff_ne.2 (by omega)
    have b1 : (((x.kind : Int) % 5) == 1) = false := beq_eq_false_iff_ne.2 (by omega)
    have b2 : (((x.kind : Int) % 5) == 2) = false := beq_eq_false_iff_ne.2 (by omega)
    have b3 : (((x.kind : Int) % 5) == 3) = true := beq_iff_eq.2 (by omega)
    have HPL := Lib.hid hp
    clear hp h hset hcan hdro
    go_enter Try.func10, Try.ntmps10
    go_wp2_with fail
    refine htic.mono ?_
    rintro e w' ⟨vr, rb', rfl, ho, hc', hnr, hf'⟩
    obtain ⟨Ar, cr, rfl⟩ := own_slice ho
    obtain ⟨s1, a0, a1, b0', b1', fa0, fa1, fb0, fb1, s0⟩ := boxes _ hgl HRL.out hf'
    have hnr := Lib.hid hnr
    go_wp2
    refine bodyPost_ret (v := .agg #[.slice Ar (s.tick x.by_).1.length cr, .int .i64 (s.tick x.by_).2.1]) (by simp [results, Try.results10, go_sem, s1, a0, a1, b0', b1', s0]) rfl ?_
    exact want_done _ hgl HRL.out hf' hc' hnr.out ho HPL.out (by repeat (first | exact Fr.refl _ _ | refine Fr.setCell ?_ (by simp) _))
  · have hp := play_4 s x h
    have b0 : (((x.kind : Int) % 5) == 0) = false := beq_eq_false_iff_ne.2 (by omega)
    have b1 : (((x.kind : Int) % 5) == 1) = false := beq_eq_false_iff_ne.2 (by omega)
    have b2 : (((x.kind : Int) % 5) == 2) = false := beq_eq_false_iff_ne.2 (by omega)
    have b3 : (((x.kind : Int) % 5) == 3) = false := beq_eq_false_iff_ne.2 (by omega)
    have HPL := Lib.hid hp
    clear hp h hset hcan hdro htic
    go_enter Try.func10, Try.ntmps10
    go_wp2
    refine bodyPost_ret (v := .agg #[.slice none 0 0, .int .i64 0]) (by simp [results, Try.results10, go_sem]) rfl ?_
    exact want_done _ hgl HRL.out (Fr.refl _ _) HC.out (fun k hk => .inl hk) (show OwnI _ _ (.slice none 0 0) [] from World.ownsRow_nil _ _ _ _) HPL.out (Fr.refl _ _)
end Go.Proofs.Ytifjablnplpfnaa
