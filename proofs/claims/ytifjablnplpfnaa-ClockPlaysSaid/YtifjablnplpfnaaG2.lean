/- The reference's clock: Set, Next. -/
import Derived.Test.YtifjablnplpfnaaG1
set_option linter.unusedVariables false
set_option linter.unusedSimpArgs false
namespace Go.Proofs.Ytifjablnplpfnaa
open Go.RowKit Go.Lib

/-- append as one step of a region that draws, where its run is known. -/
theorem step_append_eq {ops : Array Oper} {o : Oper} {a : Act} {w : World} {K : Act → World → Prop} {Q : Exit → Act → World → Prop} {E : Prop}
    (hg : o.guard = none) (d x : Operand) (dT sT : TypeId) (hop : o.op = Op.call { callee := Callee.builtin Builtin.append, args := #[d, x], argTypes := #[dT, sT] })
    (v u : Value) (hd : a.eval d = v) (hx : a.eval x = u) {v' : Value} {w' : World} (hr : (Builtin.append_ #[dT, sT] o.type #[v, u]).run Try.prog w = .ok v' w') (hK : K (a.put o.dst v') w') :
    if Region.wanted o (yielded ops a.tmps) = true then Oper.wp Try.prog o a w K Q else E := by
  have hw : Region.wanted o (yielded ops a.tmps) = true := by simp [Region.wanted, hg]
  rw [if_pos hw]
  unfold Oper.wp
  simp [execOp, hop, resolve, invoke, builtin, hd, hx, hr, Result.andThen]
  exact hK

def RsetPost (W : World) (gr : Nat) (rb : Option Nat) (now : Int) (ts : List Tm) (ow : Int) (id : ByteArray) (delay n : Int) (e : Ending) (w' : World) : Prop :=
  if delay < 0 ∨ delay > 1000000000 then e = .returned (.int .i64 1) ∧ w' = W
  else if 128 = ts.length then e = .returned (.int .i64 4) ∧ w' = W
  else e = .returned (.int .i64 0) ∧ ∃ rb', Rk w' gr rb' now (ts ++ [⟨ow, id, now + delay, n⟩]) ∧ NewRow W rb rb' ∧ Fr (gr :: rb.toList) W w'

set_option maxRecDepth 100000 in
set_option maxHeartbeats 4000000 in
theorem rset_any (W : World) (gr : Nat) (rb : Option Nat) (now : Int) (ts : List Tm) (hR : Rk W gr rb now ts) (hn : ts.length ≤ 1000) (hn0 : 0 ≤ now) (hn1 : now ≤ 9007199254740992) (ow : Int) (id : ByteArray) (delay n : Int) :
    Calls Try.prog 22 #[.pointer (some ⟨gr, 0, none⟩), .int .i64 ow, .string id, .int .i64 delay, .int .i64 n] W (RsetPost W gr rb now ts ow id delay n) := by
  obtain ⟨v, hgr, hr⟩ := hR
  obtain ⟨A, n0, c, rfl⟩ := hr.slice
  have hn0' : n0 = ts.length := by obtain ⟨A', c', e, _⟩ := hr.slice'; injection e
  subst hn0'
  have hgl := hgr.lt
  have hg0 := hgr.cell 0
  have hg1 := hgr.cell 1
  simp at hg0 hg1
  by_cases h1 : delay < 0
  · have hpost : ∀ (e : Ending) (w' : World), (e = .returned (.int .i64 1) ∧ w' = W) → RsetPost W gr rb now ts ow id delay n e w' := fun e w' h => by unfold RsetPost; rw [if_pos (.inl h1)]; exact h
    clear hr hgr
    go_enter Try.func22, Try.ntmps22
    go_wp2
    go_ret
    exact hpost _ _ ⟨rfl, rfl⟩
  by_cases h2 : delay > 1000000000
  · have hpost : ∀ (e : Ending) (w' : World), (e = .returned (.int .i64 1) ∧ w' = W) → RsetPost W gr rb now ts ow id delay n e w' := fun e w' h => by unfold RsetPost; rw [if_pos (.inr h2)]; exact h
    clear hr hgr
    go_enter Try.func22, Try.ntmps22
    go_wp2
    go_ret
    exact hpost _ _ ⟨rfl, rfl⟩
  by_cases h3 : 128 = ts.length
  · have hpost : ∀ (e : Ending) (w' : World), (e = .returned (.int .i64 4) ∧ w' = W) → RsetPost W gr rb now ts ow id delay n e w' := fun e w' h => by unfold RsetPost; rw [if_neg (show ¬(delay < 0 ∨ delay > 1000000000) by omega), if_pos h3]; exact h
    have h3' : ((ts.length : Int) == 128) = true := beq_iff_eq.2 (by omega)
    clear hr hgr h3
    go_enter Try.func22, Try.ntmps22
    go_wp2
    go_ret
    exact hpost _ _ ⟨rfl, rfl⟩
  have hpost : ∀ (e : Ending) (w' : World), (e = .returned (.int .i64 0) ∧ ∃ rb', Rk w' gr rb' now (ts ++ [⟨ow, id, now + delay, n⟩]) ∧ NewRow W rb rb' ∧ Fr (gr :: rb.toList) W w') → RsetPost W gr rb now ts ow id delay n e w' := fun e w' h => by
    unfold RsetPost; rw [if_neg (show ¬(delay < 0 ∨ delay > 1000000000) by omega), if_neg h3]; exact h
  have h3' : ((ts.length : Int) == 128) = false := beq_eq_false_iff_ne.2 (by omega)
  have hwr : IntKind.i64.wrap (now + delay) = now + delay := by rw [IntKind.wrap_i64]; omega
  have f1 : Fr [] W ((W.alloc (.cells #[.int .i64 ow, .string id, .int .i64 (IntKind.i64.wrap (now + delay)), .int .i64 n] 44)).drew) := ((Fr.refl _ _).alloc _).drew
  obtain ⟨v', w1, rb', hrun, hr', hnr, hf⟩ := run_append_timer _ _ rb ts (hr.fr f1 (by simp)) W.heap.size ⟨ow, id, IntKind.i64.wrap (now + delay), n⟩ (Blk.new W #[.int .i64 ow, .string id, .int .i64 (IntKind.i64.wrap (now + delay)), .int .i64 n] 44) (by omega) 27
  obtain ⟨A', n', c', rfl⟩ := hr'.slice
  have hrl := hr.lt
  have hgr1 := (hgr.fr f1 (by simp)).fr hf (by
    simp
    intro e
    obtain ⟨_, d, hd⟩ := hrl gr e
    exact hd.ne hgr (by decide) rfl)
  have hl1 := hgr1.lt
  have hc1 := hgr1.cell 1
  have hfr1 := hgr1.free 1
  simp at hc1
  rw [hwr] at hr'
  clear hwr
  have hfin : RsetPost W gr rb now ts ow id delay n (.returned (.int .i64 0)) (w1.setCell ⟨gr, 1, none⟩ (.slice A' n' c')) := by
    refine hpost _ _ ⟨rfl, rb', ⟨_, by simpa using hgr1.set 1 (.slice A' n' c'), hr'.fr (Fr.setCell (Fr.refl [gr] w1) (p := ⟨gr, 1, none⟩) (by simp) _) (fun k hk => ?_)⟩, ?_, ?_⟩
    · obtain ⟨_, d, hd⟩ := hr'.lt k hk
      simp
      exact hd.ne hgr1 (by decide)
    · rcases hnr with h | h
      · exact .inl h
      · exact .inr ⟨_, h, by simp⟩
    · exact ((f1.nil.trans hf (S := gr :: rb.toList) (fun x hx _ => List.mem_cons_of_mem _ hx))).setCell (by simp) _
  have HFIN := Lib.hid hfin
  clear hfin hpost hr hgr hr' hgr1 hrl hf f1 h3
  go_enter Try.func22, Try.ntmps22
  go_wp2
  go_region_law (refine step_append_eq rfl _ _ 27 27 rfl _ _ (by simp [Act.eval, Act.put]) (by simp [Act.eval, Act.put]) hrun ?_)
  all_goals
    go_wp2
    go_ret
    exact HFIN.out
end Go.Proofs.Ytifjablnplpfnaa
