/- A region that draws its order, by what stays true whatever has come up. -/
import Derived.Orders
import Derived.Deep.Quiet
import Derived.RowKit
set_option linter.unusedVariables false
set_option linter.unusedSimpArgs false
namespace Go.Proofs.Ytekfbafljilchaa
open Go

theorem mem_ready {md : Region.Mode} {ops : Array Oper} {l : Array Bool} {i : Nat} (h : i ∈ Region.ready md ops l) :
    i < ops.size ∧ l.getD i true = false ∧ ((ops[i]?).map (·.after.all fun e => !Region.binds md e || l.getD e.on false)).getD false = true := by
  unfold Region.ready at h
  rw [List.mem_filter] at h
  obtain ⟨h1, h2⟩ := h
  simp only [Bool.and_eq_true, Bool.not_eq_true'] at h2
  exact ⟨by simpa using h1, h2.1, h2.2⟩

def leftOver (l : Array Bool) : Nat := l.toList.countP (fun b => !b)

theorem countP_set (l : List Bool) : ∀ i, l[i]? = some false → (l.set i true).countP (fun b => !b) + 1 = l.countP (fun b => !b) := by
  induction l with
  | nil => intro i h; simp at h
  | cons b l ih =>
    intro i h
    cases i with
    | zero => simp at h; subst h; simp
    | succ i =>
      simp at h
      have := ih i h
      simp only [List.set_cons_succ, List.countP_cons]
      omega

theorem leftOver_set {l : Array Bool} {i : Nat} (h : l.getD i true = false) : leftOver (l.setIfInBounds i true) + 1 = leftOver l := by
  have h1 : l[i]? = some false := by
    rw [Array.getD_eq_getD_getElem?] at h
    cases e : l[i]? with
    | none => rw [e] at h; simp at h
    | some b => rw [e] at h; simp at h; rw [h]
  unfold leftOver
  rw [Array.toList_setIfInBounds]
  exact countP_set _ i (by simpa using h1)

/-- A region that draws its order, by what stays true whatever has come up. -/
theorem wpAny_inv {P : Program} {md : Region.Mode} {ops : Array Oper} {Q : Exit → Act → World → Prop} (I : Array Bool → Act → World → Prop)
    (hd : ∀ l a w, I l a w → Region.ready md ops l = [] → Q .normal a w)
    (hs : ∀ l a w i, I l a w → i ∈ Region.ready md ops l → wpOp P ops Q i (I (l.setIfInBounds i true)) a w) :
    ∀ fuel l a w, I l a w → leftOver l ≤ fuel → wpAny P md ops Q fuel l a w := by
  intro fuel
  induction fuel with
  | zero =>
    intro l a w hI hl
    have h0 : Region.ready md ops l = [] := by
      apply List.eq_nil_iff_forall_not_mem.2
      intro i hi
      have := leftOver_set (mem_ready hi).2.1
      omega
    exact ⟨h0, hd l a w hI h0⟩
  | succ fuel ih =>
    intro l a w hI hl
    refine ⟨hd l a w hI, fun i hi => wpOp_mono (fun a w h => ?_) (hs l a w i hI hi)⟩
    refine ih _ _ _ h ?_
    have := leftOver_set (mem_ready hi).2.1
    omega

def putIf (b : Bool) (t : Nat) (v : Value) (a : Act) : Act := if b then a.put (some t) v else a
theorem putIf_true (t : Nat) (v : Value) (a : Act) : putIf true t v a = a.put (some t) v := rfl
theorem putIf_false (t : Nat) (v : Value) (a : Act) : putIf false t v a = a := rfl
theorem put_comm (a : Act) {s t : Nat} (h : s ≠ t) (u v : Value) : (a.put (some s) u).put (some t) v = (a.put (some t) v).put (some s) u := by
  unfold Act.put
  simp
  exact Array.setIfInBounds_comm _ _ h
theorem putIf_put (b : Bool) {s t : Nat} (h : s ≠ t) (u v : Value) (a : Act) : (putIf b s u a).put (some t) v = putIf b s u (a.put (some t) v) := by
  cases b
  · rfl
  · exact put_comm a h u v
theorem eval_putIf (b : Bool) {s t : Nat} (h : s ≠ t) (u : Value) (a : Act) : (putIf b s u a).eval (.tmp t) = a.eval (.tmp t) := by
  cases b
  · rfl
  · simp [putIf, Act.put, Act.eval, Array.getElem?_setIfInBounds, h]
theorem size_putIf (b : Bool) (t : Nat) (v : Value) (a : Act) : (putIf b t v a).tmps.size = a.tmps.size := by
  cases b
  · rfl
  · simp [putIf, Act.put]
theorem eval_put (t : Nat) (v : Value) (a : Act) (h : t < a.tmps.size) : (putIf true t v a).eval (.tmp t) = v := by
  simp [putIf, Act.put, Act.eval, Array.getElem?_setIfInBounds, h]
theorem put_none (a : Act) (v : Value) : a.put none v = a := rfl

theorem wpOp_at {P : Program} {ops : Array Oper} {Q : Exit → Act → World → Prop} {i : Nat} {K : Act → World → Prop} {a : Act} {w : World} {o : Oper} (ho : ops[i]? = some o) (hg : o.guard = none) (h : o.wp P a w K Q) : wpOp P ops Q i K a w := by
  have hw : Region.wanted o (yielded ops a.tmps) = true := by simp [Region.wanted, hg]
  unfold wpOp
  simp only [ho, hw, if_true]
  exact .inl h

/-- .. as a step of the walk: J speaks of the frame a0 ahead of the region. -/
theorem region_inv {P : Program} {id : Nat} {ops : Array Oper} {Q : Exit → Act → World → Prop} {a : Act} {w : World} (hm : P.follows .mixedOrders = true) (J : Act → Array Bool → Act → World → Prop)
    (h0 : J a (Array.replicate ops.size false) a w.drew)
    (hd : ∀ l a' w', J a l a' w' → Region.ready .any ops l = [] → Q .normal a' w')
    (hs : ∀ a0 l a' w' i, J a0 l a' w' → i ∈ Region.ready .any ops l → wpOp P ops Q i (J a0 (l.setIfInBounds i true)) a' w') :
    (Code.region id ops true).wp P Q a w :=
  wp_region_any hm (wpAny_inv (J a) hd (hs a) _ _ _ _ h0 (by
    unfold leftOver
    refine Nat.le_trans List.countP_le_length ?_
    simp))

theorem op_move {P : Program} {o : Oper} {x : Operand} {a : Act} {w : World} {K : Act → World → Prop} {Q : Exit → Act → World → Prop} (ho : o.op = .move x) (h : K (a.put o.dst (a.eval x)) w) : o.wp P a w K Q := by
  unfold Oper.wp
  simp [execOp, ho]
  exact h
theorem op_alloc {P : Program} {o : Oper} {t : TypeId} {a : Act} {w : World} {K : Act → World → Prop} {Q : Exit → Act → World → Prop} (ho : o.op = .alloc t) {v : Value} {w' : World} (hr : (Instr.alloc t true (.tuple #[])).run P w = .ok v w') (h : K (a.put o.dst v) w') : o.wp P a w K Q := by
  unfold Oper.wp
  simp [execOp, ho, hr]
  exact h
theorem op_load {P : Program} {o : Oper} {t : TypeId} {x : Operand} {a : Act} {w : World} {K : Act → World → Prop} {Q : Exit → Act → World → Prop} (ho : o.op = .load t x) {p v : Value} (hx : a.eval x = p) (hr : (Instr.loadAt t p).run P w = .ok v w) (h : K (a.put o.dst v) w) : o.wp P a w K Q := by
  unfold Oper.wp
  simp [execOp, ho, hx, hr]
  exact h
theorem op_store {P : Program} {o : Oper} {t : TypeId} {x y : Operand} {a : Act} {w w' : World} {K : Act → World → Prop} {Q : Exit → Act → World → Prop} (ho : o.op = .store t x y) {p v : Value} (hx : a.eval x = p) (hy : a.eval y = v) (hr : (Instr.storeAt t p v).run P w = .ok () w') (h : K (a.put o.dst undef) w') : o.wp P a w K Q := by
  unfold Oper.wp
  simp [execOp, ho, hx, hy, hr]
  exact h
theorem op_call {P : Program} {o : Oper} {f : Nat} {xs : Array Operand} {ts : Array TypeId} {a : Act} {w : World} {K : Act → World → Prop} {Q : Exit → Act → World → Prop} (ho : o.op = .call { callee := .value (.func f), args := xs, argTypes := ts }) {vs : Array Value} (hx : xs.map a.eval = vs)
    (hr : ∀ w, (callFunc f vs).run P w = .ok (.enter f vs) w) (h : Calls P f vs w (fun e w' => ∃ v, e = .returned v ∧ K (a.put o.dst v) w')) : o.wp P a w K Q := by
  unfold Oper.wp
  have hf : a.eval (.func f) = .func (.func f) #[] #[] := rfl
  simp [execOp, ho, resolve, invoke, hx, hr, hf, Deferred.ofValue, Deferred.target, Deferred.args, Result.andThen, Oper.upon]
  refine h.mono ?_
  rintro e w' ⟨v, rfl, hk⟩
  exact hk
theorem ready_nil {md : Region.Mode} {ops : Array Oper} {l : Array Bool} (h : Region.ready md ops l = []) (i : Nat) (hi : i < ops.size)
    (ha : ((ops[i]?).map (·.after.all fun e => !Region.binds md e || l.getD e.on false)).getD false = true) : l.getD i true = true := by
  cases e : l.getD i true with
  | true => rfl
  | false =>
    have : i ∈ Region.ready md ops l := by
      unfold Region.ready
      rw [List.mem_filter]
      refine ⟨by simpa using hi, ?_⟩
      simp only [Bool.and_eq_true, Bool.not_eq_true']
      exact ⟨e, ha⟩
    rw [h] at this
    cases this
theorem op_val {P : Program} {o : Oper} {a : Act} {w : World} {K : Act → World → Prop} {Q : Exit → Act → World → Prop} {v : Value} (hr : (execOp a.eval o).run P w = .ok (.value v) w) (h : K (a.put o.dst v) w) : o.wp P a w K Q := by
  unfold Oper.wp
  rw [hr]
  exact h
theorem yielded_of {ops : Array Oper} {a : Act} {j d : Nat} {o : Oper} {b : Bool} (ho : ops[j]? = some o) (hd : o.dst = some d) (ht : d < a.tmps.size) (he : a.eval (.tmp d) = .bool b) : yielded ops a.tmps j = some b := by
  have h : a.tmps[d] = .bool b := by simpa [Act.eval, ht] using he
  simp [yielded, ho, hd, ht, h]
theorem wpOp_guard {P : Program} {ops : Array Oper} {Q : Exit → Act → World → Prop} {i : Nat} {K : Act → World → Prop} {a : Act} {w : World} {o : Oper} {j : Nat} {b : Bool} (ho : ops[i]? = some o) (hg : o.guard = some (j, b)) (hy : yielded ops a.tmps j = some b) (h : o.wp P a w K Q) : wpOp P ops Q i K a w := by
  have hw : Region.wanted o (yielded ops a.tmps) = true := by simp [Region.wanted, hg, hy]
  unfold wpOp
  simp only [ho, hw, if_true]
  exact .inl h
def regIn (n : Nat) : Code → Option Code
  | .region id ops d => if id = n then some (.region id ops d) else none
  | .seq a b => match regIn n a with
    | some c => some c
    | none => regIn n b
  | .cond _ a b => match regIn n a with
    | some c => some c
    | none => regIn n b
  | .loop c => regIn n c
  | .block _ c => regIn n c
  | .scope c => regIn n c
  | _ => none
/-- The post, where nothing but the normal way is left. -/
def OnlyN (N : Act → World → Prop) : Exit → Act → World → Prop
  | .normal, a, w => N a w
  | _, _, _ => False
theorem onlyN_imp {Q : Exit → Act → World → Prop} : ∀ (e : Exit) (a : Act) (w : World), OnlyN (fun a w => Q .normal a w) e a w → Q e a w := fun e a w h => by
  cases e <;> first | exact h | exact (h : False).elim
def regAt (f : Func) (n : Nat) : Code := ((f.body.bind (regIn n)).getD .skip)
end Go.Proofs.Ytekfbafljilchaa
