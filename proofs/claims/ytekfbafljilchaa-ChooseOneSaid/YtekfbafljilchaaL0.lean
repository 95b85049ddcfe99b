/- From a walk to a row: the words that all of this seat's rows use. -/
import Derived.Test.YtekfbafljilchaaRows
import Derived.Test.YtekfbafljilchaaC1
import Derived.ProofKit
import Derived.Carry
import Derived.ChangeSame
import Derived.Below
set_option linter.unusedVariables false
set_option linter.unusedSimpArgs false
namespace Go.Proofs.Ytekfbafljilchaa
open Go.ChangeShapes Go.WideShapes Go.ChangeAt Go.RowKit Go.WideElems

theorem Try.own : ownKnob Try.prog.godebug = none := by kernel_rfl
theorem Try.laidOut : laidOutB Try.prog = true := by kernel_rfl

section
variable {H : Type} {enc : TypeId × Value → H} {P : Program}
/-- A call that leaves all that was there as it was: the row's last step. -/
theorem post_below {f : Func} {s : ChangeSpec} {apart fresh handsOn again : Bool} {W W' : World} {args : Array Value} {v : Value} {ds gs : List (DataW H)} {before pa pv : List MemPlace}
    (hW : DataW.Whole enc P f.params.toList s.vars apart W args.toList ds gs before)
    (hres : ∀ (b : Nat) (sp : Nat → Bool) (hd : Bool), DataW.TrodAll enc P W' b sp hd f.resultTypes.toList (v.resultList f.resultTypes.size) (s.fn H (ds ++ gs)).results [])
    (hargs : ∀ sp : Nat → Bool, (∀ p ∈ before, sp p.block = true) → DataW.TrodAll enc P W' 0 sp true f.params.toList args.toList (s.fn H (ds ++ gs)).args pa)
    (hvars : ∀ sp : Nat → Bool, (∀ p ∈ before, sp p.block = true) → DataW.TrodVars enc P W' sp s.vars (s.fn H (ds ++ gs)).vars pv)
    (hps : before = pa ++ pv) (hb : Below W.heap.size W W')
    (hok : ∀ (j : Nat) (t : TypeId) (r : Value), f.resultTypes[j]? = some t → (v.resultList f.resultTypes.size)[j]? = some r → Value.okWide P W' .any 0 t r) :
    s.post enc P f apart fresh handsOn again W args v W' := by
  have hlt : ∀ p ∈ before, p.block < W.heap.size := fun p hp => hW.lt p hp
  have hold : ∀ p ∈ before, (fun b => decide (b < W.heap.size)) p.block = true := fun p hp => by simpa using hlt p hp
  refine ⟨ds, gs, before, [], pa, pv, hW, hres _ _ _, hargs _ hold, hvars _ hold, World.keptBut_mono (fun p hp => ⟨hp, ?_⟩) (hb.frame (· ∈ before)), fun _ => ?_⟩
  · rw [hps, List.mem_append] at hp
    exact Or.inr hp
  · obtain ⟨_, _, _, _, _, hz, hn⟩ := hW
    refine ⟨hok, _, _, ([] ++ pa) ++ pv, ⟨[] ++ pa, pv, trodAll_append (hargs _ (fun _ _ => rfl)) (hres _ _ _), hvars _ (fun _ _ => rfl), rfl, ?_, ?_⟩, ?_⟩
    · intro b off hp
      have hin : MemPlace.cell b off ∈ before := by rw [hps]; simpa using hp
      rw [hb.frozen (hlt _ hin)]
      exact hz b off hin
    · intro ha
      have := hn ha
      rw [hps] at this
      simpa using this
    · intro p hp _
      rw [hps]
      simpa using hp

/-- Whatever was read reads the same where nothing old has turned. -/
theorem trod_below {t : TypeId} (hl : laidOutB P = true) (hr : P.readableRec t = true) (hrow : t < P.types.size) {W W' : World} {v : Value} {d : DataW H} {ps : List MemPlace}
    (h : DataW.Trod enc P W 0 (fun _ => true) true t v d ps) (hb : Below W.heap.size W W') (hlt : ∀ x ∈ ps, x.block < W.heap.size) (sp : Nat → Bool) (hsp : ∀ x ∈ ps, sp x.block = true) :
    DataW.Trod enc P W' 0 sp true t v d ps :=
  Trod_stays hl hr hrow h (fun x hx => hb.same (hlt x hx)) hsp
end

/-! ### what came in -/
theorem Sl.low {α : Type} {K : Rk α} {p : Nat → Prop} {w : World} {v : Value} {l : List α} (h : Sl K p w v l) : Sl K (fun k => k < w.heap.size) w v l := h.fr (fun k _ hk => ⟨hk, rfl⟩)
section
variable {H : Type} {enc : TypeId × Value → H} {W : World} {d : DataW H} {p : List MemPlace} {base : Nat} {v : Value}
theorem weights_mem {P : Program} {ts : List TypeId} {ds : List (DataW H)} (h : (DataW.weightsEach P ts ds).all (· ≤ reachBytes) = true) : ∀ (j : Nat) (t : TypeId) (d : DataW H), ts[j]? = some t → ds[j]? = some d → ∀ n ∈ d.weights P t, n ≤ 140737488351232 := by
  intro j t d h1 h2 n hn
  have hm : n ∈ DataW.weightsEach P ts ds := by
    clear h
    induction ts generalizing ds j with
    | nil => simp at h1
    | cons t' ts ih =>
      cases ds with
      | nil => simp at h2
      | cons d' ds =>
        simp only [DataW.weightsEach, List.mem_append]
        cases j with
        | zero => simp at h1 h2; subst h1 h2; exact .inl hn
        | succ j => exact .inr (ih j (by simpa using h1) (by simpa using h2))
  have := List.all_eq_true.1 h n hm
  exact of_decide_eq_true this
set_option maxRecDepth 100000 in
theorem chart_of_trod (h : DataW.Trod enc Try.prog W 0 (fun _ => true) true 28 v d p) (hok : Value.okWide Try.prog W .any base 28 v) (hw : ∀ n ∈ d.weights Try.prog 28, n ≤ 140737488351232) :
    ∃ c vS vT vB vD vI, v = chartV c vS vT vB vD vI ∧ Rows8 (fun k => k < W.heap.size) W c vS vT vB vD vI := by
  obtain ⟨cs, rfl, _⟩ := okWide_struct Try.underlying28 hok
  obtain ⟨fuel, hf⟩ := h
  obtain ⟨c, vS, vT, vB, vD, vI, he, h3, h4, h5, h6, h7⟩ := o28 hf hw
  have e : cs = #[.string c.name, .bool c.late, .int .i64 c.script, vS, vT, vB, vD, vI] := by
    cases cs
    simp only [Value.cells] at he
    rw [he]
  subst e
  exact ⟨c, vS, vT, vB, vD, vI, rfl, h3.low, h4.low, h5.low, h6.low, h7.low⟩
set_option maxRecDepth 100000 in
theorem row_of_trod {α : Type} {K : Rk α} {t e : TypeId} (ho : Opens Try.prog t (rSl K)) (hu : Try.prog.underlying t = some (.slice e)) (h : DataW.Trod enc Try.prog W 0 (fun _ => true) true t v d p) (hok : Value.okWide Try.prog W .any base t v) (hw : ∀ n ∈ d.weights Try.prog t, n ≤ 140737488351232) :
    ∃ A l c, v = .slice A l.length c ∧ Sl K (fun k => k < W.heap.size) W (.slice A l.length c) l := by
  obtain ⟨a0, len, cap, rfl⟩ := okWide_slice hu hok
  obtain ⟨fuel, hf⟩ := h
  obtain ⟨l, v', he, hs⟩ := ho hf hw
  simp [Value.cells] at he
  subst he
  obtain ⟨A, c, e2, _⟩ := hs.form
  rw [e2] at hs ⊢
  exact ⟨A, l, c, rfl, hs.low⟩
end
end Go.Proofs.Ytekfbafljilchaa
