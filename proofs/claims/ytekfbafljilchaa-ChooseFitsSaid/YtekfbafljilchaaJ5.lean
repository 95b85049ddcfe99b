/- For every chart and every move ChooseFits returns true, and both read as they did. No condition. -/
import Derived.Test.YtekfbafljilchaaL1
import Derived.Test.YtekfbafljilchaaN2
set_option linter.unusedVariables false
set_option linter.unusedSimpArgs false
namespace Go.Proofs.Ytekfbafljilchaa
open Go.ChangeShapes Go.WideShapes Go.ChangeAt Go.RowKit Go.WideElems

set_option maxRecDepth 100000 in
theorem chooseFits_lifted (os : Os) (started : os.Started) (H : Type) (enc : TypeId × Value → H) :
    ReturnsInHanded {} Try.checked os 3 .any (Rows.chooseFitsSpec.pre6 enc Try.prog Try.f3 Rows.chooseFitsRow.domain false) (Rows.chooseFitsSpec.post enc Try.prog Try.f3 false true false false) := by
  refine returnsInHanded_of_change_sized (C := Try.checked) Try.own started (by kernel_rfl) Try.func3
    (ChangeSpec.witness6 (enc := enc) (C := Try.checked) false ⟨#[], #[.agg #[.string ⟨#[]⟩, .bool false, .int .i64 0, .slice none 0 0, .slice none 0 0, .slice none 0 0, .slice none 0 0, .slice none 0 0], .agg #[.slice none 0 0, .slice none 0 0, .slice none 0 0, .string ⟨#[]⟩, .bool false, .slice none 0 0]], []⟩ 8 (by kernel_rfl) (by kernel_rfl) (by kernel_rfl) (by kernel_rfl)) ?_
  intro W base args ds gs before hval0 hW hcnd hwt _
  have hval : ∀ (j : Nat) t v, Try.f3.params[j]? = some t → args[j]? = some v → Value.okWide Try.prog W .any base t v := hval0
  have hW' := hW
  obtain ⟨p, q, hA0, hV, rfl, hfz, hnd⟩ := hW
  have hA : DataW.TrodAll enc Try.prog W 0 (fun _ => true) true Try.f3.params.toList args.toList ds p := hA0
  rw [Try.params3] at hA hval
  obtain ⟨v0, v1, d0, d1, p0, p1, rfl, rfl, rfl, h0, h1⟩ := trodAll_two hA
  obtain ⟨rfl, rfl⟩ := trodVars_none hV
  have hwt' : (DataW.weightsEach Try.prog [28, 33] [d0, d1]).all (· ≤ reachBytes) = true := hwt
  obtain ⟨c, vS, vT, vB, vD, vI, rfl, hrows⟩ := chart_of_trod h0 (hval 0 28 v0 rfl rfl) (weights_mem hwt' 0 28 d0 rfl rfl)
  obtain ⟨cfg, ts, mem, nm, ev, n4, A1, A2, A3, A4, d1', d2', d3', d4', rfl, hC, hT, hTw, hM, hnm, hn4⟩ := move_of_trod h1 (hval 1 33 v1 rfl rfl) (weights_mem hwt' 1 33 d1 rfl rfl)
  have hlt : ∀ x ∈ (p0 ++ p1) ++ [], x.block < W.heap.size := fun x hx => hW'.lt x hx
  clear hA0 hval0
  refine (fits_law W c vS vT vB vD vI cfg ts mem nm ev n4 A1 A2 A3 A4 d1' d2' d3' d4' hrows hC hT hTw hM hnm hn4).mono fun e W' ⟨he, hf⟩ => ?_
  subst he
  exact ⟨_, rfl, post_below (pa := p0 ++ p1) (pv := []) hW' (fun _ _ _ => trodAll_mk1 (shut_bool Try.underlying4 true))
    (fun sp hsp => trodAll_mk2 (trod_below Try.laidOut (by kernel_rfl) (of_decide_eq_true (by kernel_rfl)) h0 hf.below (fun x hx => hlt x (by simp [hx])) sp (fun x hx => hsp x (by simp [hx]))) (trod_below Try.laidOut (by kernel_rfl) (of_decide_eq_true (by kernel_rfl)) h1 hf.below (fun x hx => hlt x (by simp [hx])) sp (fun x hx => hsp x (by simp [hx])))) (fun _ _ => rfl) (by simp) hf.below
    (ok_one (by kernel_rfl) rfl (okWide_bool_mk Try.underlying4 true))⟩

theorem chooseFits_holds : Rows.ChooseFitsSaid :=
  OpenClaim.holds_of_wide 3 Try.f3 rfl rfl rfl rfl rfl rfl rfl ⟨rfl, rfl, rfl, rfl, rfl⟩ rfl rfl rfl rfl rfl (by kernel_rfl) Try.func3 (by kernel_rfl)
    (of_decide_eq_true (by kernel_rfl)) (by unfold Func.isWrapper; first | (rw [if_pos (by decide +kernel)]; kernel_rfl) | (rw [if_neg (by decide +kernel)]; exact ⟨rfl, rfl⟩))
    (fun os started H enc _ => chooseFits_lifted os started H enc)
end Go.Proofs.Ytekfbafljilchaa
