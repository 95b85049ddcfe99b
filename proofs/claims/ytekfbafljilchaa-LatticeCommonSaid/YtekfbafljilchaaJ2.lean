/- For every chart and every list of states LatticeCommon returns true, and both read as they did. No condition. -/
import Derived.Test.YtekfbafljilchaaL0
import Derived.Test.YtekfbafljilchaaH4
set_option linter.unusedVariables false
set_option linter.unusedSimpArgs false
namespace Go.Proofs.Ytekfbafljilchaa
open Go.ChangeShapes Go.WideShapes Go.ChangeAt Go.RowKit Go.WideElems

set_option maxRecDepth 100000 in
theorem latticeCommon_lifted (os : Os) (started : os.Started) (H : Type) (enc : TypeId × Value → H) :
    ReturnsInHanded {} Try.checked os 7 .any (Rows.latticeCommonSpec.pre6 enc Try.prog Try.f7 Rows.latticeCommonRow.domain false) (Rows.latticeCommonSpec.post enc Try.prog Try.f7 false true false false) := by
  refine returnsInHanded_of_change_sized (C := Try.checked) Try.own started (by kernel_rfl) Try.func7
    (ChangeSpec.witness6 (enc := enc) (C := Try.checked) false ⟨#[], #[.agg #[.string ⟨#[]⟩, .bool false, .int .i64 0, .slice none 0 0, .slice none 0 0, .slice none 0 0, .slice none 0 0, .slice none 0 0], .slice none 0 0], []⟩ 8 (by kernel_rfl) (by kernel_rfl) (by kernel_rfl) (by kernel_rfl)) ?_
  intro W base args ds gs before hval0 hW hcnd hwt _
  have hval : ∀ (j : Nat) t v, Try.f7.params[j]? = some t → args[j]? = some v → Value.okWide Try.prog W .any base t v := hval0
  have hW' := hW
  obtain ⟨p, q, hA0, hV, rfl, hfz, hnd⟩ := hW
  have hA : DataW.TrodAll enc Try.prog W 0 (fun _ => true) true Try.f7.params.toList args.toList ds p := hA0
  rw [Try.params7] at hA hval
  obtain ⟨v0, v1, d0, d1, p0, p1, rfl, rfl, rfl, h0, h1⟩ := trodAll_two hA
  obtain ⟨rfl, rfl⟩ := trodVars_none hV
  have hwt' : (DataW.weightsEach Try.prog [28, 29] [d0, d1]).all (· ≤ reachBytes) = true := hwt
  obtain ⟨c, vS, vT, vB, vD, vI, rfl, hrows⟩ := chart_of_trod h0 (hval 0 28 v0 rfl rfl) (weights_mem hwt' 0 28 d0 rfl rfl)
  obtain ⟨A, cfg, dd, rfl, hC⟩ := row_of_trod o29 Try.underlying29 h1 (hval 1 29 v1 rfl rfl) (weights_mem hwt' 1 29 d1 rfl rfl)
  have hlt : ∀ x ∈ (p0 ++ p1) ++ [], x.block < W.heap.size := fun x hx => hW'.lt x hx
  clear hA0 hval0
  refine (common_law W c vS vT vB vD vI cfg A dd hrows hC).mono fun e W' ⟨he, hf⟩ => ?_
  subst he
  exact ⟨_, rfl, post_below (pa := p0 ++ p1) (pv := []) hW' (fun _ _ _ => trodAll_mk1 (shut_bool Try.underlying4 true))
    (fun sp hsp => trodAll_mk2 (trod_below Try.laidOut (by kernel_rfl) (of_decide_eq_true (by kernel_rfl)) h0 hf.below (fun x hx => hlt x (by simp [hx])) sp (fun x hx => hsp x (by simp [hx])))
      (trod_below Try.laidOut (by kernel_rfl) (of_decide_eq_true (by kernel_rfl)) h1 hf.below (fun x hx => hlt x (by simp [hx])) sp (fun x hx => hsp x (by simp [hx])))) (fun _ _ => rfl) (by simp) hf.below
    (ok_one (by kernel_rfl) rfl (okWide_bool_mk Try.underlying4 true))⟩

theorem latticeCommon_holds : Rows.LatticeCommonSaid :=
  OpenClaim.holds_of_wide 7 Try.f7 rfl rfl rfl rfl rfl rfl rfl ⟨rfl, rfl, rfl, rfl, rfl⟩ rfl rfl rfl rfl rfl (by kernel_rfl) Try.func7 (by kernel_rfl)
    (of_decide_eq_true (by kernel_rfl)) (by unfold Func.isWrapper; first | (rw [if_pos (by decide +kernel)]; kernel_rfl) | (rw [if_neg (by decide +kernel)]; exact ⟨rfl, rfl⟩))
    (fun os started H enc _ => latticeCommon_lifted os started H enc)
end Go.Proofs.Ytekfbafljilchaa
