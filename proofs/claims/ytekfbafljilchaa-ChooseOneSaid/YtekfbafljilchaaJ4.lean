/- For every chart, every move and every number ChooseOne returns true, and all read as they did. No condition. -/
import Derived.Test.YtekfbafljilchaaL1
import Derived.Test.YtekfbafljilchaaN1
set_option linter.unusedVariables false
set_option linter.unusedSimpArgs false
namespace Go.Proofs.Ytekfbafljilchaa
open Go.ChangeShapes Go.WideShapes Go.ChangeAt Go.RowKit Go.WideElems

set_option maxRecDepth 100000 in
theorem chooseOne_lifted (os : Os) (started : os.Started) (H : Type) (enc : TypeId × Value → H) :
    ReturnsInHanded {} Try.checked os 11 .any (Rows.chooseOneSpec.pre6 enc Try.prog Try.f11 Rows.chooseOneRow.domain false) (Rows.chooseOneSpec.post enc Try.prog Try.f11 false true false false) := by
  refine returnsInHanded_of_change_sized (C := Try.checked) Try.own started (by kernel_rfl) Try.func11
    (ChangeSpec.witness6 (enc := enc) (C := Try.checked) false ⟨#[], #[.agg #[.string ⟨#[]⟩, .bool false, .int .i64 0, .slice none 0 0, .slice none 0 0, .slice none 0 0, .slice none 0 0, .slice none 0 0], .agg #[.slice none 0 0, .slice none 0 0, .slice none 0 0, .string ⟨#[]⟩, .bool false, .slice none 0 0], .int .i64 0], []⟩ 8 (by kernel_rfl) (by kernel_rfl) (by kernel_rfl) (by kernel_rfl)) ?_
  intro W base args ds gs before hval0 hW hcnd hwt _
  have hval : ∀ (j : Nat) t v, Try.f11.params[j]? = some t → args[j]? = some v → Value.okWide Try.prog W .any base t v := hval0
  have hW' := hW
  obtain ⟨p, q, hA0, hV, rfl, hfz, hnd⟩ := hW
  have hA : DataW.TrodAll enc Try.prog W 0 (fun _ => true) true Try.f11.params.toList args.toList ds p := hA0
  rw [Try.params11] at hA hval
  obtain ⟨v0, v1, v2, d0, d1, d2, p0, p1, p2, rfl, rfl, rfl, h0, h1, h2⟩ := trodAll_three hA
  obtain ⟨rfl, rfl⟩ := trodVars_none hV
  have hwt' : (DataW.weightsEach Try.prog [28, 33, 3] [d0, d1, d2]).all (· ≤ reachBytes) = true := hwt
  obtain ⟨c, vS, vT, vB, vD, vI, rfl, hrows⟩ := chart_of_trod h0 (hval 0 28 v0 rfl rfl) (weights_mem hwt' 0 28 d0 rfl rfl)
  obtain ⟨cfg, ts, mem, nm, ev, n4, A1, A2, A3, A4, d1', d2', d3', d4', rfl, hC, hT, hTw, hM, hnm, hn4⟩ := move_of_trod h1 (hval 1 33 v1 rfl rfl) (weights_mem hwt' 1 33 d1 rfl rfl)
  obtain ⟨t, rfl, htw⟩ := int_of_trod h2 (hval 2 3 v2 rfl rfl)
  have hlt : ∀ x ∈ (p0 ++ p1 ++ p2) ++ [], x.block < W.heap.size := fun x hx => hW'.lt x hx
  clear hA0 hval0
  refine (one_law W c vS vT vB vD vI cfg ts mem nm ev n4 A1 A2 A3 A4 d1' d2' d3' d4' hrows hC hT hTw hM hnm hn4 t htw).mono fun e W' ⟨he, hf⟩ => ?_
  subst he
  exact ⟨_, rfl, post_below (pa := p0 ++ (p1 ++ p2)) (pv := []) hW' (fun _ _ _ => trodAll_mk1 (shut_bool Try.underlying4 true))
    (fun sp hsp => trodAll_mk3 (trod_below Try.laidOut (by kernel_rfl) (of_decide_eq_true (by kernel_rfl)) h0 hf.below (fun x hx => hlt x (by simp [hx])) sp (fun x hx => hsp x (by simp [hx]))) (trod_below Try.laidOut (by kernel_rfl) (of_decide_eq_true (by kernel_rfl)) h1 hf.below (fun x hx => hlt x (by simp [hx])) sp (fun x hx => hsp x (by simp [hx]))) (trod_below Try.laidOut (by kernel_rfl) (of_decide_eq_true (by kernel_rfl)) h2 hf.below (fun x hx => hlt x (by simp [hx])) sp (fun x hx => hsp x (by simp [hx])))) (fun _ _ => rfl) (by simp) hf.below
    (ok_one (by kernel_rfl) rfl (okWide_bool_mk Try.underlying4 true))⟩

theorem chooseOne_holds : Rows.ChooseOneSaid :=
  OpenClaim.holds_of_wide 11 Try.f11 rfl rfl rfl rfl rfl rfl rfl ⟨rfl, rfl, rfl, rfl, rfl⟩ rfl rfl rfl rfl rfl (by kernel_rfl) Try.func11 (by kernel_rfl)
    (of_decide_eq_true (by kernel_rfl)) (by unfold Func.isWrapper; first | (rw [if_pos (by decide +kernel)]; kernel_rfl) | (rw [if_neg (by decide +kernel)]; exact ⟨rfl, rfl⟩))
    (fun os started H enc _ => chooseOne_lifted os started H enc)
end Go.Proofs.Ytekfbafljilchaa
