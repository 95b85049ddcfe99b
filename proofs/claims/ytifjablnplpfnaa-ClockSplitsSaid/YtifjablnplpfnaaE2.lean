/- For every script and every two steps ClockSplits returns true, and the arguments read as they did. No condition. -/
import Derived.Test.YtifjablnplpfnaaL1
import Derived.Test.YtifjablnplpfnaaF2
set_option linter.unusedVariables false
set_option linter.unusedSimpArgs false
namespace Go.Proofs.Ytifjablnplpfnaa
open Go.ChangeShapes Go.WideShapes Go.ChangeAt Go.RowKit Go.WideElems

theorem u32_of_trod {H : Type} {enc : TypeId × Value → H} {W : World} {v : Value} {d : DataW H} {p : List MemPlace} {base : Nat} (h : DataW.Trod enc Try.prog W 0 (fun _ => true) true 46 v d p) (hok : Value.okWide Try.prog W .any base 46 v) : ∃ a, v = .int .u32 a ∧ 0 ≤ a ∧ a ≤ 4294967295 := by
  obtain ⟨a, rfl, _, _, hw⟩ := open_int Try.underlying46 hok h
  have := wf_u32b hw
  exact ⟨a, rfl, this.1, this.2⟩

set_option maxRecDepth 100000 in
theorem splits_lifted (os : Os) (started : os.Started) (H : Type) (enc : TypeId × Value → H) :
    ReturnsInHanded {} Try.checked os 4 .any (Rows.clockSplitsSpec.pre6 enc Try.prog Try.f4 Rows.clockSplitsRow.domain false) (Rows.clockSplitsSpec.post enc Try.prog Try.f4 false true false false) := by
  refine returnsInHanded_of_change (C := Try.checked) Try.own started (by kernel_rfl) Try.func4
    (ChangeSpec.witness6 (enc := enc) (C := Try.checked) false ⟨#[], #[.slice none 0 0, .int .u32 0, .int .u32 0], []⟩ 8 (by kernel_rfl) (by kernel_rfl) (by kernel_rfl) (by kernel_rfl)) ?_
  intro W base args ds gs before hval0 hW hcnd _
  have hval : ∀ (j : Nat) t v, Try.f4.params[j]? = some t → args[j]? = some v → Value.okWide Try.prog W .any base t v := hval0
  have hW' := hW
  obtain ⟨p, q, hA0, hV, rfl, hfz, hnd⟩ := hW
  have hA : DataW.TrodAll enc Try.prog W 0 (fun _ => true) true Try.f4.params.toList args.toList ds p := hA0
  rw [Try.params4] at hA hval
  obtain ⟨v0, v1, v2, d0, d1, d2, p0, p1, p2, rfl, rfl, rfl, h0, h1, h2⟩ := trodAll_three hA
  obtain ⟨rfl, rfl⟩ := trodVars_none hV
  obtain ⟨xs, hxs⟩ := rc_of_trod h0 (hval 0 22 v0 rfl rfl)
  obtain ⟨a, rfl, ha0, ha1⟩ := u32_of_trod h1 (hval 1 46 v1 rfl rfl)
  obtain ⟨b, rfl, hb0, hb1⟩ := u32_of_trod h2 (hval 2 46 v2 rfl rfl)
  have hlt : ∀ x ∈ (p0 ++ p1 ++ p2) ++ [], x.block < W.heap.size := fun x hx => hW'.lt x hx
  clear hA0 hval0
  refine (splits_any W v0 xs hxs a b ha0 ha1 hb0 hb1).mono fun e W' ⟨he, hf⟩ => ?_
  subst he
  exact ⟨_, rfl, post_below (pa := p0 ++ (p1 ++ p2)) (pv := []) hW' (fun _ _ _ => trodAll_mk1 (shut_bool Try.underlying4 true))
    (fun sp hsp => trodAll_mk3 (trod_below Try.laidOut (by kernel_rfl) (of_decide_eq_true (by kernel_rfl)) h0 hf.below (fun x hx => hlt x (by simp [hx])) sp (fun x hx => hsp x (by simp [hx])))
      (trod_below Try.laidOut (by kernel_rfl) (of_decide_eq_true (by kernel_rfl)) h1 hf.below (fun x hx => hlt x (by simp [hx])) sp (fun x hx => hsp x (by simp [hx])))
      (trod_below Try.laidOut (by kernel_rfl) (of_decide_eq_true (by kernel_rfl)) h2 hf.below (fun x hx => hlt x (by simp [hx])) sp (fun x hx => hsp x (by simp [hx])))) (fun _ _ => rfl) (by simp) hf.below
    (ok_one (by kernel_rfl) rfl (okWide_bool_mk Try.underlying4 true))⟩

theorem clockSplits_holds : Rows.ClockSplitsSaid :=
  OpenClaim.holds_of_wide 4 Try.f4 rfl rfl rfl rfl rfl rfl rfl ⟨rfl, rfl, rfl, rfl, rfl⟩ rfl rfl rfl rfl rfl (by kernel_rfl) Try.func4 (by kernel_rfl)
    (of_decide_eq_true (by kernel_rfl)) (by unfold Func.isWrapper; first | (rw [if_pos (by decide +kernel)]; kernel_rfl) | (rw [if_neg (by decide +kernel)]; exact ⟨rfl, rfl⟩))
    (fun os started H enc _ => splits_lifted os started H enc)
end Go.Proofs.Ytifjablnplpfnaa
