/- For every list of delays ClockSorts returns true, and the list reads as it did. No condition. -/
import Derived.Test.YtifjablnplpfnaaL0
import Derived.Test.YtifjablnplpfnaaD1
set_option linter.unusedVariables false
set_option linter.unusedSimpArgs false
namespace Go.Proofs.Ytifjablnplpfnaa
open Go.ChangeShapes Go.WideShapes Go.ChangeAt Go.RowKit Go.WideElems

theorem cells53 : Try.prog.cellsOf 53 = 1 := by kernel_rfl
theorem wf_u16 {n : Int} (h : (Lit.int .u16 n).wf = true) : 0 ≤ n ∧ n ≤ 65535 := by
  simp [Lit.wf, IntKind.min, IntKind.max, IntKind.signed, IntKind.bits] at h
  omega

theorem ru_of_trod {H : Type} {enc : TypeId × Value → H} {W : World} {v : Value} {d : DataW H} {p : List MemPlace} {base : Nat} (h : DataW.Trod enc Try.prog W 0 (fun _ => true) true 52 v d p) (hok : Value.okWide Try.prog W .any base 52 v) : ∃ ds, RU W v ds := by
  obtain ⟨a0, len, cap, rfl⟩ := okWide_slice Try.underlying52 hok
  obtain ⟨fuel, hf⟩ := h
  rcases open_ints Try.underlying52 Try.underlying53 cells53 hf with ⟨hcs, hx⟩ | ⟨a, len', cap', zs, hcs, _, hl, hm, hz, hx, hcell, hwz⟩
  · simp [Value.cells] at hcs
    obtain ⟨rfl, rfl, rfl⟩ := hcs
    exact ⟨[], none, 0, rfl, by simp, fun j h => absurd h (by simp)⟩
  · simp [Value.cells] at hcs
    obtain ⟨rfl, rfl, rfl⟩ := hcs
    simp at hz
    refine ⟨zs.take len, some a, cap, by simp; omega, by simp [maxLen] at hm ⊢; omega, fun j hj => ?_⟩
    simp at hj
    have hj' : j < zs.length := by omega
    have h0 := hcell 0 (by omega)
    have h1 := hcell j hj'
    obtain ⟨b, o, sp⟩ := a
    obtain rfl : sp = none := by
      simp only [Addr.add, if_true] at h0
      cases sp with
      | none => rfl
      | some x => simp [World.cell?] at h0; split at h0 <;> simp at h0
    have hw := hwz zs[j] (List.getElem_mem hj')
    obtain ⟨w0, w1⟩ := wf_u16 hw
    refine ⟨by simpa using w0, by simpa using w1, b, o, rfl, ?_⟩
    rw [plain_add'] at h1
    rw [h1]
    simp [List.getElem?_eq_getElem hj']

set_option maxRecDepth 100000 in
theorem sorts_lifted (os : Os) (started : os.Started) (H : Type) (enc : TypeId × Value → H) :
    ReturnsInHanded {} Try.checked os 6 .any (Rows.clockSortsSpec.pre6 enc Try.prog Try.f6 Rows.clockSortsRow.domain false) (Rows.clockSortsSpec.post enc Try.prog Try.f6 false true false false) := by
  refine returnsInHanded_of_change (C := Try.checked) Try.own started (by kernel_rfl) Try.func6
    (ChangeSpec.witness6 (enc := enc) (C := Try.checked) false ⟨#[], #[.slice none 0 0], []⟩ 8 (by kernel_rfl) (by kernel_rfl) (by kernel_rfl) (by kernel_rfl)) ?_
  intro W base args ds gs before hval0 hW hcnd _
  have hval : ∀ (j : Nat) t v, Try.f6.params[j]? = some t → args[j]? = some v → Value.okWide Try.prog W .any base t v := hval0
  have hW' := hW
  obtain ⟨p, q, hA0, hV, rfl, hfz, hnd⟩ := hW
  have hA : DataW.TrodAll enc Try.prog W 0 (fun _ => true) true Try.f6.params.toList args.toList ds p := hA0
  rw [Try.params6] at hA hval
  obtain ⟨v0, d0, rfl, rfl, h0⟩ := trodAll_one hA
  obtain ⟨rfl, rfl⟩ := trodVars_none hV
  obtain ⟨zs, hz⟩ := ru_of_trod h0 (hval 0 52 v0 rfl rfl)
  have hlt : ∀ x ∈ p ++ [], x.block < W.heap.size := fun x hx => hW'.lt x hx
  clear hA0 hval0
  refine (sorts_any W v0 zs hz).mono fun e W' ⟨he, hf⟩ => ?_
  subst he
  exact ⟨_, rfl, post_below (pa := p) (pv := []) hW' (fun _ _ _ => trodAll_mk1 (shut_bool Try.underlying4 true)) (fun sp hsp => trodAll_mk1 (trod_below Try.laidOut (by kernel_rfl) (of_decide_eq_true (by kernel_rfl)) h0 hf.below (fun x hx => hlt x (by simpa using hx)) sp (fun x hx => hsp x (by simpa using hx)))) (fun _ _ => rfl) rfl hf.below
    (ok_one (by kernel_rfl) rfl (okWide_bool_mk Try.underlying4 true))⟩

theorem clockSorts_holds : Rows.ClockSortsSaid :=
  OpenClaim.holds_of_wide 6 Try.f6 rfl rfl rfl rfl rfl rfl rfl ⟨rfl, rfl, rfl, rfl, rfl⟩ rfl rfl rfl rfl rfl (by kernel_rfl) Try.func6 (by kernel_rfl)
    (of_decide_eq_true (by kernel_rfl)) (by unfold Func.isWrapper; first | (rw [if_pos (by decide +kernel)]; kernel_rfl) | (rw [if_neg (by decide +kernel)]; exact ⟨rfl, rfl⟩))
    (fun os started H enc _ => sorts_lifted os started H enc)
end Go.Proofs.Ytifjablnplpfnaa
