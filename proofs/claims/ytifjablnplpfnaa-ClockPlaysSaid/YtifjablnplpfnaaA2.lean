/- The closures of clock: the three 'gone' and take's own. -/
import Derived.Test.YtifjablnplpfnaaA1
set_option linter.unusedVariables false
set_option linter.unusedSimpArgs false
namespace Go.Proofs.Ytifjablnplpfnaa
open Go.RowKit Go.Lib

/-- These blocks hold these cells. -/
def Blks (w : World) (L : List (Nat × Array Value × TypeId)) : Prop := ∀ x, x ∈ L → Blk w x.1 x.2.1 x.2.2
theorem Blks.fr {w w' : World} {L : List (Nat × Array Value × TypeId)} {S : List Nat} (h : Blks w L) (f : Fr S w w') (hn : ∀ x, x ∈ L → x.1 ∉ S) : Blks w' L :=
  fun x hx => (h x hx).fr f (hn x hx)

/-- A predicate on timers that lays boxes of its own and turns nothing else, as long as the blocks L hold what they hold. -/
def GoneOK (fv : Nat) (lb : Array Value) (p : Tm → Bool) (L : List (Nat × Array Value × TypeId)) : Prop :=
  (∀ args w, (callFunc fv args).run Try.prog w = .ok (.enter fv args) w) ∧
  ∀ (t : Tm) (W : World), Blks W L → Calls Try.prog fv (#[t.val] ++ lb) W fun e w' => e = .returned (.bool (p t)) ∧ Fr [] W w'

theorem drop_gone (b : Nat) (ow : Int) (ty : TypeId) : GoneOK 30 #[.pointer (some ⟨b, 0, none⟩)] (fun t => t.o == ow) [(b, #[.int .i64 ow], ty)] := by
  refine ⟨enters_of Try.func30 (by kernel_rfl) rfl, fun t W hL => ?_⟩
  have hB := hL _ (List.mem_singleton.2 rfl)
  have hb : b < W.heap.size := hB.lt
  have hc := hB.cell 0
  simp at hc
  clear hB hL
  show Calls Try.prog 30 #[t.val, .pointer (some ⟨b, 0, none⟩)] W _
  unfold Tm.val
  go_enter Try.func30, Try.ntmps30
  go_wp2
  go_ret
  exact ⟨rfl, (Fr.refl _ _).alloc _⟩

theorem cancel_gone (b : Nat) (ow : Int) (ty : TypeId) (b2 : Nat) (id : ByteArray) (ty2 : TypeId) :
    GoneOK 29 #[.pointer (some ⟨b, 0, none⟩), .pointer (some ⟨b2, 0, none⟩)] (fun t => t.o == ow && t.i.toList == id.toList) [(b, #[.int .i64 ow], ty), (b2, #[.string id], ty2)] := by
  refine ⟨enters_of Try.func29 (by kernel_rfl) rfl, fun t W hL => ?_⟩
  have hB := hL _ (List.mem_cons_self ..)
  have hB2 := hL _ (List.mem_cons_of_mem _ (List.mem_cons_self ..))
  have hb : b < W.heap.size := hB.lt
  have hb2 : b2 < W.heap.size := hB2.lt
  have hc := hB.cell 0
  have hc2 := hB2.cell 0
  simp at hc hc2
  clear hB hB2 hL
  show Calls Try.prog 29 #[t.val, .pointer (some ⟨b, 0, none⟩), .pointer (some ⟨b2, 0, none⟩)] W _
  unfold Tm.val
  by_cases e : t.o = ow
  · go_enter Try.func29, Try.ntmps29
    have e' : (t.o == ow) = true := by simp [e]
    go_wp2
    go_ret
    exact ⟨by simp [e], (Fr.refl _ _).alloc _⟩
  · have e' : (t.o == ow) = false := by simp [e]
    go_enter Try.func29, Try.ntmps29
    go_wp2
    go_ret
    exact ⟨by simp [e], (Fr.refl _ _).alloc _⟩

theorem tick_gone (bc gc : Nat) (now : Int) (v : Value) (ty : TypeId) :
    GoneOK 27 #[.pointer (some ⟨bc, 0, none⟩)] (fun t => decide (t.d ≤ now)) [(bc, #[.pointer (some ⟨gc, 0, none⟩)], ty), (gc, #[.int .i64 now, v], 59)] := by
  refine ⟨enters_of Try.func27 (by kernel_rfl) rfl, fun t W hL => ?_⟩
  have hB := hL _ (List.mem_cons_self ..)
  have hB2 := hL _ (List.mem_cons_of_mem _ (List.mem_cons_self ..))
  have hb : bc < W.heap.size := hB.lt
  have hb2 : gc < W.heap.size := hB2.lt
  have hc := hB.cell 0
  have hc2 := hB2.cell 0
  simp at hc hc2
  clear hB hB2 hL
  show Calls Try.prog 27 #[t.val, .pointer (some ⟨bc, 0, none⟩)] W _
  unfold Tm.val
  go_enter Try.func27, Try.ntmps27
  go_wp2
  go_quiet (fail)
  go_wp2
  go_ret
  exact ⟨rfl, ((Fr.refl _ _).alloc _).drewN _⟩

end Go.Proofs.Ytifjablnplpfnaa
