/- lattice.cloneLoad. -/
import Derived.Test.YtekfbafljilchaaA2
import Derived.Deep.RegionHeld3
import Derived.Deep.DrawnRows
set_option linter.unusedVariables false
set_option linter.unusedSimpArgs false
namespace Go.Proofs.Ytekfbafljilchaa
open Go.RowKit Go.Lib

/-- New blocks of these types. -/
def NT (B : Nat) (T : List Nat) (w : World) (k : Nat) : Prop := B ≤ k ∧ ∃ c t, t ∈ T ∧ Blk w k c t
theorem NT.fr {B : Nat} {T S : List Nat} {w w' : World} (f : Fr S w w') (hS : ∀ k, k ∈ S → ¬ NT B T w k) : ∀ k, NT B T w k → k < w.heap.size → NT B T w' k ∧ w'.heap[k]? = w.heap[k]? := by
  intro k hk hlt
  have hb := f.block k hlt (fun hm => hS k hm hk)
  obtain ⟨h1, c, t, ht, h2⟩ := hk
  exact ⟨⟨h1, c, t, ht, hb.trans h2⟩, hb⟩
theorem NT.fr0 {B : Nat} {T : List Nat} {w w' : World} (f : Fr [] w w') : ∀ k, NT B T w k → k < w.heap.size → NT B T w' k ∧ w'.heap[k]? = w.heap[k]? := NT.fr f (fun k hk => by cases hk)
theorem NT.wide {B B' : Nat} {T T' : List Nat} {w : World} (hB : B' ≤ B) (hT : ∀ t, t ∈ T → t ∈ T') : ∀ k, NT B T w k → k < w.heap.size → NT B' T' w k ∧ w.heap[k]? = w.heap[k]? := by
  rintro k ⟨h1, c, t, ht, h2⟩ _
  exact ⟨⟨Nat.le_trans hB h1, c, t, hT t ht, h2⟩, rfl⟩
theorem NT.not {B : Nat} {T : List Nat} {w : World} {k : Nat} {c : Array Value} {t : TypeId} (hb : Blk w k c t) (ht : t ∉ T) : ¬ NT B T w k := by
  rintro ⟨_, c', t', h1, h2⟩
  have e := Option.some.inj ((Eq.symm hb).trans h2)
  injection e with _ e
  exact ht (e ▸ h1)
theorem NT.own {w : World} {base n : Nat} {t size B : Nat} {T : List Nat} {v : Value} {xs : List Value} (h : w.ownsRow base t size v n xs) (hB : B ≤ base) (ht : t ∈ T) : ∀ k, base ≤ k → k < w.heap.size → v.ownBlock = some k → NT B T w k := by
  intro k h1 _ hk
  rcases h.2 with ⟨rfl, _⟩ | ⟨g, cap, cur, rfl, hb, hg, _⟩
  · simp [Value.ownBlock] at hk
  · simp [Value.ownBlock] at hk
    subst hk
    exact ⟨by omega, cur, t, ht, hg⟩

/-- What cloneLoad comes to. -/
def LoadPost (p : Nat → Prop) (w : World) (k : Int) (l : List DPar) (b : ByteArray) (e : Ending) (w' : World) : Prop :=
  ∃ A c, e = .returned (.agg #[.int .i64 k, .slice A l.length c, .string b]) ∧ Fr [] w w' ∧ Sl rPar (NT w.heap.size [130] w') w' (.slice A l.length c) l

set_option maxHeartbeats 1000000 in
theorem cloneLoad_any (w : World) (p : Nat → Prop) (k : Int) (v : Value) (l : List DPar) (b : ByteArray) (h : Sl rPar p w v l) :
    Calls Try.prog 84 #[.agg #[.int .i64 k, v, .string b]] w (LoadPost p w k l b) := by
  obtain ⟨A, c, rfl, hc⟩ := h.form
  have hreach := Lib.hid h.reach
  have hf1 : Fr [] w ((w.alloc (.cells #[.int .i64 k, .slice A l.length c, .string b] 48)).alloc (.cells #[.int .i64 0, .slice none 0 0, .string ⟨#[]⟩] 48)) := ((Fr.refl [] w).alloc _).alloc _
  have hcl := clone_par _ (fun _ => True) _ l (h.fr (q := fun _ => True) (fun k _ hk => ⟨trivial, hf1.block k hk (by simp)⟩))
  clear h
  go_enter Try.func84, Try.ntmps84
  go_wp2_with fail
  refine hcl.mono ?_
  rintro e w1 ⟨v', css, rfl, f1, ho, hR⟩
  have hb : Blk w1 w.heap.size #[.int .i64 k, .slice A l.length c, .string b] 48 := ((Blk.new w #[.int .i64 k, .slice A l.length c, .string b] 48).alloc (.cells #[.int .i64 0, .slice none 0 0, .string ⟨#[]⟩] 48)).fr f1 (by simp)
  have hb2 : Blk w1 (w.heap.size + 1) #[.int .i64 0, .slice none 0 0, .string ⟨#[]⟩] 48 := by
    have := (Blk.new (w.alloc (.cells #[.int .i64 k, .slice A l.length c, .string b] 48)) #[.int .i64 0, .slice none 0 0, .string ⟨#[]⟩] 48).fr f1 (by simp)
    simpa using this
  have hlt := hb.lt
  have hlt2 := hb2.lt
  have hc0 := hb.cell 0
  have hc1 := hb.cell 1
  have hc2 := hb.cell 2
  have hd0 := hb2.cell 0
  have hd1 := hb2.cell 1
  have hd2 := hb2.cell 2
  simp at hc0 hc1 hc2 hd0 hd1 hd2
  have hff := hb.free
  have hff2 := hb2.free
  obtain ⟨A', c', rfl⟩ := own_slice ho
  have HO := Lib.hid ho
  have HR := Lib.hid hR
  have HB := hb
  have HB2 := hb2
  clear ho hR hb hb2 hcl
  go_wp2
  have hS : Sl rPar (NT w.heap.size [130] w1) w1 (.slice A' l.length c') l := by
    refine sl_of_own HO.out ⟨HR.out.1, fun j cs x h1 h2 => HR.out.2 j cs x h1 h2⟩ hreach.out (NT.own HO.out (by simp; omega) (by simp))
  have hfin : Fr [w.heap.size, w.heap.size + 1] w1 ((((w1.setCell ⟨w.heap.size, 1, none⟩ (.slice A' l.length c')).setCell ⟨w.heap.size + 1, 0, none⟩ (.int .i64 k)).setCell ⟨w.heap.size + 1, 1, none⟩ (.slice A' l.length c')).setCell ⟨w.heap.size + 1, 2, none⟩ (.string b)) :=
    ((((Fr.refl _ w1).setCell (by simp) _).setCell (by simp) _).setCell (by simp) _).setCell (by simp) _
  refine bodyPost_ret (v := .agg #[.int .i64 k, .slice A' l.length c', .string b]) (by simp [results, Try.results84, go_sem, hc0, hc1, hc2, hd0, hd1, hd2]) rfl ⟨A', c', rfl, ?_, ?_⟩
  · exact ((hf1.trans' f1).trans hfin (fun x hx hxl => by simp at hx; omega))
  · exact hS.fr (NT.fr hfin (fun x hx => by
      rcases List.mem_cons.1 hx with rfl | hx
      · exact NT.not HB (by simp)
      · obtain rfl := List.mem_singleton.1 hx
        exact NT.not HB2 (by simp)))
end Go.Proofs.Ytekfbafljilchaa
