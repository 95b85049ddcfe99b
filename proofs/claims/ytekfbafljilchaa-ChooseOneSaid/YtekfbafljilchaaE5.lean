/- lattice.New (printed in part by gen5.py). -/
import Derived.Test.YtekfbafljilchaaC1
import Derived.Test.YtekfbafljilchaaE1
import Derived.Test.YtekfbafljilchaaE6
set_option linter.unusedVariables false
set_option linter.unusedSimpArgs false
namespace Go.Proofs.Ytekfbafljilchaa
open Go.RowKit Go.Lib

def NewPost (W : World) (c : DChart) (e : Ending) (w' : World) : Prop :=
  Fr [] W w' ∧ (newB c = false ∧ e = .returned (.tuple #[.pointer none, .int .i64 140]) ∨ newB c = true ∧ ∃ g, e = .returned (.tuple #[.pointer (some ⟨g, 0, none⟩), .int .i64 0]) ∧ W.heap.size ≤ g ∧ Lat (fun k => W.heap.size ≤ k) w' g c)
set_option maxRecDepth 100000 in
theorem info31 : (Try.prog.info? 31).map (fun i => (i.zero, i.size, i.bytes)) = some (some (.slice none 0 0), 1, 24) := by kernel_rfl

theorem head_cases (c : DChart) : headB c = false ∧ ((c.states.length : Int) < 2 ∨ ¬ (c.states.length : Int) < 2 ∧ (128 : Int) < (c.states.length : Int) ∨ ¬ (c.states.length : Int) < 2 ∧ ¬ (128 : Int) < (c.states.length : Int) ∧ (256 : Int) < (c.trans.length : Int) ∨ ¬ (c.states.length : Int) < 2 ∧ ¬ (128 : Int) < (c.states.length : Int) ∧ ¬ (256 : Int) < (c.trans.length : Int) ∧ ((knd c 0 != 0) = true ∨ (knd c 0 != 0) = false ∧ (par c 0 != -1) = true)) ∨
      headB c = true ∧ ¬ (c.states.length : Int) < 2 ∧ ¬ (128 : Int) < (c.states.length : Int) ∧ ¬ (256 : Int) < (c.trans.length : Int) ∧ (knd c 0 != 0) = false ∧ (par c 0 != -1) = false := by
  by_cases h : headB c = true
  · refine .inr ⟨h, ?_⟩
    simp only [headB, Bool.and_eq_true, decide_eq_true_eq, ns] at h
    obtain ⟨⟨⟨⟨h1, h2⟩, h3⟩, h4⟩, h5⟩ := h
    exact ⟨by omega, by omega, by omega, by simp [h4], by simp [h5]⟩
  · have h' : headB c = false := by simpa using h
    refine .inl ⟨h', ?_⟩
    by_cases h1 : (c.states.length : Int) < 2
    · exact .inl h1
    by_cases h2 : (128 : Int) < (c.states.length : Int)
    · exact .inr (.inl ⟨h1, h2⟩)
    by_cases h3 : (256 : Int) < (c.trans.length : Int)
    · exact .inr (.inr (.inl ⟨h1, h2, h3⟩))
    refine .inr (.inr (.inr ⟨h1, h2, h3, ?_⟩))
    by_cases h4 : knd c 0 = 0
    · refine .inr ⟨by simp [h4], ?_⟩
      have h5 : par c 0 ≠ -1 := fun h5 => h (by
        simp only [headB, Bool.and_eq_true, decide_eq_true_eq, ns]
        exact ⟨⟨⟨⟨by omega, by omega⟩, by omega⟩, h4⟩, h5⟩)
      simpa using h5
    · exact .inl (by simpa using h4)

theorem ok_cases (c : DChart) (k : Nat) : okB c k = false ∧ (knd c k < 1 ∨ ¬ knd c k < 1 ∧ 5 < knd c k ∨ ¬ knd c k < 1 ∧ ¬ 5 < knd c k ∧ par c k < 0 ∨ ¬ knd c k < 1 ∧ ¬ 5 < knd c k ∧ ∃ p : Nat, par c k = (p : Int) ∧ ((k : Int) ≤ (p : Int) ∨ ¬ (k : Int) ≤ (p : Int) ∧ p < k ∧ 2 < knd c p)) ∨
      okB c k = true ∧ ¬ knd c k < 1 ∧ ¬ 5 < knd c k ∧ ∃ p : Nat, par c k = (p : Int) ∧ ¬ (k : Int) ≤ (p : Int) ∧ p < k ∧ ¬ 2 < knd c p ∧ up c k = p := by
  by_cases h : okB c k = true
  · refine .inr ⟨h, ?_⟩
    obtain ⟨h1, h2, h3, h4, h5⟩ := okB_iff.1 h
    have hu : par c k = (up c k : Int) := by unfold up; omega
    exact ⟨by omega, by omega, up c k, hu, by omega, by omega, by omega, rfl⟩
  · have h' : okB c k = false := by simpa using h
    refine .inl ⟨h', ?_⟩
    by_cases h1 : knd c k < 1
    · exact .inl h1
    by_cases h2 : 5 < knd c k
    · exact .inr (.inl ⟨h1, h2⟩)
    by_cases h3 : par c k < 0
    · exact .inr (.inr (.inl ⟨h1, h2, h3⟩))
    have hu : par c k = (up c k : Int) := by unfold up; omega
    refine .inr (.inr (.inr ⟨h1, h2, up c k, hu, ?_⟩))
    by_cases h4 : (k : Int) ≤ (up c k : Int)
    · exact .inl h4
    refine .inr ⟨h4, by omega, ?_⟩
    by_cases h5 : knd c (up c k) ≤ 2
    · exact absurd (okB_iff.2 ⟨by omega, by omega, by omega, by omega, h5⟩) h
    · omega
theorem map_row_set (l : List Bool) (p : Nat) : ((l.map Value.bool).toArray.setIfInBounds p (.bool true)) = ((l.set p true).map Value.bool).toArray := by
  simp [List.map_set]
theorem cell?_fr {w w' : World} {a : Addr} {v : Value} (f : Fr [] w w') (h : w.cell? a = some v) : w'.cell? a = some v :=
  (World.cell?_of_block (f.block a.block (World.block_lt_of_cell? w _ h) (by simp))).trans h

set_option maxRecDepth 100000 in
set_option maxHeartbeats 16000000 in
theorem new_any (W : World) (c : DChart) (vS vT vB vD vI : Value) (h : Rows8 (fun k => k < W.heap.size) W c vS vT vB vD vI) :
    Calls Try.prog 14 #[chartV c vS vT vB vD vI] W (NewPost W c) := by
  have HROWS0 := Lib.hid h
  obtain ⟨hS, hT, hB, hD, hI⟩ := h
  obtain ⟨As, cs, rfl, _⟩ := hS.form
  obtain ⟨At, ct, rfl, _⟩ := hT.form
  obtain ⟨Ab, cb, rfl, _⟩ := hB.form
  obtain ⟨Ad, cd, rfl, _⟩ := hD.form
  obtain ⟨Ai, ci, rfl, _⟩ := hI.form
  have lS := hS.len
  have lT := hT.len
  have HSS := Lib.hid hS
  have hbx := Lib.hid (Blk.new W #[.string c.name, .bool c.late, .int .i64 c.script, .slice As c.states.length cs, .slice At c.trans.length ct, .slice Ab c.blocks.length cb, .slice Ad c.data.length cd, .slice Ai c.invokes.length ci] 28)
  have hf0 := Lib.hid ((Fr.refl [] W).alloc (.cells #[.string c.name, .bool c.late, .int .i64 c.script, .slice As c.states.length cs, .slice At c.trans.length ct, .slice Ab c.blocks.length cb, .slice Ad c.data.length cd, .slice Ai c.invokes.length ci] 28))
  clear hS hT hB hD hI
  have hhead : headB c = false ∧ ((c.states.length : Int) < 2 ∨ ¬ (c.states.length : Int) < 2 ∧ (128 : Int) < (c.states.length : Int) ∨ ¬ (c.states.length : Int) < 2 ∧ ¬ (128 : Int) < (c.states.length : Int) ∧ (256 : Int) < (c.trans.length : Int) ∨ ¬ (c.states.length : Int) < 2 ∧ ¬ (128 : Int) < (c.states.length : Int) ∧ ¬ (256 : Int) < (c.trans.length : Int) ∧ ((knd c 0 != 0) = true ∨ (knd c 0 != 0) = false ∧ (par c 0 != -1) = true)) ∨
      headB c = true ∧ ¬ (c.states.length : Int) < 2 ∧ ¬ (128 : Int) < (c.states.length : Int) ∧ ¬ (256 : Int) < (c.trans.length : Int) ∧ (knd c 0 != 0) = false ∧ (par c 0 != -1) = false := head_cases c
  unfold chartV
  rcases hhead with ⟨hh, hbad⟩ | ⟨hh, q1, q2, q3, q4, q5⟩
  · have HZ := Lib.hid (new_no0 hh)
    clear hh
    rcases hbad with q1 | ⟨q1, q2⟩ | ⟨q1, q2, q3⟩ | ⟨q1, q2, q3, q4⟩
    case inr.inr.inr =>
      obtain ⟨gs, os, A3, d3, A5, d5, A6, d6, A7, d7, A8, d8, A9, d9, A11, d11, rfl, _, hgs, s0, s1, s2, _⟩ := HSS.out.state_at 0 (by omega)
      rw [st_at (i := 0) (by omega)] at s1 s2
      have s1' : W.cell? ⟨gs, os + 1, none⟩ = some (.int .i64 (knd c 0)) := by have h1 := s1; rw [Nat.zero_mul, Nat.add_zero] at h1; exact h1
      have s2' : W.cell? ⟨gs, os + 2, none⟩ = some (.int .i64 (par c 0)) := by have h1 := s2; rw [Nat.zero_mul, Nat.add_zero] at h1; exact h1
      have hz0 : (0 : Int) < (c.states.length : Int) := by omega
      clear s0 s1 s2
      rcases q4 with q4 | ⟨q4, q5⟩
      all_goals
        go_enter Try.func14, Try.ntmps14
        go_wp2
        go_ret2
        exact ⟨hf0.out, .inl ⟨HZ.out, rfl⟩⟩
    all_goals
      go_enter Try.func14, Try.ntmps14
      go_wp2
      go_ret2
      exact ⟨hf0.out, .inl ⟨HZ.out, rfl⟩⟩
  · have HH := Lib.hid hh
    clear hh
    have hn128 : c.states.length ≤ 128 := by omega
    have hn2 : 2 ≤ c.states.length := by omega
    have hmk := make29 c.states.length hn128
    have hmk4 := make4 c.states.length hn128
    obtain ⟨gs, os, A3, d3, A5, d5, A6, d6, A7, d7, A8, d8, A9, d9, A11, d11, rfl, _, hgs, s0, s1, s2, _⟩ := HSS.out.state_at 0 (by omega)
    rw [st_at (i := 0) (by omega)] at s1 s2
    have s1' : W.cell? ⟨gs, os + 1, none⟩ = some (.int .i64 (knd c 0)) := by have h1 := s1; rw [Nat.zero_mul, Nat.add_zero] at h1; exact h1
    have s2' : W.cell? ⟨gs, os + 2, none⟩ = some (.int .i64 (par c 0)) := by have h1 := s2; rw [Nat.zero_mul, Nat.add_zero] at h1; exact h1
    have hz0 : (0 : Int) < (c.states.length : Int) := by omega
    clear s0 s1 s2
    go_enter Try.func14, Try.ntmps14
    go_wp2
    refine new4 hn128 hbx.out ?_
    rintro u5 u43 u44 u45 u46 u47 w4 ⟨f4, z4, k4, l4, e5⟩
    obtain ⟨kb, hkb⟩ : ∃ kb, kb = (W.alloc (.cells #[.string c.name, .bool c.late, .int .i64 c.script, .slice (some ⟨gs, os, none⟩) c.states.length cs, .slice At c.trans.length ct, .slice Ab c.blocks.length cb, .slice Ad c.data.length cd, .slice Ai c.invokes.length ci] 28)).heap.size := ⟨_, rfl⟩
    rw [← hkb] at z4 k4 l4 e5
    obtain ⟨L, hL⟩ : ∃ L, L = kb + 1 := ⟨_, rfl⟩
    rw [← hL] at l4 e5
    subst e5
    have hkb2 : kb = W.heap.size + 1 := by rw [hkb]; simp
    have hkW : W.heap.size ≤ kb ∧ W.heap.size ≤ L ∧ kb < w4.heap.size ∧ L < w4.heap.size := by omega
    clear hkb hkb2 hL z4
    have HF4 := Lib.hid (hf0.out.trans' f4)
    have hch := hbx.out.fr f4 (by simp)
    have HCH := Lib.hid (hch.alloc (.cells (Array.replicate c.states.length (.slice none 0 0)) 29))
    have HLB := Lib.hid (l4.alloc (.cells (Array.replicate c.states.length (.slice none 0 0)) 29))
    have HTB : Hid (Tabs (w4.alloc (.cells (Array.replicate c.states.length (.slice none 0 0)) 29)) W.heap.size w4.heap.size kb (List.replicate c.states.length (.slice none 0 0)) (List.replicate c.states.length (.slice none 0 0)) (aRows c 0) (kRows c 0)) := Lib.hid ⟨by simpa using Blk.new w4 (Array.replicate c.states.length (.slice none 0 0)) 29, by simpa using k4.alloc (.cells (Array.replicate c.states.length (.slice none 0 0)) 29), by have := hkW.2.2.1; omega, by rw [aRows_len]; simp, by
      rw [aRows_zero, kRows_zero, List.replicate_append_replicate, List.replicate_append_replicate]
      exact Own2.nil _ _ _⟩
    have hc3 := hch.cell 3
    have hc4 := hch.cell 4
    simp at hc3 hc4
    have hcl := hch.lt
    have HFA := Lib.hid (HF4.out.alloc (.cells (Array.replicate c.states.length (.slice none 0 0)) 29))
    clear hch f4 k4 l4
    go_wp2
    go_loopg [53] c.states.length (fun gg s53 wr => ∃ k : Nat, k ≤ c.states.length ∧ c.states.length - k ≤ gg ∧ s53 = .int .i64 k ∧ Aside (Fr [] W wr) ∧ Aside (Blk wr W.heap.size #[.string c.name, .bool c.late, .int .i64 c.script, .slice (some ⟨gs, os, none⟩) c.states.length cs, .slice At c.trans.length ct, .slice Ab c.blocks.length cb, .slice Ad c.data.length cd, .slice Ai c.invokes.length ci] 28) ∧ Aside (Low c k) ∧
      Aside (∃ va F K, Blk wr (L) #[.string c.name, .bool c.late, .int .i64 c.script, .slice (some ⟨gs, os, none⟩) c.states.length cs, .slice At c.trans.length ct, .slice Ab c.blocks.length cb, .slice Ad c.data.length cd, .slice Ai c.invokes.length ci, va, .slice (some ⟨kb, 0, none⟩) c.states.length c.states.length] 87 ∧ AbT wr W.heap.size va k c ∧ Tabs wr W.heap.size w4.heap.size kb F K (aRows c k) (kRows c k)))
    case atStart => exact ⟨0, Nat.zero_le _, by omega, rfl, HFA.out, HCH.out, (show Aside _ from fun i h0 h => absurd h (Nat.not_lt_zero _)), (show Aside _ from ⟨_, _, _, HLB.out, AbT.nil _ _ _, HTB.out⟩)⟩
    case round =>
      obtain ⟨k, hk, hgk, rfl, hfr, hchk, hlow, hmem⟩ := hrel
      by_cases hkt : k < c.states.length
      · have hkz : (k : Int) < (c.states.length : Int) := by omega
        obtain ⟨va, F, K, hlb, hab, htb⟩ := hmem.out
        obtain ⟨gs2, os2, A3, d3, A5, d5, A6, d6, A7, d7, A8, d8, A9, d9, A11, d11, e9, _, hgs, s0, s1, s2, s3, s4, s5, s6, s7, s8, s9, s10, s11, s12, _⟩ := HSS.out.state_at k hkt
        injection e9 with e9
        injection e9 with e9 e10
        subst e9 e10
        rw [st_at hkt] at s0 s1 s2 s3 s4 s5 s6 s7 s8 s9 s10 s11 s12
        have mv : ∀ o, wr.cell? ⟨gs, o, none⟩ = W.cell? ⟨gs, o, none⟩ := fun o => World.cell?_of_block (hfr.out.block gs hgs (by simp))
        rw [← mv] at s0 s1 s2 s3 s4 s5 s6 s7 s8 s9 s10 s11 s12
        have hgsl : gs < wr.heap.size := Nat.lt_of_lt_of_le hgs hfr.out.size
        have t1' : wr.cell? ⟨gs, os + k * 13 + 1, none⟩ = some (.int .i64 (knd c k)) := s1
        have t2' : wr.cell? ⟨gs, os + k * 13 + 2, none⟩ = some (.int .i64 (par c k)) := s2
        obtain ⟨wo, rfl⟩ : ∃ wo : World, wo = wr := ⟨_, rfl⟩
        have F1 := Lib.hid (((Fr.refl [] wo).alloc (.cells #[.string (st c k).id, .int .i64 (knd c k), .int .i64 (par c k), .slice A3 (st c k).kids.length d3, .int .i64 (st c k).init, .slice A5 (st c k).entry.length d5, .slice A6 (st c k).exit.length d6, .slice A7 (st c k).trans.length d7, .slice A8 (st c k).data.length d8, .slice A9 (st c k).invokes.length d9, .int .i64 (st c k).done.kind, .slice A11 (st c k).done.params.length d11, .string (st c k).done.body] 50)).alloc (.cells (Array.replicate c.states.length (.bool false)) 4))
        have BS := Lib.hid ((Blk.new wo #[.string (st c k).id, .int .i64 (knd c k), .int .i64 (par c k), .slice A3 (st c k).kids.length d3, .int .i64 (st c k).init, .slice A5 (st c k).entry.length d5, .slice A6 (st c k).exit.length d6, .slice A7 (st c k).trans.length d7, .slice A8 (st c k).data.length d8, .slice A9 (st c k).invokes.length d9, .int .i64 (st c k).done.kind, .slice A11 (st c k).done.params.length d11, .string (st c k).done.body] 50).alloc (.cells (Array.replicate c.states.length (.bool false)) 4))
        have BA : Hid (Blk ((wo.alloc (.cells #[.string (st c k).id, .int .i64 (knd c k), .int .i64 (par c k), .slice A3 (st c k).kids.length d3, .int .i64 (st c k).init, .slice A5 (st c k).entry.length d5, .slice A6 (st c k).exit.length d6, .slice A7 (st c k).trans.length d7, .slice A8 (st c k).data.length d8, .slice A9 (st c k).invokes.length d9, .int .i64 (st c k).done.kind, .slice A11 (st c k).done.params.length d11, .string (st c k).done.body] 50)).alloc (.cells (Array.replicate c.states.length (.bool false)) 4)) (wo.heap.size + 1) (Array.replicate c.states.length (.bool false)) 4) := Lib.hid (by simpa using Blk.new (wo.alloc (.cells #[.string (st c k).id, .int .i64 (knd c k), .int .i64 (par c k), .slice A3 (st c k).kids.length d3, .int .i64 (st c k).init, .slice A5 (st c k).entry.length d5, .slice A6 (st c k).exit.length d6, .slice A7 (st c k).trans.length d7, .slice A8 (st c k).data.length d8, .slice A9 (st c k).invokes.length d9, .int .i64 (st c k).done.kind, .slice A11 (st c k).done.params.length d11, .string (st c k).done.body] 50)) (Array.replicate c.states.length (.bool false)) 4)
        clear mv s1 s2
        rcases Nat.eq_zero_or_pos k with hk0 | hk0
        · have HK0 := Lib.hid hk0
          clear hk0
          have HF := Lib.hid (hfr.out.trans' F1.out)
          have HCHN := Lib.hid (hchk.out.fr F1.out (by simp))
          have HLB := Lib.hid (hlb.fr F1.out (by simp))
          have HAB := Lib.hid (hab.fr F1.out (by simp))
          have HTB : Hid (Tabs _ W.heap.size w4.heap.size kb F K (aRows c (k + 1)) (kRows c (k + 1))) := Lib.hid (by
            have h := htb.fr F1.out (by simp) (by simp) (by simp)
            have e1 : aRows c (k + 1) = aRows c k := by rw [HK0.out]; exact aRows_first c
            have e2 : kRows c (k + 1) = kRows c k := by rw [HK0.out]; exact kRows_first c
            rw [e1, e2]
            exact h)
          have HBA : Hid (Blk _ (wo.heap.size + 1) ((row c k).map Value.bool).toArray 4) := Lib.hid (by
            have h := BA.out
            rw [HK0.out, row_zero]
            simpa using h)
          have HLW : Hid (Low c (k + 1)) := Lib.hid (hlow.out.next (fun h => absurd h (by rw [HK0.out]; omega)))
          have hnz : ¬ (0 : Int) < (k : Int) := by rw [HK0.out]; omega
          have hnb := heap_alloc_new ((wo.alloc (.cells #[.string (st c k).id, .int .i64 (knd c k), .int .i64 (par c k), .slice A3 (st c k).kids.length d3, .int .i64 (st c k).init, .slice A5 (st c k).entry.length d5, .slice A6 (st c k).exit.length d6, .slice A7 (st c k).trans.length d7, .slice A8 (st c k).data.length d8, .slice A9 (st c k).invokes.length d9, .int .i64 (st c k).done.kind, .slice A11 (st c k).done.params.length d11, .string (st c k).done.body] 50)).alloc (.cells (Array.replicate c.states.length (.bool false)) 4)) (.cells #[.slice (some ⟨wo.heap.size + 1, 0, none⟩) c.states.length c.states.length] 31)
          rw [show ((wo.alloc (.cells #[.string (st c k).id, .int .i64 (knd c k), .int .i64 (par c k), .slice A3 (st c k).kids.length d3, .int .i64 (st c k).init, .slice A5 (st c k).entry.length d5, .slice A6 (st c k).exit.length d6, .slice A7 (st c k).trans.length d7, .slice A8 (st c k).data.length d8, .slice A9 (st c k).invokes.length d9, .int .i64 (st c k).done.kind, .slice A11 (st c k).done.params.length d11, .string (st c k).done.body] 50)).alloc (.cells (Array.replicate c.states.length (.bool false)) 4)).heap.size = wo.heap.size + 1 + 1 from by simp] at hnb
          clear hlb hab htb
          have hAB := HAB.out
          obtain ⟨css, hown, hR⟩ := hAB
          have HOWN := Lib.hid hown
          have HR := Lib.hid hR
          have HVA : Hid (∀ b, va.ownBlock = some b → W.heap.size ≤ b ∧ ∃ d, Blk _ b d 31) := Lib.hid (fun b hb => own_blk3 hown hb)
          have HAP := Lib.hid (HOWN.out.alloc (.cells #[.slice (some ⟨wo.heap.size + 1, 0, none⟩) c.states.length c.states.length] 31))
          have HL1 := HLB.out
          have l8 := HL1.cell 8
          simp at l8
          have hll := HL1.lt
          have l8a := (HL1.alloc (.cells #[.slice (some ⟨wo.heap.size + 1, 0, none⟩) c.states.length c.states.length] 31))
          have HLA := Lib.hid l8a
          obtain ⟨i0, hi0, hz0, hz1, hz2⟩ := info_parts info31
          have hBw := (HF.out.alloc (.cells #[.slice (some ⟨wo.heap.size + 1, 0, none⟩) c.states.length c.states.length] 31)).size
          clear hown hR HL1 l8a
          have HNB := Lib.hid hnb
          clear hnb
          go_wp2_with (at_builtin; refine wpList_append_lies _ rfl _ _ 85 rfl W.heap.size 31 i0 _ 1 24 Try.underlying85 hi0 hz0 hz1 hz2 rfl (by decide) va k css.flatten rfl HAP.out ⟨_, 0, none⟩ 1 1 [.slice (some ⟨wo.heap.size + 1, 0, none⟩) c.states.length c.states.length] rfl rfl (World.news_of_block HNB.out) (by simp [Value.oneCell']) (by decide) (by simp only [maxLen]; omega) (by omega) hBw _ rfl ?_)
          intro g9 cap9 w9 hown9 hgrow hat hlt9
          have f9 := Fr.of_grown (S := va.ownBlock.toList) hgrow (fun b hb _ => by simp [hb])
          have hnv : ∀ b d t, t ≠ 31 → Blk (World.alloc _ (.cells #[.slice (some ⟨wo.heap.size + 1, 0, none⟩) c.states.length c.states.length] 31)) b d t → b ∉ va.ownBlock.toList := fun b d t ht hb hm => by
            obtain ⟨_, d', hd⟩ := HVA.out b (by simpa using hm)
            exact (hd.alloc _).ty (Ne.symm ht) hb
          have HL9 := Lib.hid (HLA.out.fr f9 (hnv _ _ _ (by decide) HLA.out))
          have l9 := HL9.out.cell 8
          have l9f := HL9.out.free 8
          simp at l9
          have l9l := HL9.out.lt
          have hc1 := HCHN.out.alloc (.cells #[.slice (some ⟨wo.heap.size + 1, 0, none⟩) c.states.length c.states.length] 31)
          have HCH9 := Lib.hid (hc1.fr f9 (hnv _ _ _ (by decide) hc1))
          have ht1 := HTB.out.fr ((Fr.refl [] _).alloc (.cells #[.slice (some ⟨wo.heap.size + 1, 0, none⟩) c.states.length c.states.length] 31)) (by simp) (by simp) (by simp)
          have HTB9 := Lib.hid (ht1.fr f9 (hnv _ _ _ (by decide) ht1.fB) (hnv _ _ _ (by decide) ht1.kB) (fun b hb d hd => hnv _ _ _ (by decide) hd hb))
          have HAB9 : Hid (AbT w9 W.heap.size (.slice (some ⟨g9, 0, none⟩) (k + 1) cap9) (k + 1) c) := Lib.hid (AbT.push (HR.out.fr (NT.fr0 ((Fr.refl [] _).alloc _))) (HBA.out.alloc _) (by have := hfr.out.size; omega) hn128 f9 (fun b hb => by
            obtain ⟨_, d', hd⟩ := HVA.out b hb
            exact ⟨d', hd.alloc _⟩) hown9)
          have HF9 := Lib.hid ((HF.out.alloc (.cells #[.slice (some ⟨wo.heap.size + 1, 0, none⟩) c.states.length c.states.length] 31)).trans f9 (fun b hb hlt => by
            have := (HVA.out b (by simpa using hb)).1
            omega))
          clear hc1 ht1 hnv f9 hown9 hgrow
          go_wp2
          go_roundg (c.states.length - (k + 1))
          case measure => omega
          case rel =>
            have fs : Fr [L] w9 (w9.setCell ⟨L, 8, none⟩ (.slice (some ⟨g9, 0, none⟩) (k + 1) cap9)) := fr_sets _ _
            have hbs : ∀ b d t, t ≠ 87 → Blk w9 b d t → b ∉ [L] := fun b d t ht hb hm => by
              obtain rfl := List.mem_singleton.1 hm
              exact HL9.out.ty (Ne.symm ht) hb
            refine ⟨k + 1, by omega, by omega, by go_num, HF9.out.trans fs (fun b hb hlt => by simp at hb; omega), HCH9.out.fr fs (hbs _ _ _ (by decide) HCH9.out), HLW.out, (show Aside _ from ⟨_, F, K, by simpa using HL9.out.set 8 _, HAB9.out.fr fs (fun b hb d => ⟨fun hd => hbs _ _ _ (by decide) hd hb, fun hd => hbs _ _ _ (by decide) hd hb⟩), HTB9.out.fr fs (hbs _ _ _ (by decide) HTB9.out.fB) (hbs _ _ _ (by decide) HTB9.out.kB) (fun b hb d hd => hbs _ _ _ (by decide) hd hb)⟩)⟩
        · have hkzz : (0 : Int) < (k : Int) := by omega
          have ck3 := hchk.out.cell 3
          simp at ck3
          have ckl := hchk.out.lt
          have HF := Lib.hid (hfr.out.trans' F1.out)
          rcases ok_cases c k with ⟨hbad, hcs⟩ | ⟨hok, q6, q7, p, hp, q8, hpk, q9, hup⟩
          · have HZ := Lib.hid (new_no1 hk0 hkt hbad)
            clear hbad hlb hab htb
            rcases hcs with q6 | ⟨q6, q7⟩ | ⟨q6, q7, q8⟩ | ⟨q6, q7, p, hp, q8 | ⟨q8, hpk, q9⟩⟩
            case inr.inr.inr.inl =>
              have hp0 : ¬ (p : Int) < 0 := by omega
              rw [hp] at t2' F1 BS HF
              clear hp
              go_wp2
              go_ret2
              exact ⟨HF.out, .inl ⟨HZ.out, rfl⟩⟩
            case inr.inr.inr.inr =>
              have hp0 : ¬ (p : Int) < 0 := by omega
              have hpz : (p : Int) < (c.states.length : Int) := by omega
              rw [hp] at t2' F1 BS HF
              clear hp
              obtain ⟨gs2, os2, B3, e3, B5, e5, B6, e6, B7, e7, B8, e8, B9, e9, B11, e11, e9, _, _, _, y1, _⟩ := HSS.out.state_at p (by omega)
              injection e9 with e9
              injection e9 with e9 e10
              subst e9 e10
              rw [st_at (by omega)] at y1
              have y1' : wo.cell? ⟨gs, os + p * 13 + 1, none⟩ = some (.int .i64 (knd c p)) := (World.cell?_of_block (hfr.out.block gs hgs (by simp))).trans y1
              clear y1
              go_wp2
              go_ret2
              exact ⟨HF.out, .inl ⟨HZ.out, rfl⟩⟩
            all_goals
              go_wp2
              go_ret2
              exact ⟨HF.out, .inl ⟨HZ.out, rfl⟩⟩
          · have hp0 : ¬ (p : Int) < 0 := by omega
            have hpz : (p : Int) < (c.states.length : Int) := by omega
            have hpn : p < c.states.length := by omega
            rw [hp] at t2' F1 BS BA HF
            clear hp
            obtain ⟨gs2, os2, B3, e3, B5, e5, B6, e6, B7, e7, B8, e8, B9, e9, B11, e11, e9, _, _, _, y1, _⟩ := HSS.out.state_at p hpn
            injection e9 with e9
            injection e9 with e9 e10
            subst e9 e10
            rw [st_at hpn] at y1
            have y1' : wo.cell? ⟨gs, os + p * 13 + 1, none⟩ = some (.int .i64 (knd c p)) := (World.cell?_of_block (hfr.out.block gs hgs (by simp))).trans y1
            clear y1
            obtain ⟨ga, ca, gb, ob, db, rfl, ⟨dga, hga⟩, hrow, hrc⟩ := hab.at_ hpk (show 0 < ns c by unfold ns; omega) (by omega)
            have HLW := Lib.hid (hlow.out.next (fun _ => hok))
            have HUP := Lib.hid hup
            have HLB0 := Lib.hid hlb
            have HAB0 := Lib.hid hab
            have HTB0 := Lib.hid htb
            have HGA := Lib.hid hga
            have HROW := Lib.hid ((World.cell?_of_block (F1.out.block ga hga.lt (by simp))).trans hrow)
            have HRC := Lib.hid (fun j v h => (cell?_fr F1.out (hrc j v h)))
            have hLo := hlb.lt
            have hgo := hga.lt
            clear hlb hab htb hga hrow hrc hok hup
            have bs2 := (BS.out.cell 2).trans (show _ = some (Value.int .i64 (p : Int)) from rfl)
            have al8 := cell?_fr F1.out ((HLB0.out.cell 8).trans (by rfl))
            have hwB := hfr.out.size
            go_wp2
            refine new13 (ba := wo.heap.size + 1) (cur := List.replicate c.states.length (.bool false)) (cs := (row c p).map Value.bool) al8 bs2 hpk HROW.out HRC.out (by simp [row]) (fun v hv => by
              obtain ⟨x, _, rfl⟩ := List.mem_map.1 hv
              rfl) (by simpa using BA.out) (by simp) (by simp) (by omega) (by omega) (by omega) ?_
            rintro u91 u92 u93 u94 u95 u96 u97 u98 u99 u100 w13 ⟨f13, b13⟩
            have F13 := Lib.hid (F1.out.trans f13 (fun x hx hlt => by simp at hx; omega))
            have BS13 := BS.out.fr f13 (by simp)
            have c2 := BS13.cell 2
            simp at c2
            have hsl13 := BS13.lt
            have cbp := b13.cell p
            have hap : ((row c p).map Value.bool).toArray[p]? = some (.bool (ab c p p)) := by simp [row, hpn]
            rw [hap] at cbp
            have cbf := b13.free p
            have cbl := b13.lt
            have B13 := Lib.hid b13
            have HBS13 := Lib.hid BS13
            clear f13 b13 BS13 hap
            go_wp2
            have fs14 : Fr [wo.heap.size + 1] w13 (w13.setCell ⟨wo.heap.size + 1, p, none⟩ (.bool true)) := fr_sets _ _
            have F14 := Lib.hid (F13.out.trans fs14 (fun x hx hlt => by simp at hx; omega))
            have BA14 : Hid (Blk (w13.setCell ⟨wo.heap.size + 1, p, none⟩ (.bool true)) (wo.heap.size + 1) ((row c k).map Value.bool).toArray 4) := Lib.hid (by
              have h := B13.out.set p (.bool true)
              rw [map_row_set] at h
              rw [HLW.out.row hk0 hkt, HUP.out]
              exact h)
            have BS14 := Lib.hid (HBS13.out.fr fs14 (by simp))
            have HTB14 := Lib.hid (HTB0.out.fr F14.out (by simp) (by simp) (by simp))
            have HLB14 := Lib.hid (HLB0.out.fr F14.out (by simp))
            have HAB14 := Lib.hid (HAB0.out.fr F14.out (by simp))
            have HCH14 := Lib.hid (hchk.out.fr F14.out (by simp))
            have HF14 := Lib.hid (hfr.out.trans' F14.out)
            obtain ⟨v, hv, hown⟩ := HTB14.out.atF (aRows_at c k hpn)
            have hvb : ∀ b d t, t ≠ 3 → Blk (w13.setCell ⟨wo.heap.size + 1, p, none⟩ (.bool true)) b d t → v.ownBlock ≠ some b := fun b d t ht hb hm => by
              obtain ⟨_, d', hd⟩ := own_blk3 hown hm
              exact hd.ty (Ne.symm ht) hb
            have c2' := BS14.out.cell 2
            simp at c2'
            clear fs14 cbp cbf cbl c2
            refine new15 (L := L) c2' hpn hn128 HTB14.out.fB (by rw [HTB14.out.fl, aRows_len]) hv hown (Nat.le_trans (allTo_len _ _ _) (by omega)) HF14.out.size (hvb _ _ _ (by decide) HTB14.out.fB) (hvb _ _ _ (by decide) BS14.out) (BS14.out.ne HTB14.out.fB (by decide)) ?_
            rintro u105 u106 u107 u108 u109 u110 u111 u112 u113 u114 u115 u116 w15 ⟨g15, cap15, f15, b15, own15, hg15⟩
            have hvs : ∀ b, v.ownBlock = some b → W.heap.size ≤ b := fun b hb => (own_blk3 hown hb).1
            have hnm : ∀ b d t, t ≠ 29 → t ≠ 3 → Blk (w13.setCell ⟨wo.heap.size + 1, p, none⟩ (.bool true)) b d t → b ∉ w4.heap.size :: v.ownBlock.toList := fun b d t h1 h2 hb hm => by
              rcases List.mem_cons.1 hm with rfl | hm
              · exact HTB14.out.fB.ty (Ne.symm h1) hb
              · exact hvb _ _ _ h2 hb (by simpa using hm)
            have HTB15 := Lib.hid (HTB14.out.growF (r' := allTo c k p ++ [(k : Int)]) hv f15 (by simpa using b15) (hvb _ _ _ (by decide) HTB14.out.kB) (by simpa using own15) hg15)
            have BA15 := Lib.hid (BA14.out.fr f15 (hnm _ _ _ (by decide) (by decide) BA14.out))
            have BS15 := Lib.hid (BS14.out.fr f15 (hnm _ _ _ (by decide) (by decide) BS14.out))
            have HLB15 := Lib.hid (HLB14.out.fr f15 (hnm _ _ _ (by decide) (by decide) HLB14.out))
            have HCH15 := Lib.hid (HCH14.out.fr f15 (hnm _ _ _ (by decide) (by decide) HCH14.out))
            have HAB15 := Lib.hid (HAB14.out.fr f15 (fun b hb d => ⟨fun hd => hnm _ _ _ (by decide) (by decide) hd hb, fun hd => hnm _ _ _ (by decide) (by decide) hd hb⟩))
            have HF15 := Lib.hid (HF14.out.trans f15 (fun b hb hlt => by
              rcases List.mem_cons.1 hb with rfl | hb
              · exact absurd hlt (by have := hkW; omega)
              · have := hvs b (by simpa using hb)
                omega))
            have HAN : Hid (aRows c (k + 1) = (aRows c k).set p (allTo c k p ++ [(k : Int)])) := Lib.hid (by rw [aRows_next c hk0 (by rw [HUP.out]; exact hpn), HUP.out])
            have c1 := BS15.out.cell 1
            simp at c1
            have hsl15 := BS15.out.lt
            clear f15 b15 own15 hg15 hnm hvs hvb hv hown
            by_cases h4 : knd c k < 4
            · have c22 := (BS15.out.cell 2).trans (show _ = some (Value.int .i64 (p : Int)) from rfl)
              have l9x := (HLB15.out.cell 9).trans (show _ = some (Value.slice (some ⟨kb, 0, none⟩) c.states.length c.states.length) from rfl)
              obtain ⟨v, hv, hown⟩ := HTB15.out.atK (kRows_at c k hpn)
              have hvb : ∀ b d t, t ≠ 3 → Blk w15 b d t → v.ownBlock ≠ some b := fun b d t ht hb hm => by
                obtain ⟨_, d', hd⟩ := own_blk3 hown hm
                exact hd.ty (Ne.symm ht) hb
              go_wp2
              refine new17 (L := L) c22 hpn hn128 HTB15.out.kB (by rw [HTB15.out.kl, kRows_len]) hv hown (Nat.le_trans (kidsTo_len _ _ _) (by omega)) HF15.out.size (hvb _ _ _ (by decide) HTB15.out.kB) (hvb _ _ _ (by decide) BS15.out) (BS15.out.ne HTB15.out.kB (by decide)) l9x (HLB15.out.ne HTB15.out.kB (by decide)) (hvb _ _ _ (by decide) HLB15.out) ?_
              rintro u120 u121 u122 u123 u124 u125 u126 u127 u128 u129 u130 u131 u132 u133 u134 u135 u136 u137 w17 ⟨g17, cap17, f17, b17, own17, hg17⟩
              have hvs : ∀ b, v.ownBlock = some b → W.heap.size ≤ b := fun b hb => (own_blk3 hown hb).1
              have hnm : ∀ b d t, t ≠ 29 → t ≠ 3 → Blk w15 b d t → b ∉ kb :: v.ownBlock.toList := fun b d t h1 h2 hb hm => by
                rcases List.mem_cons.1 hm with rfl | hm
                · exact HTB15.out.kB.ty (Ne.symm h1) hb
                · exact hvb _ _ _ h2 hb (by simpa using hm)
              have ht17 := HTB15.out.growK (r' := kidsTo c k p ++ [(k : Int)]) hv f17 (by simpa using b17) (hvb _ _ _ (by decide) HTB15.out.fB) (by simpa using own17) hg17
              have HKN : kRows c (k + 1) = (kRows c k).set p (kidsTo c k p ++ [(k : Int)]) := by rw [kRows_next c hk0 (by rw [HUP.out]; exact hpn) h4, HUP.out]
              rw [← HKN, ← HAN.out] at ht17
              have HTB := Lib.hid ht17
              have HBA := Lib.hid (BA15.out.fr f17 (hnm _ _ _ (by decide) (by decide) BA15.out))
              have HLB := Lib.hid (HLB15.out.fr f17 (hnm _ _ _ (by decide) (by decide) HLB15.out))
              have HCHN := Lib.hid (HCH15.out.fr f17 (hnm _ _ _ (by decide) (by decide) HCH15.out))
              have HAB := Lib.hid (HAB15.out.fr f17 (fun b hb d => ⟨fun hd => hnm _ _ _ (by decide) (by decide) hd hb, fun hd => hnm _ _ _ (by decide) (by decide) hd hb⟩))
              have HF := Lib.hid (HF15.out.trans f17 (fun b hb hlt => by
                rcases List.mem_cons.1 hb with rfl | hb
                · exact absurd hlt (by have := hkW; omega)
                · have := hvs b (by simpa using hb)
                  omega))
              have hnb := heap_alloc_new w17 (.cells #[.slice (some ⟨wo.heap.size + 1, 0, none⟩) c.states.length c.states.length] 31)
              obtain ⟨va, hva⟩ : ∃ va, va = Value.slice (some ⟨ga, 0, none⟩) k ca := ⟨_, rfl⟩
              rw [← hva] at HLB HAB
              clear hva ht17 HKN hvs hnm hvb hv hown f17 b17 own17 hg17 c22 l9x c1
              have hAB := HAB.out
              obtain ⟨css, hown, hR⟩ := hAB
              have HOWN := Lib.hid hown
              have HR := Lib.hid hR
              have HVA : Hid (∀ b, va.ownBlock = some b → W.heap.size ≤ b ∧ ∃ d, Blk _ b d 31) := Lib.hid (fun b hb => own_blk3 hown hb)
              have HAP := Lib.hid (HOWN.out.alloc (.cells #[.slice (some ⟨wo.heap.size + 1, 0, none⟩) c.states.length c.states.length] 31))
              have HL1 := HLB.out
              have l8 := HL1.cell 8
              simp at l8
              have hll := HL1.lt
              have l8a := (HL1.alloc (.cells #[.slice (some ⟨wo.heap.size + 1, 0, none⟩) c.states.length c.states.length] 31))
              have HLA := Lib.hid l8a
              obtain ⟨i0, hi0, hz0, hz1, hz2⟩ := info_parts info31
              have hBw := (HF.out.alloc (.cells #[.slice (some ⟨wo.heap.size + 1, 0, none⟩) c.states.length c.states.length] 31)).size
              clear hown hR HL1 l8a
              have HNB := Lib.hid hnb
              clear hnb
              go_wp2_with (at_builtin; refine wpList_append_lies _ rfl _ _ 85 rfl W.heap.size 31 i0 _ 1 24 Try.underlying85 hi0 hz0 hz1 hz2 rfl (by decide) va k css.flatten rfl HAP.out ⟨_, 0, none⟩ 1 1 [.slice (some ⟨wo.heap.size + 1, 0, none⟩) c.states.length c.states.length] rfl rfl (World.news_of_block HNB.out) (by simp [Value.oneCell']) (by decide) (by simp only [maxLen]; omega) (by omega) hBw _ rfl ?_)
              intro g9 cap9 w9 hown9 hgrow hat hlt9
              have f9 := Fr.of_grown (S := va.ownBlock.toList) hgrow (fun b hb _ => by simp [hb])
              have hnv : ∀ b d t, t ≠ 31 → Blk (World.alloc _ (.cells #[.slice (some ⟨wo.heap.size + 1, 0, none⟩) c.states.length c.states.length] 31)) b d t → b ∉ va.ownBlock.toList := fun b d t ht hb hm => by
                obtain ⟨_, d', hd⟩ := HVA.out b (by simpa using hm)
                exact (hd.alloc _).ty (Ne.symm ht) hb
              have HL9 := Lib.hid (HLA.out.fr f9 (hnv _ _ _ (by decide) HLA.out))
              have l9 := HL9.out.cell 8
              have l9f := HL9.out.free 8
              simp at l9
              have l9l := HL9.out.lt
              have hc1 := HCHN.out.alloc (.cells #[.slice (some ⟨wo.heap.size + 1, 0, none⟩) c.states.length c.states.length] 31)
              have HCH9 := Lib.hid (hc1.fr f9 (hnv _ _ _ (by decide) hc1))
              have ht1 := HTB.out.fr ((Fr.refl [] _).alloc (.cells #[.slice (some ⟨wo.heap.size + 1, 0, none⟩) c.states.length c.states.length] 31)) (by simp) (by simp) (by simp)
              have HTB9 := Lib.hid (ht1.fr f9 (hnv _ _ _ (by decide) ht1.fB) (hnv _ _ _ (by decide) ht1.kB) (fun b hb d hd => hnv _ _ _ (by decide) hd hb))
              have HAB9 : Hid (AbT w9 W.heap.size (.slice (some ⟨g9, 0, none⟩) (k + 1) cap9) (k + 1) c) := Lib.hid (AbT.push (HR.out.fr (NT.fr0 ((Fr.refl [] _).alloc _))) (HBA.out.alloc _) (by have := hfr.out.size; omega) hn128 f9 (fun b hb => by
                obtain ⟨_, d', hd⟩ := HVA.out b hb
                exact ⟨d', hd.alloc _⟩) hown9)
              have HF9 := Lib.hid ((HF.out.alloc (.cells #[.slice (some ⟨wo.heap.size + 1, 0, none⟩) c.states.length c.states.length] 31)).trans f9 (fun b hb hlt => by
                have := (HVA.out b (by simpa using hb)).1
                omega))
              clear hc1 ht1 hnv f9 hown9 hgrow
              go_wp2
              go_roundg (c.states.length - (k + 1))
              case measure => omega
              case rel =>
                have fs : Fr [L] w9 (w9.setCell ⟨L, 8, none⟩ (.slice (some ⟨g9, 0, none⟩) (k + 1) cap9)) := fr_sets _ _
                have hbs : ∀ b d t, t ≠ 87 → Blk w9 b d t → b ∉ [L] := fun b d t ht hb hm => by
                  obtain rfl := List.mem_singleton.1 hm
                  exact HL9.out.ty (Ne.symm ht) hb
                refine ⟨k + 1, by omega, by omega, by go_num, HF9.out.trans fs (fun b hb hlt => by simp at hb; omega), HCH9.out.fr fs (hbs _ _ _ (by decide) HCH9.out), HLW.out, (show Aside _ from ⟨_, _, _, by simpa using HL9.out.set 8 _, HAB9.out.fr fs (fun b hb d => ⟨fun hd => hbs _ _ _ (by decide) hd hb, fun hd => hbs _ _ _ (by decide) hd hb⟩), HTB9.out.fr fs (hbs _ _ _ (by decide) HTB9.out.fB) (hbs _ _ _ (by decide) HTB9.out.kB) (fun b hb d hd => hbs _ _ _ (by decide) hd hb)⟩)⟩
            · have HTB : Hid (Tabs w15 W.heap.size w4.heap.size kb _ K (aRows c (k + 1)) (kRows c (k + 1))) := Lib.hid (by rw [HAN.out, kRows_same c h4]; exact HTB15.out)
              have HF := HF15
              have HCHN := HCH15
              have HLB := HLB15
              have HAB := HAB15
              have HBA := BA15
              have hnb := heap_alloc_new w15 (.cells #[.slice (some ⟨wo.heap.size + 1, 0, none⟩) c.states.length c.states.length] 31)
              obtain ⟨va, hva⟩ : ∃ va, va = Value.slice (some ⟨ga, 0, none⟩) k ca := ⟨_, rfl⟩
              rw [← hva] at HLB HAB
              clear hva
              have hAB := HAB.out
              obtain ⟨css, hown, hR⟩ := hAB
              have HOWN := Lib.hid hown
              have HR := Lib.hid hR
              have HVA : Hid (∀ b, va.ownBlock = some b → W.heap.size ≤ b ∧ ∃ d, Blk _ b d 31) := Lib.hid (fun b hb => own_blk3 hown hb)
              have HAP := Lib.hid (HOWN.out.alloc (.cells #[.slice (some ⟨wo.heap.size + 1, 0, none⟩) c.states.length c.states.length] 31))
              have HL1 := HLB.out
              have l8 := HL1.cell 8
              simp at l8
              have hll := HL1.lt
              have l8a := (HL1.alloc (.cells #[.slice (some ⟨wo.heap.size + 1, 0, none⟩) c.states.length c.states.length] 31))
              have HLA := Lib.hid l8a
              obtain ⟨i0, hi0, hz0, hz1, hz2⟩ := info_parts info31
              have hBw := (HF.out.alloc (.cells #[.slice (some ⟨wo.heap.size + 1, 0, none⟩) c.states.length c.states.length] 31)).size
              clear hown hR HL1 l8a
              have HNB := Lib.hid hnb
              clear hnb
              go_wp2_with (at_builtin; refine wpList_append_lies _ rfl _ _ 85 rfl W.heap.size 31 i0 _ 1 24 Try.underlying85 hi0 hz0 hz1 hz2 rfl (by decide) va k css.flatten rfl HAP.out ⟨_, 0, none⟩ 1 1 [.slice (some ⟨wo.heap.size + 1, 0, none⟩) c.states.length c.states.length] rfl rfl (World.news_of_block HNB.out) (by simp [Value.oneCell']) (by decide) (by simp only [maxLen]; omega) (by omega) hBw _ rfl ?_)
              intro g9 cap9 w9 hown9 hgrow hat hlt9
              have f9 := Fr.of_grown (S := va.ownBlock.toList) hgrow (fun b hb _ => by simp [hb])
              have hnv : ∀ b d t, t ≠ 31 → Blk (World.alloc _ (.cells #[.slice (some ⟨wo.heap.size + 1, 0, none⟩) c.states.length c.states.length] 31)) b d t → b ∉ va.ownBlock.toList := fun b d t ht hb hm => by
                obtain ⟨_, d', hd⟩ := HVA.out b (by simpa using hm)
                exact (hd.alloc _).ty (Ne.symm ht) hb
              have HL9 := Lib.hid (HLA.out.fr f9 (hnv _ _ _ (by decide) HLA.out))
              have l9 := HL9.out.cell 8
              have l9f := HL9.out.free 8
              simp at l9
              have l9l := HL9.out.lt
              have hc1 := HCHN.out.alloc (.cells #[.slice (some ⟨wo.heap.size + 1, 0, none⟩) c.states.length c.states.length] 31)
              have HCH9 := Lib.hid (hc1.fr f9 (hnv _ _ _ (by decide) hc1))
              have ht1 := HTB.out.fr ((Fr.refl [] _).alloc (.cells #[.slice (some ⟨wo.heap.size + 1, 0, none⟩) c.states.length c.states.length] 31)) (by simp) (by simp) (by simp)
              have HTB9 := Lib.hid (ht1.fr f9 (hnv _ _ _ (by decide) ht1.fB) (hnv _ _ _ (by decide) ht1.kB) (fun b hb d hd => hnv _ _ _ (by decide) hd hb))
              have HAB9 : Hid (AbT w9 W.heap.size (.slice (some ⟨g9, 0, none⟩) (k + 1) cap9) (k + 1) c) := Lib.hid (AbT.push (HR.out.fr (NT.fr0 ((Fr.refl [] _).alloc _))) (HBA.out.alloc _) (by have := hfr.out.size; omega) hn128 f9 (fun b hb => by
                obtain ⟨_, d', hd⟩ := HVA.out b hb
                exact ⟨d', hd.alloc _⟩) hown9)
              have HF9 := Lib.hid ((HF.out.alloc (.cells #[.slice (some ⟨wo.heap.size + 1, 0, none⟩) c.states.length c.states.length] 31)).trans f9 (fun b hb hlt => by
                have := (HVA.out b (by simpa using hb)).1
                omega))
              clear hc1 ht1 hnv f9 hown9 hgrow
              go_wp2
              go_roundg (c.states.length - (k + 1))
              case measure => omega
              case rel =>
                have fs : Fr [L] w9 (w9.setCell ⟨L, 8, none⟩ (.slice (some ⟨g9, 0, none⟩) (k + 1) cap9)) := fr_sets _ _
                have hbs : ∀ b d t, t ≠ 87 → Blk w9 b d t → b ∉ [L] := fun b d t ht hb hm => by
                  obtain rfl := List.mem_singleton.1 hm
                  exact HL9.out.ty (Ne.symm ht) hb
                refine ⟨k + 1, by omega, by omega, by go_num, HF9.out.trans fs (fun b hb hlt => by simp at hb; omega), HCH9.out.fr fs (hbs _ _ _ (by decide) HCH9.out), HLW.out, (show Aside _ from ⟨_, _, _, by simpa using HL9.out.set 8 _, HAB9.out.fr fs (fun b hb d => ⟨fun hd => hbs _ _ _ (by decide) hd hb, fun hd => hbs _ _ _ (by decide) hd hb⟩), HTB9.out.fr fs (hbs _ _ _ (by decide) HTB9.out.fB) (hbs _ _ _ (by decide) HTB9.out.kB) (fun b hb d hd => hbs _ _ _ (by decide) hd hb)⟩)⟩
      · obtain rfl : k = c.states.length := by omega
        have hkz : ¬ (c.states.length : Int) < (c.states.length : Int) := by omega
        obtain ⟨va, F, K, hlb, hab, htb⟩ := hmem.out
        have ck3 := hchk.out.cell 3
        simp at ck3
        have ckl := hchk.out.lt
        have HLB6 := Lib.hid hlb
        have HAB6 := Lib.hid hab
        have HTB6 := Lib.hid htb
        have HLW6 : Hid (Low c (ns c)) := Lib.hid hlow.out
        obtain ⟨w6, rfl⟩ : ∃ w6 : World, w6 = wr := ⟨_, rfl⟩
        clear hlb hab htb
        go_wp2
        go_loopg [152] c.states.length (fun gg s152 wr => ∃ i : Nat, i ≤ c.states.length ∧ c.states.length - i ≤ gg ∧ s152 = .int .i64 i ∧ Aside (Fr [] w6 wr) ∧ Aside (∀ j, j < i → decide ((st c j).kids = allOf c j) = true))
        case atStart => exact ⟨0, Nat.zero_le _, by omega, rfl, Fr.refl _ _, (show Aside _ from fun j h => absurd h (Nat.not_lt_zero _))⟩
        case round =>
          obtain ⟨i, hi, hgi, rfl, hf6, hall⟩ := hrel
          have HFW := Lib.hid (hfr.out.trans' hf6.out)
          have HLB7 := Lib.hid (HLB6.out.fr hf6.out (by simp))
          have HAB7 := Lib.hid (HAB6.out.fr hf6.out (by simp))
          have HTB7 := Lib.hid (HTB6.out.fr hf6.out (by simp) (by simp) (by simp))
          have HCH7 := Lib.hid (hchk.out.fr hf6.out (by simp))
          by_cases hit : i < c.states.length
          · have hiz : (i : Int) < (c.states.length : Int) := by omega
            obtain ⟨gs2, os2, A3, d3, A5, d5, A6, d6, A7, d7, A8, d8, A9, d9, A11, d11, e9, _, hgs, s0, s1, s2, s3, s4, s5, s6, s7, s8, s9, s10, s11, s12, hk3, _⟩ := HSS.out.state_at i hit
            injection e9 with e9
            injection e9 with e9 e10
            subst e9 e10
            rw [st_at hit] at s0 s1 s2 s3 s4 s5 s6 s7 s8 s9 s10 s11 s12 hk3
            have mv : ∀ o, wr.cell? ⟨gs, o, none⟩ = W.cell? ⟨gs, o, none⟩ := fun o => World.cell?_of_block (HFW.out.block gs hgs (by simp))
            rw [← mv] at s0 s1 s2 s3 s4 s5 s6 s7 s8 s9 s10 s11 s12
            have hgsl : gs < wr.heap.size := Nat.lt_of_lt_of_le hgs HFW.out.size
            have t1' : wr.cell? ⟨gs, os + i * 13 + 1, none⟩ = some (.int .i64 (knd c i)) := s1
            have t2' : wr.cell? ⟨gs, os + i * 13 + 2, none⟩ = some (.int .i64 (par c i)) := s2
            have HK3 := Lib.hid hk3
            clear mv s1 s2 hk3
            obtain ⟨wo, rfl⟩ : ∃ wo : World, wo = wr := ⟨_, rfl⟩
            have F1 := Lib.hid ((Fr.refl [] wo).alloc (.cells #[.string (st c i).id, .int .i64 (knd c i), .int .i64 (par c i), .slice A3 (st c i).kids.length d3, .int .i64 (st c i).init, .slice A5 (st c i).entry.length d5, .slice A6 (st c i).exit.length d6, .slice A7 (st c i).trans.length d7, .slice A8 (st c i).data.length d8, .slice A9 (st c i).invokes.length d9, .int .i64 (st c i).done.kind, .slice A11 (st c i).done.params.length d11, .string (st c i).done.body] 50))
            have bs3 := ((Blk.new wo #[.string (st c i).id, .int .i64 (knd c i), .int .i64 (par c i), .slice A3 (st c i).kids.length d3, .int .i64 (st c i).init, .slice A5 (st c i).entry.length d5, .slice A6 (st c i).exit.length d6, .slice A7 (st c i).trans.length d7, .slice A8 (st c i).data.length d8, .slice A9 (st c i).invokes.length d9, .int .i64 (st c i).done.kind, .slice A11 (st c i).done.params.length d11, .string (st c i).done.body] 50).cell 3).trans (show _ = some (Value.slice A3 (st c i).kids.length d3) from rfl)
            have tb := HTB7.out.fr F1.out (by simp) (by simp) (by simp)
            obtain ⟨v, hv, hown⟩ := tb.atF (aRows_at c c.states.length hit)
            obtain ⟨A2, d2, rfl⟩ := own_slice hown
            have fc := tb.fB.cell i
            simp only [List.getElem?_toArray, hv] at fc
            have hsl := int_own hown (Nat.le_trans (allTo_len _ _ _) hn128)
            have hk4 := HK3.out.fr (q := fun _ => True) (fun b _ hb => ⟨trivial, (HFW.out.trans' F1.out).block b hb (by simp)⟩)
            have HF8 := Lib.hid (HFW.out.trans' F1.out)
            clear tb hv hown
            go_wp2
            refine new23 (a := (st c i).kids) (b := allTo c c.states.length i) bs3 fc hk4 hsl hit ?_
            rintro u157 u158 u159 u160 u161 u162 u163 u164 w8 ⟨f8, rfl⟩
            have HF9 := Lib.hid (HF8.out.trans' f8)
            clear hk4 hsl bs3 fc
            cases hdc : decide ((st c i).kids = allTo c c.states.length i) with
            | false =>
              have HZ := Lib.hid (new_no2 (c := c) hit hdc)
              simp only [hdc]
              clear hdc
              go_wp2
              go_ret2
              exact ⟨HF9.out, .inl ⟨HZ.out, rfl⟩⟩
            | true =>
              have HDC : Hid (decide ((st c i).kids = allOf c i) = true) := Lib.hid hdc
              simp only [hdc]
              clear hdc
              go_wp2
              go_roundg (c.states.length - (i + 1))
              case measure => omega
              case rel =>
                refine ⟨i + 1, by omega, by omega, by go_num, (hf6.out.trans' F1.out).trans' f8, (show Aside _ from fun q hq => ?_)⟩
                rcases Nat.lt_succ_iff_lt_or_eq.1 hq with hq | rfl
                · exact hall.out q hq
                · exact HDC.out
          · obtain rfl : i = c.states.length := by omega
            have hiz : ¬ (c.states.length : Int) < (c.states.length : Int) := by omega
            have HKB : Hid (kidsB c = true) := Lib.hid (List.all_eq_true.2 fun j hj => hall.out j (List.mem_range.1 hj))
            have HPB : Hid (placedB c = true) := Lib.hid HLW6.out.placed
            have HT0 : Hid (Tree c) := Lib.hid (HLW6.out.tree HH.out)
            have HROWS7 := Lib.hid (HROWS0.out.fr (q := fun k => k < W.heap.size) (fun b hb hlt => ⟨hb, HFW.out.block b hlt (by simp)⟩))
            have HLAT : Hid (Lat (fun _ => True) wr L c) := Lib.hid (lat_of HLB7.out (HROWS7.out.s.fr fun _ _ _ => ⟨trivial, rfl⟩) (HROWS7.out.t.fr fun _ _ _ => ⟨trivial, rfl⟩) (HROWS7.out.b.fr fun _ _ _ => ⟨trivial, rfl⟩) (HROWS7.out.d.fr fun _ _ _ => ⟨trivial, rfl⟩) (HROWS7.out.i.fr fun _ _ _ => ⟨trivial, rfl⟩) HAB7.out HTB7.out hn128 hkW.1 (fun _ _ => trivial))
            have l9x := (HLB7.out.cell 9).trans (show _ = some (Value.slice (some ⟨kb, 0, none⟩) c.states.length c.states.length) from rfl)
            have hll := HLB7.out.lt
            obtain ⟨v, hv, hown⟩ := HTB7.out.atK (kRows_at c c.states.length (show 0 < ns c by unfold ns; omega))
            obtain ⟨A2, d2, rfl⟩ := own_slice hown
            have kc := HTB7.out.kB.cell 0
            simp only [List.getElem?_toArray, hv] at kc
            have hkl := HTB7.out.kB.lt
            have hkl0 : (kidsTo c c.states.length 0).length = (kidsOf c 0).length := rfl
            rw [hkl0] at kc
            clear hv hown hkl0
            by_cases hk0 : kidsOf c 0 = []
            · have HZ : Hid (newB c = false) := Lib.hid (by simp [newB, hk0])
              have hl0 : (kidsOf c 0).length = 0 := by rw [hk0]; rfl
              rw [hl0] at kc
              clear hl0 hk0
              go_wp2
              go_ret2
              exact ⟨HFW.out, .inl ⟨HZ.out, rfl⟩⟩
            · have hl0 : ((kidsOf c 0).length : Int) ≠ 0 := by
                intro h
                exact hk0 (List.eq_nil_of_length_eq_zero (by omega))
              have hl1 : (((kidsOf c 0).length : Int) == 0) = false := by simpa using hl0
              have HK0 := Lib.hid hk0
              clear hl0 hk0
              go_wp2_with fail
              refine (transitions_any _ L c HT0.out HLAT.out).mono ?_
              rintro e w8 ⟨rfl, f8⟩
              cases htr : transB c with
              | false =>
                have HZ : Hid (newB c = false) := Lib.hid (by simp [newB, htr])
                clear htr
                go_wp2
                go_ret2
                exact ⟨HFW.out.trans' f8, .inl ⟨HZ.out, rfl⟩⟩
              | true =>
                have HZ : Hid (newB c = true) := Lib.hid (by simp [newB, HH.out, HPB.out, HKB.out, HK0.out, htr])
                clear htr
                have HF8 := Lib.hid (HFW.out.trans' f8)
                have HCH8 := HCH7.out.fr f8 (by simp)
                have HLB8 := Lib.hid (HLB7.out.fr f8 (by simp))
                have HAB8 := Lib.hid (HAB7.out.fr f8 (by simp))
                have HTB8 := Lib.hid (HTB7.out.fr f8 (by simp) (by simp) (by simp))
                have HROWS8 := Lib.hid (HROWS0.out.fr (q := fun k => k < w8.heap.size) (fun b hb hlt => ⟨Nat.lt_of_lt_of_le hlt HF8.out.size, HF8.out.block b hlt (by simp)⟩))
                have z0 := HCH8.cell 0
                have z1 := HCH8.cell 1
                have z2 := HCH8.cell 2
                have z3 := HCH8.cell 3
                have z4 := HCH8.cell 4
                have z5 := HCH8.cell 5
                have z6 := HCH8.cell 6
                have z7 := HCH8.cell 7
                simp at z0 z1 z2 z3 z4 z5 z6 z7
                have zl := HCH8.lt
                have hcn := clone_any w8 c _ _ _ _ _ HROWS8.out
                unfold chartV at hcn
                clear HCH8
                go_wp2_with fail
                refine hcn.mono ?_
                rintro e w9 ⟨vS', vT', vB', vD', vI', rfl, f9, hs9, ht9, hb9, hd9, hi9⟩
                unfold chartV
                obtain ⟨A3, d3, rfl, _⟩ := hs9.form
                obtain ⟨A4, d4, rfl, _⟩ := ht9.form
                obtain ⟨A5, d5, rfl, _⟩ := hb9.form
                obtain ⟨A6, d6, rfl, _⟩ := hd9.form
                obtain ⟨A7, d7, rfl, _⟩ := hi9.form
                have HF9 := Lib.hid (HF8.out.trans' f9)
                have HLB9 := Lib.hid (HLB8.out.fr f9 (by simp))
                have HAB9 := Lib.hid (HAB8.out.fr f9 (by simp))
                have HTB9 := Lib.hid (HTB8.out.fr f9 (by simp) (by simp) (by simp))
                have y0 := HLB9.out.cell 0
                have y1 := HLB9.out.cell 1
                have y2 := HLB9.out.cell 2
                have y3 := HLB9.out.cell 3
                have y4 := HLB9.out.cell 4
                have y5 := HLB9.out.cell 5
                have y6 := HLB9.out.cell 6
                have y7 := HLB9.out.cell 7
                simp at y0 y1 y2 y3 y4 y5 y6 y7
                have yf := HLB9.out.free
                have yl := HLB9.out.lt
                have h8 := HF8.out.size
                have G3 := Lib.hid hs9
                have G4 := Lib.hid ht9
                have G5 := Lib.hid hb9
                have G6 := Lib.hid hd9
                have G7 := Lib.hid hi9
                clear hs9 ht9 hb9 hd9 hi9 f9
                go_wp2
                go_ret2
                have fs : Fr [L] w9 ((((((((w9.setCell ⟨L, 0, none⟩ (.string c.name)).setCell ⟨L, 1, none⟩ (.bool c.late)).setCell ⟨L, 2, none⟩ (.int .i64 c.script)).setCell ⟨L, 3, none⟩ (.slice A3 c.states.length d3)).setCell ⟨L, 4, none⟩ (.slice A4 c.trans.length d4)).setCell ⟨L, 5, none⟩ (.slice A5 c.blocks.length d5)).setCell ⟨L, 6, none⟩ (.slice A6 c.data.length d6)).setCell ⟨L, 7, none⟩ (.slice A7 c.invokes.length d7)) := (((((((((Fr.refl _ _).setCell (by simp) _).setCell (by simp) _).setCell (by simp) _).setCell (by simp) _).setCell (by simp) _).setCell (by simp) _).setCell (by simp) _).setCell (by simp) _)
                have hLB : Blk ((((((((w9.setCell ⟨L, 0, none⟩ (.string c.name)).setCell ⟨L, 1, none⟩ (.bool c.late)).setCell ⟨L, 2, none⟩ (.int .i64 c.script)).setCell ⟨L, 3, none⟩ (.slice A3 c.states.length d3)).setCell ⟨L, 4, none⟩ (.slice A4 c.trans.length d4)).setCell ⟨L, 5, none⟩ (.slice A5 c.blocks.length d5)).setCell ⟨L, 6, none⟩ (.slice A6 c.data.length d6)).setCell ⟨L, 7, none⟩ (.slice A7 c.invokes.length d7)) L #[.string c.name, .bool c.late, .int .i64 c.script, .slice A3 c.states.length d3, .slice A4 c.trans.length d4, .slice A5 c.blocks.length d5, .slice A6 c.data.length d6, .slice A7 c.invokes.length d7, va, .slice (some ⟨kb, 0, none⟩) c.states.length c.states.length] 87 := by
                  have h := ((((((((HLB9.out.set 0 (.string c.name)).set 1 (.bool c.late)).set 2 (.int .i64 c.script)).set 3 (.slice A3 c.states.length d3)).set 4 (.slice A4 c.trans.length d4)).set 5 (.slice A5 c.blocks.length d5)).set 6 (.slice A6 c.data.length d6)).set 7 (.slice A7 c.invokes.length d7))
                  simpa using h
                have hbs : ∀ b d t, t ≠ 87 → Blk w9 b d t → b ∉ [L] := fun b d t ht hb hm => by
                  obtain rfl := List.mem_singleton.1 hm
                  exact HLB9.out.ty (Ne.symm ht) hb
                have hNT : ∀ T, 87 ∉ T → ∀ x, x ∈ [L] → ¬ NT w8.heap.size T w9 x := fun T hT x hx hn => by
                  obtain rfl := List.mem_singleton.1 hx
                  exact NT.not HLB9.out hT hn
                have hq : ∀ T, 87 ∉ T → ∀ k, NT w8.heap.size T w9 k → k < w9.heap.size → (W.heap.size ≤ k) ∧ ((((((((w9.setCell ⟨L, 0, none⟩ (.string c.name)).setCell ⟨L, 1, none⟩ (.bool c.late)).setCell ⟨L, 2, none⟩ (.int .i64 c.script)).setCell ⟨L, 3, none⟩ (.slice A3 c.states.length d3)).setCell ⟨L, 4, none⟩ (.slice A4 c.trans.length d4)).setCell ⟨L, 5, none⟩ (.slice A5 c.blocks.length d5)).setCell ⟨L, 6, none⟩ (.slice A6 c.data.length d6)).setCell ⟨L, 7, none⟩ (.slice A7 c.invokes.length d7)).heap[k]? = w9.heap[k]? := fun T hT k hk hlt => by
                  obtain ⟨_, h2⟩ := NT.fr fs (hNT T hT) k hk hlt
                  exact ⟨Nat.le_trans h8 hk.1, h2⟩
                exact ⟨HF9.out.trans fs (fun b hb hlt => by
                  simp at hb
                  subst hb
                  exact absurd hlt (by have := hkW; omega)), .inr ⟨HZ.out, L, rfl, hkW.2.1, lat_of hLB (G3.out.fr (hq _ (by decide))) (G4.out.fr (hq _ (by decide))) (G5.out.fr (hq _ (by decide))) (G6.out.fr (hq _ (by decide))) (G7.out.fr (hq _ (by decide)))
                  (HAB9.out.fr fs (fun b hb d => ⟨fun hd => hbs _ _ _ (by decide) hd hb, fun hd => hbs _ _ _ (by decide) hd hb⟩)) (HTB9.out.fr fs (hbs _ _ _ (by decide) HTB9.out.fB) (hbs _ _ _ (by decide) HTB9.out.kB) (fun b hb d hd => hbs _ _ _ (by decide) hd hb)) hn128 hkW.1 (fun _ h => h)⟩⟩
end Go.Proofs.Ytekfbafljilchaa
