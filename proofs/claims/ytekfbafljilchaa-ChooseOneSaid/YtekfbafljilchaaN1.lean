/- ChooseOne: the walk. -/
import Derived.Test.YtekfbafljilchaaM9
import Derived.Test.YtekfbafljilchaaM8
set_option linter.unusedVariables false
set_option linter.unusedSimpArgs false
namespace Go.Proofs.Ytekfbafljilchaa
open Go.RowKit Go.Lib

theorem res_one (c : DChart) (cfg : List Int) (mem : List (List Int)) (t : Int) : resL c cfg mem [t, t, -1, t] = if knownB c t then [t] else [] := by
  have hm : knownB c (-1) = false := by simp [knownB]
  cases hk : knownB c t with
  | false => simp [resL, resF, res1, hk, hm]
  | true => simp [resL, resF, res1, hk, hm, resStep, add1, has]
theorem res_none (c : DChart) (cfg : List Int) (mem : List (List Int)) : resL c cfg mem [] = [] := rfl
set_option maxRecDepth 100000 in
set_option maxHeartbeats 32000000 in
theorem one_law (W : World) (c : DChart) (vS vT vB vD vI : Value) (cfg ts : List Int) (mem : List (List Int)) (nm : ByteArray) (ev : Bool) (n4 : Nat) (A1 A2 A3 A4 : Option Addr) (d1 d2 d3 d4 : Nat) (h : Rows8 (fun k => k < W.heap.size) W c vS vT vB vD vI)
    (hC : Sl rInt (fun k => k < W.heap.size) W (.slice A1 cfg.length d1) cfg) (hT : Sl rInt (fun k => k < W.heap.size) W (.slice A2 ts.length d2) ts) (hTw : ∀ t, t ∈ ts → (Lit.int .i64 t).wf = true) (hM : Sl (rSl rInt) (fun k => k < W.heap.size) W (.slice A3 mem.length d3) mem) (hnm : nm.size ≤ 140737488351232) (hn4 : n4 ≤ 140737488351232) (t : Int) (htw : (Lit.int .i64 t).wf = true) :
    Calls Try.prog 11 #[chartV c vS vT vB vD vI, moveV A1 A2 A3 A4 cfg.length d1 ts.length d2 mem.length d3 n4 d4 nm ev, .int .i64 t] W (Yes W) := by
  have HR := Lib.hid h
  have lC := hC.len
  have lT := hT.len
  have lM := hM.len
  have HC := Lib.hid hC
  have HT := Lib.hid hT
  have HTW := Lib.hid hTw
  have HM := Lib.hid hM
  have hf0 := Lib.hid (((Fr.refl [] W).alloc (.cells #[.string c.name, .bool c.late, .int .i64 c.script, vS, vT, vB, vD, vI] 28)).alloc (.cells #[.slice A1 cfg.length d1, .slice A2 ts.length d2, .slice A3 mem.length d3, .string nm, .bool ev, .slice A4 n4 d4] 33))
  have HB0c := Lib.hid ((Blk.new W #[.string c.name, .bool c.late, .int .i64 c.script, vS, vT, vB, vD, vI] 28).alloc (.cells #[.slice A1 cfg.length d1, .slice A2 ts.length d2, .slice A3 mem.length d3, .string nm, .bool ev, .slice A4 n4 d4] 33))
  have HB0m : Hid (Blk ((W.alloc (.cells #[.string c.name, .bool c.late, .int .i64 c.script, vS, vT, vB, vD, vI] 28)).alloc (.cells #[.slice A1 cfg.length d1, .slice A2 ts.length d2, .slice A3 mem.length d3, .string nm, .bool ev, .slice A4 n4 d4] 33)) (W.heap.size + 1) #[.slice A1 cfg.length d1, .slice A2 ts.length d2, .slice A3 mem.length d3, .string nm, .bool ev, .slice A4 n4 d4] 33) := Lib.hid (Blk.newAt (sizeAt rfl))
  clear h hC hT hM hTw
  have haw := awake15_any ((W.alloc (.cells #[.string c.name, .bool c.late, .int .i64 c.script, vS, vT, vB, vD, vI] 28)).alloc (.cells #[.slice A1 cfg.length d1, .slice A2 ts.length d2, .slice A3 mem.length d3, .string nm, .bool ev, .slice A4 n4 d4] 33))
  unfold chartV moveV
  go_enter Try.func11, Try.ntmps11
  go_wp2_with fail
  refine haw.mono ?_
  rintro e w1 ⟨rfl, f1⟩
  have HF1 := Lib.hid (hf0.out.trans' f1)
  have HB1c := Lib.hid (HB0c.out.fr f1 (by simp))
  have HB1m := Lib.hid (HB0m.out.fr f1 (by simp))
  clear f1 haw
  have hl1 := large15_any w1 c vS vT vB vD vI (HR.out.fr (fun k hk hlt => ⟨Nat.lt_of_lt_of_le hk HF1.out.size, HF1.out.block k hlt (by simp)⟩)) A1 A2 A3 A4 cfg.length d1 ts.length d2 d3 n4 d4 mem nm ev (HM.out.fr (fun k hk hlt => ⟨Nat.lt_of_lt_of_le hk HF1.out.size, HF1.out.block k hlt (by simp)⟩)) lC lT hn4 hnm
  have k0 := HB1c.out.cell 0
  have k1 := HB1c.out.cell 1
  have k2 := HB1c.out.cell 2
  have k3 := HB1c.out.cell 3
  have k4 := HB1c.out.cell 4
  have k5 := HB1c.out.cell 5
  have k6 := HB1c.out.cell 6
  have k7 := HB1c.out.cell 7
  have m0 := HB1m.out.cell 0
  have m1 := HB1m.out.cell 1
  have m2 := HB1m.out.cell 2
  have m3 := HB1m.out.cell 3
  have m4 := HB1m.out.cell 4
  have m5 := HB1m.out.cell 5
  simp at k0 k1 k2 k3 k4 k5 k6 k7 m0 m1 m2 m3 m4 m5
  unfold chartV moveV at hl1
  go_wp2_with fail
  refine hl1.mono ?_
  rintro e w2 ⟨⟨b, rfl, hb20⟩, f2⟩
  have HF2 := Lib.hid (HF1.out.trans' f2)
  have HB2c := Lib.hid (HB1c.out.fr f2 (by simp))
  have HB2m := Lib.hid (HB1m.out.fr f2 (by simp))
  clear f2 hl1 k0 k1 k2 k3 k4 k5 k6 k7 m0 m1 m2 m3 m4 m5
  cases b with
  | true =>
    clear hb20
    go_wp2
    go_ret
    exact ⟨rfl, HF2.out⟩
  | false =>
  have ht20 : ts.length ≤ 20 := hb20 rfl
  clear hb20
  have k0 := HB2c.out.cell 0
  have k1 := HB2c.out.cell 1
  have k2 := HB2c.out.cell 2
  have k3 := HB2c.out.cell 3
  have k4 := HB2c.out.cell 4
  have k5 := HB2c.out.cell 5
  have k6 := HB2c.out.cell 6
  have k7 := HB2c.out.cell 7
  have m0 := HB2m.out.cell 0
  have m1 := HB2m.out.cell 1
  have m2 := HB2m.out.cell 2
  have m3 := HB2m.out.cell 3
  have m4 := HB2m.out.cell 4
  have m5 := HB2m.out.cell 5
  simp at k0 k1 k2 k3 k4 k5 k6 k7 m0 m1 m2 m3 m4 m5
  have hn := new_any w2 c vS vT vB vD vI (HR.out.fr (fun k hk hlt => ⟨Nat.lt_of_lt_of_le hk HF2.out.size, HF2.out.block k hlt (by simp)⟩))
  unfold chartV at hn
  go_wp2_with fail
  refine hn.mono ?_
  rintro e w3 ⟨f3, hcase⟩
  have HF3 := Lib.hid (HF2.out.trans' f3)
  have HB3c := Lib.hid (HB2c.out.fr f3 (by simp))
  have HB3m := Lib.hid (HB2m.out.fr f3 (by simp))
  clear f3 hn k0 k1 k2 k3 k4 k5 k6 k7 m0 m1 m2 m3 m4 m5 HB1c HB1m HB2c HB2m
  rcases hcase with ⟨hright, rfl⟩ | ⟨hright, g, rfl, hgl, hlat⟩
  · go_wp2
    go_ret
    exact ⟨rfl, HF3.out⟩
  have HG := Lib.hid (good_of hright)
  have HK0 := Lib.hid (newB_kids hright)
  have HL := Lib.hid hlat.any
  clear hlat hright
  have HC3 := Lib.hid (HC.out.fr (q := fun _ => True) (fun k hk hlt => ⟨trivial, HF3.out.block k hlt (by simp)⟩))
  have HT3 := Lib.hid (HT.out.fr (q := fun _ => True) (fun k hk hlt => ⟨trivial, HF3.out.block k hlt (by simp)⟩))
  have HM3 := Lib.hid (HM.out.fr (q := fun _ => True) (fun k hk hlt => ⟨trivial, HF3.out.block k hlt (by simp)⟩))
  have HS3 := Lib.hid (HR.out.s.fr (q := fun _ => True) (fun k hk hlt => ⟨trivial, HF3.out.block k hlt (by simp)⟩))
  have HT8 := Lib.hid (HR.out.t.fr (q := fun _ => True) (fun k hk hlt => ⟨trivial, HF3.out.block k hlt (by simp)⟩))
  obtain ⟨As, cs, rfl, _⟩ := HS3.out.form
  obtain ⟨At, ct, rfl, _⟩ := HT8.out.form
  have lS := HS3.out.len
  have lTr := HT8.out.len
  have hr2 : ∀ w, Fr [] w3 w → Calls Try.prog 48 #[.pointer (some ⟨g, 0, none⟩), .slice A1 cfg.length d1, .slice A3 mem.length d3, .slice none 0 0] w (NewInts w []) := fun w F => by
    have h := resolve_any w g c cfg mem [] A1 A3 none d1 d3 0 (fun _ => True) (fun _ => True) (fun _ => True) HG.out (fun t h => by cases h) (by decide) (HC3.out.fr (fun k _ hk => ⟨trivial, F.block k hk (by simp)⟩)) (HM3.out.fr (fun k _ hk => ⟨trivial, F.block k hk (by simp)⟩)) (Sl.nil _ _ _) (HL.out.on F)
    rw [res_none] at h
    exact h
  have HR2 := Lib.hid hr2
  have HR1 : Hid (∀ w A, Fr [] w3 w → Sl rInt (fun _ => True) w (.slice A 4 4) [t, t, -1, t] → Calls Try.prog 48 #[.pointer (some ⟨g, 0, none⟩), .slice A1 cfg.length d1, .slice A3 mem.length d3, .slice A 4 4] w (NewInts w (if knownB c t then [t] else []))) := Lib.hid (fun w A F hs => by
    have h := resolve_any w g c cfg mem [t, t, -1, t] A1 A3 A d1 d3 4 (fun _ => True) (fun _ => True) (fun _ => True) HG.out (fun x hx => by
      simp at hx
      rcases hx with h | h | h
      · rw [h]; exact htw
      · rw [h]; decide
      · rw [h]; exact htw) (by simp) (HC3.out.fr (fun k _ hk => ⟨trivial, F.block k hk (by simp)⟩)) (HM3.out.fr (fun k _ hk => ⟨trivial, F.block k hk (by simp)⟩)) hs (HL.out.on F)
    rw [res_one] at h
    exact h)
  clear hr2
  have k0 := HB3c.out.cell 0
  have k1 := HB3c.out.cell 1
  have k2 := HB3c.out.cell 2
  have k3 := HB3c.out.cell 3
  have k4 := HB3c.out.cell 4
  have k5 := HB3c.out.cell 5
  have k6 := HB3c.out.cell 6
  have k7 := HB3c.out.cell 7
  have m0 := HB3m.out.cell 0
  have m1 := HB3m.out.cell 1
  have m2 := HB3m.out.cell 2
  have m3 := HB3m.out.cell 3
  have m4 := HB3m.out.cell 4
  have m5 := HB3m.out.cell 5
  simp at k0 k1 k2 k3 k4 k5 k6 k7 m0 m1 m2 m3 m4 m5
  cases hkn : knownB c t with
  | true =>
    obtain ⟨j, rfl, hj⟩ := knownB_nat hkn
    have hj0 : (0 : Int) ≤ (j : Int) := by omega
    have hjz : (j : Int) < (c.trans.length : Int) := by omega
    have HFa : Hid (Fr [] w3 ((w3.alloc (.cells #[.int .i64 (j : Int)] 3)).alloc (.cells #[.int .i64 (j : Int), .int .i64 (j : Int), .int .i64 (-1), .int .i64 (j : Int)] 3))) := Lib.hid (((Fr.refl [] w3).alloc _).alloc _)
    have hs4 := ints_new (w3.alloc (.cells #[.int .i64 (j : Int)] 3)) [(j : Int), (j : Int), -1, (j : Int)] (by simp)
    rw [show (w3.alloc (.cells #[.int .i64 (j : Int)] 3)).heap.size = w3.heap.size + 1 by simp] at hs4
    have q1 := HR1.out _ _ HFa.out hs4
    rw [if_pos hkn] at q1
    clear hs4 hkn
    have d0 := cell_on ((Fr.refl [] w3).alloc (.cells #[.int .i64 (j : Int)] 3)) m0
    have d2 := cell_on ((Fr.refl [] w3).alloc (.cells #[.int .i64 (j : Int)] 3)) m2
    have e0 := cell_on HFa.out m0
    have e2 := cell_on HFa.out m2
    go_wp2_with fail
    refine q1.mono ?_
    rintro e w4 ⟨A4', d4', rfl, f4, own4⟩
    have HF4 := Lib.hid (HFa.out.trans' f4)
    have HO4 := Lib.hid (int_own' own4 (by simp))
    have q2 := sameInts_any w4 [(j : Int)] [(j : Int)] A4' (some ⟨w3.heap.size, 0, none⟩) d4' 1 _ (fun _ => True) HO4.out ((ints_new w3 [(j : Int)] (by simp)).fr (fun k _ hk => ⟨trivial, (((Fr.refl [] (w3.alloc (.cells #[.int .i64 (j : Int)] 3))).alloc (.cells #[.int .i64 (j : Int), .int .i64 (j : Int), .int .i64 (-1), .int .i64 (j : Int)] 3)).trans (f4) (fun _ h _ => h)).block k hk (by simp)⟩))
    rw [show decide ((([(j : Int)]) : List Int) = [(j : Int)]) = true by simp] at q2
    clear own4 q1 f4
    go_wp2_with fail
    refine q2.mono ?_
    rintro e w5 ⟨rfl, f5⟩
    have HF5 := Lib.hid (HF4.out.trans' f5)
    have q3 := HR2.out _ HF5.out
    have b9 := (HB3m.out.fr HF5.out (by simp)).cell 0
    have b10 := (HB3m.out.fr HF5.out (by simp)).cell 2
    simp at b9 b10
    clear f5 q2
    go_wp2_with fail
    refine q3.mono ?_
    rintro e w6 ⟨A6, d6, rfl, f6, own6⟩
    have HF6 := Lib.hid (HF3.out.trans' (HF5.out.trans' f6))
    clear own6 f6 q3
    go_wp2
    go_ret
    exact ⟨rfl, HF6.out⟩
  | false =>
    by_cases ht0 : 0 ≤ t
    · have htn : ¬ t < (c.trans.length : Int) := by
        intro h
        have : knownB c t = true := by simp [knownB]; omega
        rw [hkn] at this
        cases this
      have HFa : Hid (Fr [] w3 (w3.alloc (.cells #[.int .i64 t, .int .i64 t, .int .i64 (-1), .int .i64 t] 3))) := Lib.hid ((Fr.refl [] w3).alloc _)
      have hs4 := ints_new w3 [t, t, -1, t] (by simp)
      have q1 := HR1.out _ _ HFa.out hs4
      rw [hkn] at q1
      clear hs4 hkn
      have e0 := cell_on HFa.out m0
      have e2 := cell_on HFa.out m2
      go_wp2_with fail
      refine q1.mono ?_
      rintro e w4 ⟨A4', d4', rfl, f4, own4⟩
      have HF4 := Lib.hid (HFa.out.trans' f4)
      have HO4 := Lib.hid (int_own' own4 (by simp))
      have q2 := sameInts_any w4 [] [] A4' none d4' 0 _ (fun _ => True) HO4.out (Sl.nil _ _ _)
      rw [show decide ((([]) : List Int) = []) = true by simp] at q2
      clear own4 q1 f4
      go_wp2_with fail
      refine q2.mono ?_
      rintro e w5 ⟨rfl, f5⟩
      have HF5 := Lib.hid (HF4.out.trans' f5)
      have q3 := HR2.out _ HF5.out
      have b9 := (HB3m.out.fr HF5.out (by simp)).cell 0
      have b10 := (HB3m.out.fr HF5.out (by simp)).cell 2
      simp at b9 b10
      clear f5 q2
      go_wp2_with fail
      refine q3.mono ?_
      rintro e w6 ⟨A6, d6, rfl, f6, own6⟩
      have HF6 := Lib.hid (HF3.out.trans' (HF5.out.trans' f6))
      clear own6 f6 q3
      go_wp2
      go_ret
      exact ⟨rfl, HF6.out⟩
    · have htd : decide (0 ≤ t) = false := by simpa using ht0
      have HFa : Hid (Fr [] w3 (w3.alloc (.cells #[.int .i64 t, .int .i64 t, .int .i64 (-1), .int .i64 t] 3))) := Lib.hid ((Fr.refl [] w3).alloc _)
      have hs4 := ints_new w3 [t, t, -1, t] (by simp)
      have q1 := HR1.out _ _ HFa.out hs4
      rw [hkn] at q1
      clear hs4 hkn
      have e0 := cell_on HFa.out m0
      have e2 := cell_on HFa.out m2
      go_wp2_with fail
      refine q1.mono ?_
      rintro e w4 ⟨A4', d4', rfl, f4, own4⟩
      have HF4 := Lib.hid (HFa.out.trans' f4)
      have HO4 := Lib.hid (int_own' own4 (by simp))
      have q2 := sameInts_any w4 [] [] A4' none d4' 0 _ (fun _ => True) HO4.out (Sl.nil _ _ _)
      rw [show decide ((([]) : List Int) = []) = true by simp] at q2
      clear own4 q1 f4
      go_wp2_with fail
      refine q2.mono ?_
      rintro e w5 ⟨rfl, f5⟩
      have HF5 := Lib.hid (HF4.out.trans' f5)
      have q3 := HR2.out _ HF5.out
      have b9 := (HB3m.out.fr HF5.out (by simp)).cell 0
      have b10 := (HB3m.out.fr HF5.out (by simp)).cell 2
      simp at b9 b10
      clear f5 q2
      go_wp2_with fail
      refine q3.mono ?_
      rintro e w6 ⟨A6, d6, rfl, f6, own6⟩
      have HF6 := Lib.hid (HF3.out.trans' (HF5.out.trans' f6))
      clear own6 f6 q3
      go_wp2
      go_ret
      exact ⟨rfl, HF6.out⟩
end Go.Proofs.Ytekfbafljilchaa
