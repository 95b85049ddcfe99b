/- pennantlaw15: awake. -/
import Derived.Test.YtekfbafljilchaaM8
set_option linter.unusedVariables false
set_option linter.unusedSimpArgs false
namespace Go.Proofs.Ytekfbafljilchaa
open Go.RowKit Go.Lib

theorem sm15_right : newB sm15 = true := by decide +kernel
theorem newB_kids {c : DChart} (h : newB c = true) : kidsOf c 0 ≠ [] := by
  simp only [newB, Bool.and_eq_true, decide_eq_true_eq] at h
  exact h.1.2
def bE1 : ByteArray := ⟨#[101, 46, 49]⟩
def bX : ByteArray := ⟨#[120]⟩
theorem ints_on {w w' : World} (l : List Int) (hl : l.length ≤ 1000) (f : Fr [] (w.alloc (.cells (l.map (.int .i64)).toArray 3)) w') : Sl rInt (fun _ => True) w' (.slice (some ⟨w.heap.size, 0, none⟩) l.length l.length) l :=
  (ints_new w l hl).fr (fun k _ hk => ⟨trivial, f.block k hk (by simp)⟩)
set_option maxRecDepth 100000 in
set_option maxHeartbeats 16000000 in
theorem awake15_any (W : World) : Calls Try.prog 12 #[] W fun e w' => e = .returned (.bool true) ∧ Fr [] W w' := by
  have G : Hid (Good sm15) := Lib.hid (good_of sm15_right)
  have hk0 : Hid (kidsOf sm15 0 ≠ []) := Lib.hid (newB_kids sm15_right)
  go_enter Try.func12, Try.ntmps12
  go_wp2_with fail
  refine (small15_any _).mono ?_
  rintro e w1 ⟨vS, vT, vB, vD, vI, rfl, f1, rows1⟩
  have HF1 := Lib.hid f1
  have hn1 := new_any w1 sm15 vS vT vB vD vI rows1
  clear f1 rows1
  go_wp2_with fail
  refine hn1.mono ?_
  rintro e w2 ⟨f2, hcase⟩
  rw [sm15_right] at hcase
  simp only [Bool.true_eq_false, false_and, true_and, false_or] at hcase
  obtain ⟨g, rfl, hgl, hlat⟩ := hcase
  have HF2 := Lib.hid (HF1.out.trans' f2)
  have HL2 := Lib.hid hlat.any
  clear f2 hgl hlat hn1
  have hf2 := Lib.hid ((Fr.refl [] w2).alloc (.cells #[.int .i64 1, .int .i64 2, .int .i64 3] 3))
  have q2 := select_any (w2.alloc (.cells #[.int .i64 1, .int .i64 2, .int .i64 3] 3)) g sm15 [1, 2, 3] [] bE1 true (some ⟨w2.heap.size, 0, none⟩) none 3 0 (fun _ => True) (fun _ => True) G.out hk0.out (ints_new w2 [1, 2, 3] (by decide)) (Sl.nil _ _ _) (HL2.out.on hf2.out)
  rw [show selL sm15 [1, 2, 3] [] bE1 true = [1] by decide +kernel] at q2
  unfold bE1 at q2
  go_wp2_with fail
  refine q2.mono ?_
  rintro e w3 ⟨A3, d3, rfl, f3, own3⟩
  have HS3 := Lib.hid (int_own' own3 (by decide))
  have HF3 := Lib.hid (HF2.out.trans' (hf2.out.trans' f3))
  have HL3 := Lib.hid (HL2.out.on (hf2.out.trans' f3))
  clear own3 q2
  have HFa := Lib.hid (Fr.refl [] w3)
  have hf3 := Lib.hid ((Fr.refl [] w3).alloc (.cells #[.int .i64 1, .int .i64 2, .int .i64 3] 3))
  have q3 := select_any (w3.alloc (.cells #[.int .i64 1, .int .i64 2, .int .i64 3] 3)) g sm15 [1, 2, 3] [] bX true (some ⟨w3.heap.size, 0, none⟩) none 3 0 (fun _ => True) (fun _ => True) G.out hk0.out (ints_new w3 [1, 2, 3] (by decide)) (Sl.nil _ _ _) (HL3.out.on hf3.out)
  rw [show selL sm15 [1, 2, 3] [] bX true = [2] by decide +kernel] at q3
  unfold bX at q3
  go_wp2_with fail
  refine q3.mono ?_
  rintro e w4 ⟨A4, d4, rfl, f4, own4⟩
  have HS4 := Lib.hid (int_own' own4 (by decide))
  have HF4 := Lib.hid (HF3.out.trans' (hf3.out.trans' f4))
  have HL4 := Lib.hid (HL3.out.on (hf3.out.trans' f4))
  clear own4 q3
  have hfa4 := Lib.hid (hf3.out.trans' f4)
  have hfx := Lib.hid ((Fr.refl [] w4).alloc (.cells #[.int .i64 1, .int .i64 2, .int .i64 3] 3))
  have hfy := Lib.hid ((Fr.refl [] (w4.alloc (.cells #[.int .i64 1, .int .i64 2, .int .i64 3] 3))).alloc (.cells #[.int .i64 2, .int .i64 1] 3))
  have hs1 := ints_on [1, 2, 3] (by decide) hfy.out
  have hs2 := ints_new (w4.alloc (.cells #[.int .i64 1, .int .i64 2, .int .i64 3] 3)) [2, 1] (by decide)
  rw [show (w4.alloc (.cells #[.int .i64 1, .int .i64 2, .int .i64 3] 3)).heap.size = w4.heap.size + 1 by simp] at hs2
  have qr := resolve_any _ g sm15 [1, 2, 3] [] [2, 1] (some ⟨w4.heap.size, 0, none⟩) none (some ⟨w4.heap.size + 1, 0, none⟩) 3 0 2 (fun _ => True) (fun _ => True) (fun _ => True) G.out (by decide) (by decide) hs1 (Sl.nil _ _ _) hs2 (HL4.out.on (hfx.out.trans' hfy.out))
  rw [show resL sm15 [1, 2, 3] [] [2, 1] = [1] by decide +kernel] at qr
  go_wp2_with fail
  refine qr.mono ?_
  rintro e w5 ⟨A5, d5, rfl, f5, own5⟩
  have HS5 := Lib.hid (int_own' own5 (by decide))
  have hfa5 := Lib.hid (hfx.out.trans' (hfy.out.trans' f5))
  have HF5 := Lib.hid (HF4.out.trans' hfa5.out)
  clear own5 qr hs1 hs2
  have m1 := match_any ⟨#[101]⟩ ⟨#[101, 46, 49]⟩ w5 (by decide)
  rw [show matchB (ByteArray.toList ⟨#[101]⟩) (ByteArray.toList ⟨#[101, 46, 49]⟩) = true by decide +kernel] at m1
  have m2 := match_any ⟨#[101]⟩ ⟨#[101, 120]⟩ w5 (by decide)
  rw [show matchB (ByteArray.toList ⟨#[101]⟩) (ByteArray.toList ⟨#[101, 120]⟩) = false by decide +kernel] at m2
  go_wp2_with fail
  refine m1.mono ?_
  rintro e w' ⟨rfl, rfl⟩
  clear m1
  go_wp2_with fail
  refine m2.mono ?_
  rintro e w' ⟨rfl, rfl⟩
  clear m2
  have hg5 := Lib.hid ((Fr.refl [] w5).alloc (.cells #[.int .i64 1] 3))
  have s5 := sameInts_any (w5.alloc (.cells #[.int .i64 1] 3)) [1] [1] A3 (some ⟨w5.heap.size, 0, none⟩) d3 1 (fun _ => True) (fun _ => True) (HS3.out.fr (fun k _ hk => ⟨trivial, ((hfa4.out.trans' hfa5.out).trans' hg5.out).block k hk (by simp)⟩)) (ints_new w5 [1] (by decide))
  rw [show decide (([1] : List Int) = [1]) = true by decide] at s5
  go_wp2_with fail
  refine s5.mono ?_
  rintro e w6 ⟨rfl, f6⟩
  have HF6 := Lib.hid (HF5.out.trans' (hg5.out.trans' f6))
  have hfa6 := Lib.hid (hg5.out.trans' f6)
  clear s5
  have hg6 := Lib.hid ((Fr.refl [] w6).alloc (.cells #[.int .i64 2] 3))
  have s6 := sameInts_any (w6.alloc (.cells #[.int .i64 2] 3)) [2] [2] A4 (some ⟨w6.heap.size, 0, none⟩) d4 1 (fun _ => True) (fun _ => True) (HS4.out.fr (fun k _ hk => ⟨trivial, ((hfa5.out.trans' hfa6.out).trans' hg6.out).block k hk (by simp)⟩)) (ints_new w6 [2] (by decide))
  rw [show decide (([2] : List Int) = [2]) = true by decide] at s6
  go_wp2_with fail
  refine s6.mono ?_
  rintro e w7 ⟨rfl, f7⟩
  have HF7 := Lib.hid (HF6.out.trans' (hg6.out.trans' f7))
  have hfa7 := Lib.hid (hg6.out.trans' f7)
  clear s6
  have hg7 := Lib.hid ((Fr.refl [] w7).alloc (.cells #[.int .i64 1] 3))
  have s7 := sameInts_any (w7.alloc (.cells #[.int .i64 1] 3)) [1] [1] A5 (some ⟨w7.heap.size, 0, none⟩) d5 1 (fun _ => True) (fun _ => True) (HS5.out.fr (fun k _ hk => ⟨trivial, ((hfa6.out.trans' hfa7.out).trans' hg7.out).block k hk (by simp)⟩)) (ints_new w7 [1] (by decide))
  rw [show decide (([1] : List Int) = [1]) = true by decide] at s7
  go_wp2_with fail
  refine s7.mono ?_
  rintro e w8 ⟨rfl, f8⟩
  have HF8 := Lib.hid (HF7.out.trans' (hg7.out.trans' f8))
  have hfa8 := Lib.hid (hg7.out.trans' f8)
  clear s7
  go_wp2
  go_ret
  exact ⟨rfl, HF8.out⟩
end Go.Proofs.Ytekfbafljilchaa
