/- pennantlaw13: small, awake. -/
import Derived.Test.YtekfbafljilchaaE5
import Derived.Test.YtekfbafljilchaaF2
import Derived.Test.YtekfbafljilchaaF1
import Derived.Test.YtekfbafljilchaaG1
import Derived.Test.YtekfbafljilchaaG4
set_option linter.unusedVariables false
set_option linter.unusedSimpArgs false
namespace Go.Proofs.Ytekfbafljilchaa
open Go.RowKit Go.Lib

def noBytes : ByteArray := ⟨#[]⟩
def noLoad : DLoad := ⟨0, [], noBytes⟩
def mkSt (kind par : Int) (kids : List Int) (init : Int) (trans : List Int) : DState := ⟨noBytes, kind, par, kids, init, [], [], trans, [], [], noLoad⟩
def mkTr (src : Int) (events : List ByteArray) (targets : List Int) : DTrans := ⟨src, events, noBytes, targets, false, -1⟩
def sm13 : DChart := ⟨noBytes, false, -1, [mkSt 0 (-1) [1, 4] 0 [], mkSt 2 0 [2, 3] (-1) [], mkSt 1 1 [] (-1) [], mkSt 1 1 [] (-1) [], mkSt 3 0 [] (-1) []], [mkTr 0 [] [1]], [], [], []⟩
def noChart : DChart := ⟨noBytes, false, 0, [], [], [], [], []⟩

/-- A block that is known whole reads as a list. -/
theorem sl_blk {α : Type} {K : Rk α} {t : TypeId} {g : Nat} {p : Nat → Prop} {w : World} {l : List α} {cells : Array Value} (css : List (List Value)) (hb : Blk w g cells t) (hc : cells.toList = css.flatten) (hR : Rows_ K p w css l) (hp : p g) (hl : l.length ≤ 1000) (hk : K.by_ ≤ 1000) : Sl K p w (.slice (some ⟨g, 0, none⟩) l.length l.length) l := by
  have hlen : css.flatten.length = l.length * K.n := by
    have := hR.lens
    have h2 : ∀ (xs : List (List Value)), (∀ cs ∈ xs, cs.length = K.n) → xs.flatten.length = xs.length * K.n := by
      intro xs
      induction xs with
      | nil => intro _; simp
      | cons x xs ih => intro h; simp [ih (fun cs hcs => h cs (List.mem_cons_of_mem _ hcs)), h x (List.mem_cons_self ..), Nat.add_mul]; omega
    rw [h2 css this, hR.1]
  refine sl_of_own (t := t) (base := g) (css := css) ⟨hlen, .inr ⟨g, l.length, cells, rfl, Nat.le_refl _, hb, Nat.le_refl _, by unfold maxLen; omega, ?_, ?_⟩⟩ hR ?_ ?_
  · rw [← hlen, ← hc]; simp
  · rw [hc, ← hlen]; exact List.take_length
  · exact Nat.le_trans (Nat.mul_le_mul hl hk) (by decide)
  · intro k h1 h2 h3
    simp [Value.ownBlock] at h3
    rw [← h3]; exact hp
theorem rows_nil {α : Type} (K : Rk α) (p : Nat → Prop) (w : World) : Rows_ K p w [] [] := ⟨rfl, fun j cs x h => by simp at h⟩
theorem rows_cons {α : Type} {K : Rk α} {p : Nat → Prop} {w : World} {cs : List Value} {x : α} {css : List (List Value)} {l : List α} (h : K.ok p w cs x) (hr : Rows_ K p w css l) : Rows_ K p w (cs :: css) (x :: l) :=
  ⟨by simp [hr.1], fun j cs' x' h1 h2 => by
    cases j with
    | zero => simp at h1 h2; subst h1 h2; exact h
    | succ j => exact hr.2 j cs' x' (by simpa using h1) (by simpa using h2)⟩
theorem rows_ints (p : Nat → Prop) (w : World) : ∀ l : List Int, Rows_ rInt p w (l.map fun x => [Value.int .i64 x]) l
  | [] => rows_nil _ _ _
  | x :: l => rows_cons rfl (rows_ints p w l)
theorem sl_ints {p : Nat → Prop} {w : World} {g : Nat} {t : TypeId} (l : List Int) (hb : Blk w g (l.map (.int .i64)).toArray t) (hp : p g) (hl : l.length ≤ 1000) : Sl rInt p w (.slice (some ⟨g, 0, none⟩) l.length l.length) l :=
  sl_blk (l.map fun x => [Value.int .i64 x]) hb (by
    clear hb hl
    induction l with
    | nil => rfl
    | cons x l ih => simpa using ih) (rows_ints p w l) hp hl (by decide)
/-- A list of numbers that has just been laid. -/
theorem ints_new (w : World) (l : List Int) (hl : l.length ≤ 1000) : Sl rInt (fun _ => True) (w.alloc (.cells (l.map (.int .i64)).toArray 3)) (.slice (some ⟨w.heap.size, 0, none⟩) l.length l.length) l :=
  sl_ints l (Blk.new w _ 3) trivial hl

theorem Tree.hpar {c : DChart} (T : Tree c) : ∀ a : Nat, a < c.states.length → par c a < (c.states.length : Int) := fun a ha => by
  rcases Nat.eq_zero_or_pos a with rfl | h0
  · have := T.top; omega
  · have := T.par1 a h0 ha; omega
/-- A chart that reads as c lies behind W. -/
def SmallPost (W : World) (c : DChart) (e : Ending) (w' : World) : Prop :=
  ∃ vS vT vB vD vI, e = .returned (chartV c vS vT vB vD vI) ∧ Fr [] W w' ∧ Rows8 (fun k => k < w'.heap.size) w' c vS vT vB vD vI

theorem ok_st {p : Nat → Prop} {w : World} {v3 v7 : Value} {kind par init : Int} {kids trans : List Int} (h3 : Sl rInt p w v3 kids) (h7 : Sl rInt p w v7 trans) :
    rState.ok p w [.string noBytes, .int .i64 kind, .int .i64 par, v3, .int .i64 init, .slice none 0 0, .slice none 0 0, v7, .slice none 0 0, .slice none 0 0, .int .i64 0, .slice none 0 0, .string noBytes] (mkSt kind par kids init trans) :=
  ⟨_, _, _, _, _, _, _, rfl, h3, Sl.nil _ _ _, Sl.nil _ _ _, h7, Sl.nil _ _ _, Sl.nil _ _ _, Sl.nil _ _ _⟩
theorem ok_tr {p : Nat → Prop} {w : World} {v1 v3 : Value} {src : Int} {events : List ByteArray} {targets : List Int} (h1 : Sl rStr p w v1 events) (h3 : Sl rInt p w v3 targets) :
    rTrans.ok p w [.int .i64 src, v1, .string noBytes, v3, .bool false, .int .i64 (-1)] (mkTr src events targets) :=
  ⟨_, _, rfl, h1, h3⟩

theorem small_rows13 (w : World) (n : Nat) (b1 : Blk w (n + 1) #[.int .i64 1, .int .i64 4] 3) (b2 : Blk w (n + 1 + 1) #[.int .i64 2, .int .i64 3] 3)
    (b3 : Blk w (n + 1 + 1 + 1) #[.string noBytes, .int .i64 0, .int .i64 (-1), .slice (some ⟨n + 1, 0, none⟩) 2 2, .int .i64 0, .slice none 0 0, .slice none 0 0, .slice none 0 0, .slice none 0 0, .slice none 0 0, .int .i64 0, .slice none 0 0, .string noBytes, .string noBytes, .int .i64 2, .int .i64 0, .slice (some ⟨n + 1 + 1, 0, none⟩) 2 2, .int .i64 (-1), .slice none 0 0, .slice none 0 0, .slice none 0 0, .slice none 0 0, .slice none 0 0, .int .i64 0, .slice none 0 0, .string noBytes, .string noBytes, .int .i64 1, .int .i64 1, .slice none 0 0, .int .i64 (-1), .slice none 0 0, .slice none 0 0, .slice none 0 0, .slice none 0 0, .slice none 0 0, .int .i64 0, .slice none 0 0, .string noBytes, .string noBytes, .int .i64 1, .int .i64 1, .slice none 0 0, .int .i64 (-1), .slice none 0 0, .slice none 0 0, .slice none 0 0, .slice none 0 0, .slice none 0 0, .int .i64 0, .slice none 0 0, .string noBytes, .string noBytes, .int .i64 3, .int .i64 0, .slice none 0 0, .int .i64 (-1), .slice none 0 0, .slice none 0 0, .slice none 0 0, .slice none 0 0, .slice none 0 0, .int .i64 0, .slice none 0 0, .string noBytes] 50)
    (b4 : Blk w (n + 1 + 1 + 1 + 1) #[.int .i64 1] 3) (b5 : Blk w (n + 1 + 1 + 1 + 1 + 1) #[.int .i64 0, .slice none 0 0, .string noBytes, .slice (some ⟨n + 1 + 1 + 1 + 1, 0, none⟩) 1 1, .bool false, .int .i64 (-1)] 45) :
    Rows8 (fun k => k < w.heap.size) w sm13 (.slice (some ⟨n + 3, 0, none⟩) 5 5) (.slice (some ⟨n + 5, 0, none⟩) 1 1) (.slice none 0 0) (.slice none 0 0) (.slice none 0 0) := by
  have i1 := sl_ints (p := fun k => k < w.heap.size) [1, 4] b1 b1.lt (by decide)
  have i2 := sl_ints (p := fun k => k < w.heap.size) [2, 3] b2 b2.lt (by decide)
  have i4 := sl_ints (p := fun k => k < w.heap.size) [1] b4 b4.lt (by decide)
  have z := Sl.nil rInt (fun k => k < w.heap.size) w
  exact ⟨sl_blk _ b3 rfl (rows_cons (ok_st i1 z) (rows_cons (ok_st i2 z) (rows_cons (ok_st z z) (rows_cons (ok_st z z) (rows_cons (ok_st z z) (rows_nil _ _ _)))))) b3.lt (by decide) (by decide),
    sl_blk _ b5 rfl (rows_cons (ok_tr (Sl.nil _ _ _) i4) (rows_nil _ _ _)) b5.lt (by decide) (by decide), Sl.nil _ _ _, Sl.nil _ _ _, Sl.nil _ _ _⟩
set_option maxRecDepth 100000 in
set_option maxHeartbeats 4000000 in
theorem small13_any (W : World) : Calls Try.prog 69 #[] W (SmallPost W sm13) := by
  go_enter Try.func69, Try.ntmps69
  go_wp2
  refine bodyPost_ret (v := chartV sm13 (.slice (some ⟨W.heap.size + 3, 0, none⟩) 5 5) (.slice (some ⟨W.heap.size + 5, 0, none⟩) 1 1) (.slice none 0 0) (.slice none 0 0) (.slice none 0 0)) (by simp [results, Try.results69, go_sem, chartV, sm13, noBytes]) rfl ?_
  refine ⟨_, _, _, _, _, rfl, ((((((Fr.refl [] W).alloc _).alloc _).alloc _).alloc _).alloc _).alloc _, small_rows13 _ W.heap.size ?_ ?_ ?_ ?_ ?_⟩
  · exact ((((Blk.newAt (sizeAt rfl)).alloc _).alloc _).alloc _).alloc _
  · exact (((Blk.newAt (sizeAt (sizeAt rfl))).alloc _).alloc _).alloc _
  · exact ((Blk.newAt (sizeAt (sizeAt (sizeAt rfl)))).alloc _).alloc _
  · exact (Blk.newAt (sizeAt (sizeAt (sizeAt (sizeAt rfl))))).alloc _
  · exact Blk.newAt (sizeAt (sizeAt (sizeAt (sizeAt (sizeAt rfl)))))
/-! ### awake -/
theorem noRows (w : World) : Rows8 (fun k => k < w.heap.size) w noChart (.slice none 0 0) (.slice none 0 0) (.slice none 0 0) (.slice none 0 0) (.slice none 0 0) := ⟨Sl.nil _ _ _, Sl.nil _ _ _, Sl.nil _ _ _, Sl.nil _ _ _, Sl.nil _ _ _⟩
theorem run_field28 (a0 a1 a2 a3 a4 a5 a6 a7 : Value) (w : World) : (Instr.field 28 (.agg #[a0, a1, a2, a3, a4, a5, a6, a7]) 3).run Try.prog w = .ok a3 w := by kernel_rfl
theorem sm13_right : newB sm13 = true := by decide +kernel
theorem no_wrong : newB noChart = false := by decide +kernel
set_option maxRecDepth 100000 in
set_option maxHeartbeats 16000000 in
theorem awake13_any (W : World) : Calls Try.prog 24 #[] W fun e w' => e = .returned (.bool true) ∧ Fr [] W w' := by
  have T : Hid (Tree sm13) := Lib.hid (newB_tree sm13_right)
  go_enter Try.func24, Try.ntmps24
  go_wp2_with fail
  refine (small13_any _).mono ?_
  rintro e w1 ⟨vS, vT, vB, vD, vI, rfl, f1, rows1⟩
  have HF1 := Lib.hid f1
  have hn1 := new_any w1 sm13 vS vT vB vD vI rows1
  clear f1 rows1
  go_wp2_with fail
  refine hn1.mono ?_
  rintro e w2 ⟨f2, hcase⟩
  rw [sm13_right] at hcase
  simp only [Bool.true_eq_false, false_and, true_and, false_or] at hcase
  obtain ⟨g, rfl, hgl, hlat⟩ := hcase
  have HF2 := Lib.hid (HF1.out.trans' f2)
  have HL2 := Lib.hid hlat.any
  clear f2 hgl hlat
  have hn2 := new_any w2 noChart _ _ _ _ _ (noRows w2)
  go_wp2_with fail
  refine hn2.mono ?_
  rintro e w3 ⟨f3, hcase⟩
  rw [no_wrong] at hcase
  simp only [Bool.false_eq_true, false_and, true_and, or_false] at hcase
  subst hcase
  have HF3 := Lib.hid (HF2.out.trans' f3)
  have HL3 := Lib.hid (HL2.out.on f3)
  clear f3
  have q1 := inside_any w3 g sm13 3 1 HL3.out
  rw [show inB sm13 3 1 = true by decide +kernel] at q1
  have q2 := inside_any w3 g sm13 1 3 HL3.out
  rw [show inB sm13 1 3 = false by decide +kernel] at q2
  go_wp2_with fail
  refine q1.mono ?_
  rintro e w' ⟨rfl, rfl⟩
  clear q1
  go_wp2_with fail
  refine q2.mono ?_
  rintro e w' ⟨rfl, rfl⟩
  clear q2
  have hf3 := Lib.hid ((Fr.refl [] w3).alloc (.cells #[.int .i64 1, .int .i64 2, .int .i64 3] 3))
  have hq3 := legal_any (w3.alloc (.cells #[.int .i64 1, .int .i64 2, .int .i64 3] 3)) g sm13 [1, 2, 3] (some ⟨w3.heap.size, 0, none⟩) 3 (fun _ => True) (by decide) (by decide) T.out.hpar (ints_new w3 [1, 2, 3] (by decide)) (HL3.out.on hf3.out)
  rw [show legalB sm13 [1, 2, 3] = true by decide +kernel] at hq3
  go_wp2_with fail
  refine hq3.mono ?_
  rintro e w4 ⟨rfl, f4⟩
  have HF4 := Lib.hid (HF3.out.trans' (hf3.out.trans' f4))
  have HL4 := Lib.hid (HL3.out.on (hf3.out.trans' f4))
  clear f4 hq3 hf3
  have hf4 := Lib.hid ((Fr.refl [] w4).alloc (.cells #[.int .i64 1, .int .i64 2] 3))
  have hq4 := legal_any (w4.alloc (.cells #[.int .i64 1, .int .i64 2] 3)) g sm13 [1, 2] (some ⟨w4.heap.size, 0, none⟩) 2 (fun _ => True) (by decide) (by decide) T.out.hpar (ints_new w4 [1, 2] (by decide)) (HL4.out.on hf4.out)
  rw [show legalB sm13 [1, 2] = false by decide +kernel] at hq4
  go_wp2_with fail
  refine hq4.mono ?_
  rintro e w5 ⟨rfl, f5⟩
  have HF5 := Lib.hid (HF4.out.trans' (hf4.out.trans' f5))
  have HL5 := Lib.hid (HL4.out.on (hf4.out.trans' f5))
  clear f5 hq4 hf4
  have hf5 := Lib.hid ((Fr.refl [] w5).alloc (.cells #[.int .i64 4] 3))
  have hq5 := legal_any (w5.alloc (.cells #[.int .i64 4] 3)) g sm13 [4] (some ⟨w5.heap.size, 0, none⟩) 1 (fun _ => True) (by decide) (by decide) T.out.hpar (ints_new w5 [4] (by decide)) (HL5.out.on hf5.out)
  rw [show legalB sm13 [4] = true by decide +kernel] at hq5
  go_wp2_with fail
  refine hq5.mono ?_
  rintro e w6 ⟨rfl, f6⟩
  have HF6 := Lib.hid (HF5.out.trans' (hf5.out.trans' f6))
  have HL6 := Lib.hid (HL5.out.on (hf5.out.trans' f6))
  clear f6 hq5 hf5
  have hf6 := Lib.hid ((Fr.refl [] w6).alloc (.cells #[.int .i64 4] 3))
  have hq6 := finished_any (w6.alloc (.cells #[.int .i64 4] 3)) g sm13 [4] 0 (some ⟨w6.heap.size, 0, none⟩) 1 (fun _ => True) T.out (ints_new w6 [4] (by decide)) (HL6.out.on hf6.out)
  rw [show finB sm13 [4] 0 = true by decide +kernel] at hq6
  go_wp2_with fail
  refine hq6.mono ?_
  rintro e w7 ⟨rfl, f7⟩
  have HF7 := Lib.hid (HF6.out.trans' (hf6.out.trans' f7))
  have HL7 := Lib.hid (HL6.out.on (hf6.out.trans' f7))
  clear f7 hq6 hf6
  have hf7 := Lib.hid ((Fr.refl [] w7).alloc (.cells #[.int .i64 2, .int .i64 3] 3))
  have hq7 := common_any (w7.alloc (.cells #[.int .i64 2, .int .i64 3] 3)) g sm13 [2, 3] (some ⟨w7.heap.size, 0, none⟩) 2 (fun _ => True) T.out (ints_new w7 [2, 3] (by decide)) (HL7.out.on hf7.out)
  rw [show comB sm13 [2, 3] = 0 by decide +kernel] at hq7
  go_wp2_with fail
  refine hq7.mono ?_
  rintro e w8 ⟨rfl, f8⟩
  have HF8 := Lib.hid (HF7.out.trans' (hf7.out.trans' f8))
  have HL8 := Lib.hid (HL7.out.on (hf7.out.trans' f8))
  clear f8 hq7 hf7
  have q3 := atomic_any w8 g sm13 2 HL8.out
  rw [show atomB sm13 2 = true by decide +kernel] at q3
  go_wp2_with fail
  refine q3.mono ?_
  rintro e w' ⟨rfl, rfl⟩
  clear q3
  have q4 := compound_any w8 g sm13 0 HL8.out
  rw [show compB sm13 0 = true by decide +kernel] at q4
  go_wp2_with fail
  refine q4.mono ?_
  rintro e w' ⟨rfl, rfl⟩
  clear q4
  have q5 := above_any w8 g sm13 3 (-1) T.out HL8.out
  rw [show abv sm13 3 (-1) = [1, 0] by decide +kernel] at q5
  go_wp2_with fail
  refine q5.mono ?_
  rintro e w9 ⟨v5, rfl, own5, f5⟩
  obtain ⟨A5, d5, rfl⟩ := own_slice own5
  have HF9 := Lib.hid (HF8.out.trans' f5)
  have HL9 := Lib.hid (HL8.out.on f5)
  clear f5 q5 own5
  have q6 := kids_any w9 g sm13 1 HL9.out
  rw [show kidsV sm13 1 = [2, 3] by decide +kernel] at q6
  go_wp2_with fail
  refine q6.mono ?_
  rintro e w10 ⟨A6, d6, rfl, f6, s6⟩
  have HF10 := Lib.hid (HF9.out.trans' f6)
  have HL10 := Lib.hid (HL9.out.on f6)
  clear f6 q6 s6
  have q7 := chart_any w10 g sm13 HL10.out
  go_wp2_with fail
  refine q7.mono ?_
  rintro e w11 ⟨xS, xT, xB, xD, xI, rfl, f7, rows7⟩
  obtain ⟨xs, xc, rfl, _⟩ := rows7.s.form
  have HF11 := Lib.hid (HF10.out.trans' f7)
  clear f7 q7 rows7
  have e5 : sm13.states.length = 5 := rfl
  rw [e5]
  unfold chartV
  have hfd := fun w => run_field28 (.string sm13.name) (.bool sm13.late) (.int .i64 sm13.script) (.slice xs 5 xc) xT xB xD xI w
  go_wp2
  go_ret
  exact ⟨rfl, HF11.out⟩
end Go.Proofs.Ytekfbafljilchaa

/- pennantlaw13: large. -/
set_option linter.unusedVariables false
set_option linter.unusedSimpArgs false
namespace Go.Proofs.Ytekfbafljilchaa
open Go.RowKit Go.Lib

/-- It says something, and turns nothing old. -/
def SomeBool (W : World) (e : Ending) (w' : World) : Prop := (∃ b : Bool, e = .returned (.bool b)) ∧ Fr [] W w'
def chartA (c : DChart) (vS vT vB vD vI : Value) : Array Value := #[.string c.name, .bool c.late, .int .i64 c.script, vS, vT, vB, vD, vI]

/-- True, and nothing old has turned. -/
def Yes (W : World) (e : Ending) (w' : World) : Prop := e = .returned (.bool true) ∧ Fr [] W w'

theorem len_sum {a b : Nat} (ha : a ≤ 140737488351232) (hb : b ≤ 140737488351232) : IntKind.i64.wrap ((a : Int) + (b : Int)) = (a : Int) + (b : Int) := IntWalk.i64_in _ (by omega)

set_option maxRecDepth 100000 in
set_option maxHeartbeats 8000000 in
theorem large13_any (W : World) (c : DChart) (vS vT vB vD vI : Value) (h : Rows8 (fun k => k < W.heap.size) W c vS vT vB vD vI) :
    Calls Try.prog 25 #[chartV c vS vT vB vD vI] W (SomeBool W) := by
  obtain ⟨hS, hT, hB, hD, hI⟩ := h
  have lS := hS.len
  have lT := hT.len
  obtain ⟨As, cs, rfl, _⟩ := hS.form
  obtain ⟨At, ct, rfl, _⟩ := hT.form
  have HS := Lib.hid hS
  have HT := Lib.hid hT
  have hbx := Lib.hid (Blk.new W #[.string c.name, .bool c.late, .int .i64 c.script, .slice As c.states.length cs, .slice At c.trans.length ct, vB, vD, vI] 28)
  have hf0 := Lib.hid ((Fr.refl [] W).alloc (.cells #[.string c.name, .bool c.late, .int .i64 c.script, .slice As c.states.length cs, .slice At c.trans.length ct, vB, vD, vI] 28))
  clear hS hT hB hD hI
  unfold chartV
  by_cases h1 : (200 : Int) < (c.states.length : Int)
  · go_enter Try.func25, Try.ntmps25
    go_wp2
    go_ret
    exact ⟨⟨_, rfl⟩, hf0.out⟩
  by_cases h2 : (400 : Int) < (c.trans.length : Int)
  · go_enter Try.func25, Try.ntmps25
    go_wp2
    go_ret
    exact ⟨⟨_, rfl⟩, hf0.out⟩
  go_enter Try.func25, Try.ntmps25
  go_wp2
  generalize (W.alloc (.cells #[.string c.name, .bool c.late, .int .i64 c.script, .slice As c.states.length cs, .slice At c.trans.length ct, vB, vD, vI] 28)) = W1 at *
  go_loopg [18] c.states.length (fun gg s18 wr => ∃ k : Nat, k ≤ c.states.length ∧ c.states.length - k ≤ gg ∧ s18 = .int .i64 k ∧ Aside (Fr [] W1 wr))
  case atStart => exact ⟨0, Nat.zero_le _, by omega, rfl, Fr.refl _ _⟩
  case round =>
    obtain ⟨k, hk, hg, rfl, hfr⟩ := hrel
    have hb3 : wr.cell? ⟨W.heap.size, 3, none⟩ = some (.slice As c.states.length cs) := by have := (hbx.out.fr hfr.out (by simp)).cell 3; simpa using this
    have hb4 : wr.cell? ⟨W.heap.size, 4, none⟩ = some (.slice At c.trans.length ct) := by have := (hbx.out.fr hfr.out (by simp)).cell 4; simpa using this
    by_cases hlt : k < c.states.length
    · have hltz : (k : Int) < (c.states.length : Int) := by omega
      have hk0 : (0 : Int) ≤ (k : Int) := by omega
      have hSr := HS.out.fr (q := fun _ => True) (w' := wr) (fun x hx hlt => ⟨trivial, (hf0.out.trans' hfr.out).block x hlt (by simp)⟩)
      obtain ⟨gs, os, A3, d3, A5, d5, A6, d6, A7, d7, A8, d8, A9, d9, A11, d11, rfl, _, _, _, _, _, c3, _, _, _, c7, _, _, _, _, _, s3, _, _, s7, _⟩ := hSr.state_at k hlt
      have l3 := s3.len
      have l7 := s7.len
      have hsum := len_sum l3 l7
      clear s3 s7 hSr hb4
      go_wp2
      go_quiet (fail)
      by_cases hbig : (400 : Int) < (c.states[k].kids.length : Int) + (c.states[k].trans.length : Int)
      · go_wp2
        go_ret
        exact ⟨⟨_, rfl⟩, hf0.out.trans' (hfr.out.drewN _)⟩
      · go_wp2
        go_roundg (c.states.length - (k + 1))
        case measure => omega
        case rel => exact ⟨k + 1, by omega, by omega, by go_num, hfr.out.drewN _⟩
    · obtain rfl : k = c.states.length := by omega
      have hltz : ¬ (c.states.length : Int) < (c.states.length : Int) := by omega
      go_wp2
      obtain ⟨wo, rfl⟩ : ∃ wo : World, wo = wr := ⟨_, rfl⟩
      go_loopg [41] c.trans.length (fun gg s41 wr => ∃ k : Nat, k ≤ c.trans.length ∧ c.trans.length - k ≤ gg ∧ s41 = .int .i64 k ∧ Aside (Fr [] W1 wr))
      case atStart => exact ⟨0, Nat.zero_le _, by omega, rfl, hfr⟩
      case round =>
        obtain ⟨k, hk, hg, rfl, hfr⟩ := hrel
        clear hb3 hb4
        have hb4 : wr.cell? ⟨W.heap.size, 4, none⟩ = some (.slice At c.trans.length ct) := by have := (hbx.out.fr hfr.out (by simp)).cell 4; simpa using this
        by_cases hlt : k < c.trans.length
        · have hltz : (k : Int) < (c.trans.length : Int) := by omega
          have hk0 : (0 : Int) ≤ (k : Int) := by omega
          have hTr := HT.out.fr (q := fun _ => True) (w' := wr) (fun x hx hlt => ⟨trivial, (hf0.out.trans' hfr.out).block x hlt (by simp)⟩)
          obtain ⟨gt, ot, A1, d1, A3, d3, rfl, _, _, _, _, _, c3, _, _, _, s3⟩ := hTr.trans_at k hlt
          have l3 := s3.len
          clear s3 hTr
          by_cases hbig : (30 : Int) < (c.trans[k].targets.length : Int)
          · go_wp2
            go_ret
            exact ⟨⟨_, rfl⟩, hf0.out.trans' hfr.out⟩
          · go_wp2
            go_roundg (c.trans.length - (k + 1))
            case measure => omega
            case rel => exact ⟨k + 1, by omega, by omega, by go_num, hfr⟩
        · obtain rfl : k = c.trans.length := by omega
          have hltz : ¬ (c.trans.length : Int) < (c.trans.length : Int) := by omega
          go_wp2
          go_ret
          exact ⟨⟨_, rfl⟩, hf0.out.trans' hfr.out⟩
end Go.Proofs.Ytekfbafljilchaa
