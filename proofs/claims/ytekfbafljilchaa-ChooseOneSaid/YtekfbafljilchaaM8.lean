/- pennantlaw15: small; Places that a Move has. -/
import Derived.Test.YtekfbafljilchaaM5
import Derived.Test.YtekfbafljilchaaH2
import Derived.Deep.QuietTactic
import Derived.BigQuiet
set_option linter.unusedVariables false
set_option linter.unusedSimpArgs false
namespace Go.Proofs.Ytekfbafljilchaa
open Go.RowKit Go.Lib

def sm15 : DChart := ⟨noBytes, false, -1, [mkSt 0 (-1) [1, 4] 0 [], mkSt 2 0 [2, 3] (-1) [2], mkSt 1 1 [] (-1) [1], mkSt 1 1 [] (-1) [], mkSt 1 0 [] (-1) []], [mkTr 0 [] [1], mkTr 2 [⟨#[101]⟩] [4], mkTr 1 [⟨#[42]⟩] [4]], [], [], []⟩
set_option maxRecDepth 100000 in
theorem small_rows15 (w : World) (n : Nat) (h1 : Blk w (n + 1) #[.int .i64 1, .int .i64 4] 3) (h2 : Blk w (n + 1 + 1) #[.int .i64 2, .int .i64 3] 3) (h3 : Blk w (n + 1 + 1 + 1) #[.int .i64 2] 3) (h4 : Blk w (n + 1 + 1 + 1 + 1) #[.int .i64 1] 3) (h5 : Blk w (n + 1 + 1 + 1 + 1 + 1) #[.string noBytes, .int .i64 0, .int .i64 (-1), .slice (some ⟨n + 1, 0, none⟩) 2 2, .int .i64 0, .slice none 0 0, .slice none 0 0, .slice none 0 0, .slice none 0 0, .slice none 0 0, .int .i64 0, .slice none 0 0, .string noBytes, .string noBytes, .int .i64 2, .int .i64 0, .slice (some ⟨n + 1 + 1, 0, none⟩) 2 2, .int .i64 (-1), .slice none 0 0, .slice none 0 0, .slice (some ⟨n + 1 + 1 + 1, 0, none⟩) 1 1, .slice none 0 0, .slice none 0 0, .int .i64 0, .slice none 0 0, .string noBytes, .string noBytes, .int .i64 1, .int .i64 1, .slice none 0 0, .int .i64 (-1), .slice none 0 0, .slice none 0 0, .slice (some ⟨n + 1 + 1 + 1 + 1, 0, none⟩) 1 1, .slice none 0 0, .slice none 0 0, .int .i64 0, .slice none 0 0, .string noBytes, .string noBytes, .int .i64 1, .int .i64 1, .slice none 0 0, .int .i64 (-1), .slice none 0 0, .slice none 0 0, .slice none 0 0, .slice none 0 0, .slice none 0 0, .int .i64 0, .slice none 0 0, .string noBytes, .string noBytes, .int .i64 1, .int .i64 0, .slice none 0 0, .int .i64 (-1), .slice none 0 0, .slice none 0 0, .slice none 0 0, .slice none 0 0, .slice none 0 0, .int .i64 0, .slice none 0 0, .string noBytes] 50) (h6 : Blk w (n + 1 + 1 + 1 + 1 + 1 + 1) #[.int .i64 1] 3) (h7 : Blk w (n + 1 + 1 + 1 + 1 + 1 + 1 + 1) #[.string ⟨#[101]⟩] 9) (h8 : Blk w (n + 1 + 1 + 1 + 1 + 1 + 1 + 1 + 1) #[.int .i64 4] 3) (h9 : Blk w (n + 1 + 1 + 1 + 1 + 1 + 1 + 1 + 1 + 1) #[.string ⟨#[42]⟩] 9) (h10 : Blk w (n + 1 + 1 + 1 + 1 + 1 + 1 + 1 + 1 + 1 + 1) #[.int .i64 4] 3) (h11 : Blk w (n + 1 + 1 + 1 + 1 + 1 + 1 + 1 + 1 + 1 + 1 + 1) #[.int .i64 0, .slice none 0 0, .string noBytes, .slice (some ⟨n + 1 + 1 + 1 + 1 + 1 + 1, 0, none⟩) 1 1, .bool false, .int .i64 (-1), .int .i64 2, .slice (some ⟨n + 1 + 1 + 1 + 1 + 1 + 1 + 1, 0, none⟩) 1 1, .string noBytes, .slice (some ⟨n + 1 + 1 + 1 + 1 + 1 + 1 + 1 + 1, 0, none⟩) 1 1, .bool false, .int .i64 (-1), .int .i64 1, .slice (some ⟨n + 1 + 1 + 1 + 1 + 1 + 1 + 1 + 1 + 1, 0, none⟩) 1 1, .string noBytes, .slice (some ⟨n + 1 + 1 + 1 + 1 + 1 + 1 + 1 + 1 + 1 + 1, 0, none⟩) 1 1, .bool false, .int .i64 (-1)] 45) :
    Rows8 (fun k => k < w.heap.size) w sm15 (.slice (some ⟨n + 1 + 1 + 1 + 1 + 1, 0, none⟩) 5 5) (.slice (some ⟨n + 1 + 1 + 1 + 1 + 1 + 1 + 1 + 1 + 1 + 1 + 1, 0, none⟩) 3 3) (.slice none 0 0) (.slice none 0 0) (.slice none 0 0) := by
  have i1 := sl_ints (p := fun k => k < w.heap.size) [1, 4] h1 h1.lt (by decide)
  have i2 := sl_ints (p := fun k => k < w.heap.size) [2, 3] h2 h2.lt (by decide)
  have i3 := sl_ints (p := fun k => k < w.heap.size) [2] h3 h3.lt (by decide)
  have i4 := sl_ints (p := fun k => k < w.heap.size) [1] h4 h4.lt (by decide)
  have i6 := sl_ints (p := fun k => k < w.heap.size) [1] h6 h6.lt (by decide)
  have i8 := sl_ints (p := fun k => k < w.heap.size) [4] h8 h8.lt (by decide)
  have i10 := sl_ints (p := fun k => k < w.heap.size) [4] h10 h10.lt (by decide)
  have i7 : Sl rStr (fun k => k < w.heap.size) w (.slice (some ⟨n + 1 + 1 + 1 + 1 + 1 + 1 + 1, 0, none⟩) 1 1) [⟨#[101]⟩] := sl_blk (K := rStr) _ h7 rfl (rows_cons ⟨rfl, by decide⟩ (rows_nil _ _ _)) h7.lt (by decide) (by decide)
  have i9 : Sl rStr (fun k => k < w.heap.size) w (.slice (some ⟨n + 1 + 1 + 1 + 1 + 1 + 1 + 1 + 1 + 1, 0, none⟩) 1 1) [⟨#[42]⟩] := sl_blk (K := rStr) _ h9 rfl (rows_cons ⟨rfl, by decide⟩ (rows_nil _ _ _)) h9.lt (by decide) (by decide)
  have z := Sl.nil rInt (fun k => k < w.heap.size) w
  have zs := Sl.nil rStr (fun k => k < w.heap.size) w
  exact ⟨sl_blk _ h5 rfl (rows_cons (ok_st i1 z) (rows_cons (ok_st i2 i3) (rows_cons (ok_st z i4) (rows_cons (ok_st z z) (rows_cons (ok_st z z) (rows_nil _ _ _)))))) h5.lt (by decide) (by decide),
    sl_blk _ h11 rfl (rows_cons (ok_tr zs i6) (rows_cons (ok_tr i7 i8) (rows_cons (ok_tr i9 i10) (rows_nil _ _ _)))) h11.lt (by decide) (by decide), Sl.nil _ _ _, Sl.nil _ _ _, Sl.nil _ _ _⟩
set_option maxRecDepth 100000 in
set_option maxHeartbeats 8000000 in
theorem small15_any (W : World) : Calls Try.prog 50 #[] W (SmallPost W sm15) := by
  go_enter Try.func50, Try.ntmps50
  go_wp2
  refine bodyPost_ret (v := chartV sm15 (.slice (some ⟨W.heap.size + 1 + 1 + 1 + 1 + 1, 0, none⟩) 5 5) (.slice (some ⟨W.heap.size + 1 + 1 + 1 + 1 + 1 + 1 + 1 + 1 + 1 + 1 + 1, 0, none⟩) 3 3) (.slice none 0 0) (.slice none 0 0) (.slice none 0 0)) (by simp [results, Try.results50, go_sem, chartV, sm15, noBytes]) rfl ?_
  refine ⟨_, _, _, _, _, rfl, (((((((((((((Fr.refl [] W).alloc _).alloc _).alloc _).alloc _).alloc _).alloc _).alloc _).alloc _).alloc _).alloc _).alloc _).alloc _), small_rows15 _ W.heap.size ?_ ?_ ?_ ?_ ?_ ?_ ?_ ?_ ?_ ?_ ?_⟩
  · exact (((((((((((Blk.newAt (sizeAt rfl)).alloc _).alloc _).alloc _).alloc _).alloc _).alloc _).alloc _).alloc _).alloc _).alloc _)
  · exact ((((((((((Blk.newAt (sizeAt (sizeAt rfl))).alloc _).alloc _).alloc _).alloc _).alloc _).alloc _).alloc _).alloc _).alloc _)
  · exact (((((((((Blk.newAt (sizeAt (sizeAt (sizeAt rfl)))).alloc _).alloc _).alloc _).alloc _).alloc _).alloc _).alloc _).alloc _)
  · exact ((((((((Blk.newAt (sizeAt (sizeAt (sizeAt (sizeAt rfl))))).alloc _).alloc _).alloc _).alloc _).alloc _).alloc _).alloc _)
  · exact (((((((Blk.newAt (sizeAt (sizeAt (sizeAt (sizeAt (sizeAt rfl)))))).alloc _).alloc _).alloc _).alloc _).alloc _).alloc _)
  · exact ((((((Blk.newAt (sizeAt (sizeAt (sizeAt (sizeAt (sizeAt (sizeAt rfl))))))).alloc _).alloc _).alloc _).alloc _).alloc _)
  · exact (((((Blk.newAt (sizeAt (sizeAt (sizeAt (sizeAt (sizeAt (sizeAt (sizeAt rfl)))))))).alloc _).alloc _).alloc _).alloc _)
  · exact ((((Blk.newAt (sizeAt (sizeAt (sizeAt (sizeAt (sizeAt (sizeAt (sizeAt (sizeAt rfl))))))))).alloc _).alloc _).alloc _)
  · exact (((Blk.newAt (sizeAt (sizeAt (sizeAt (sizeAt (sizeAt (sizeAt (sizeAt (sizeAt (sizeAt rfl)))))))))).alloc _).alloc _)
  · exact ((Blk.newAt (sizeAt (sizeAt (sizeAt (sizeAt (sizeAt (sizeAt (sizeAt (sizeAt (sizeAt (sizeAt rfl))))))))))).alloc _)
  · exact (Blk.newAt (sizeAt (sizeAt (sizeAt (sizeAt (sizeAt (sizeAt (sizeAt (sizeAt (sizeAt (sizeAt (sizeAt rfl))))))))))))
end Go.Proofs.Ytekfbafljilchaa

/- SameInts; pennantlaw15: large, awake. -/
set_option linter.unusedVariables false
set_option linter.unusedSimpArgs false
namespace Go.Proofs.Ytekfbafljilchaa
open Go.RowKit Go.Lib

set_option maxRecDepth 100000 in
set_option maxHeartbeats 4000000 in
theorem sameInts_any (W : World) (a b : List Int) (A B : Option Addr) (d d' : Nat) (q q' : Nat → Prop) (ha : Sl rInt q W (.slice A a.length d) a) (hb : Sl rInt q' W (.slice B b.length d') b) :
    Calls Try.prog 40 #[.slice A a.length d, .slice B b.length d'] W fun e w' => e = .returned (.bool (decide (a = b))) ∧ Fr [] W w' := by
  have la := ha.len
  have lb := hb.len
  have HA := Lib.hid ha
  have HB := Lib.hid hb
  clear ha hb
  by_cases hl : a.length = b.length
  · have hlz : (((a.length : Nat) : Int) != ((b.length : Nat) : Int)) = false := by simp [hl]
    have HLL := Lib.hid hl
    obtain ⟨z, hz⟩ : ∃ z, z = decide (a = b) := ⟨_, rfl⟩
    rw [← hz]
    have HZ := Lib.hid hz
    clear hz hl
    go_enter Try.func40, Try.ntmps40
    go_wp2
    go_loopg [5] a.length (fun gg s5 wr => ∃ k : Nat, k ≤ a.length ∧ a.length - k ≤ gg ∧ s5 = .int .i64 k ∧ Aside (Fr [] W wr) ∧ Aside (a.take k = b.take k))
    case atStart => exact ⟨0, Nat.zero_le _, by omega, rfl, Fr.refl _ _, (show a.take 0 = b.take 0 from rfl)⟩
    case round =>
      obtain ⟨k, hk, hg, rfl, hfr, hsame⟩ := hrel
      by_cases hlt : k < a.length
      · have hltb : k < b.length := by have := HLL.out; omega
        have hltz : (k : Int) < (a.length : Int) := by omega
        have hltbz : (k : Int) < (b.length : Int) := by omega
        have hk0 : (0 : Int) ≤ (k : Int) := by omega
        obtain ⟨ga, oa, rfl, _, _, hca⟩ := HA.out.int_at k hlt
        obtain ⟨gb, ob, rfl, _, _, hcb⟩ := HB.out.int_at k hltb
        have hca2 := cell_on hfr.out hca
        have hcb2 := cell_on hfr.out hcb
        have HTA := Lib.hid (List.take_succ_eq_append_getElem hlt)
        have HTB := Lib.hid (List.take_succ_eq_append_getElem hltb)
        have HNE : Hid (a[k] ≠ b[k] → a ≠ b) := Lib.hid (fun h e => by subst e; exact h rfl)
        clear hca hcb
        generalize a[k] = x at *
        generalize b[k] = y at *
        by_cases he : x = y
        · have hb' : (x != y) = false := by simp [he]
          have HE := Lib.hid he
          clear he
          go_wp2
          go_quiet (fail)
          go_wp2
          go_roundg (a.length - (k + 1))
          case measure => omega
          case rel => exact ⟨k + 1, by omega, by omega, by go_num, hfr.out.drewN _, (show a.take (k + 1) = b.take (k + 1) from by rw [HTA.out, HTB.out, hsame.out, HE.out])⟩
        · have hb' : (x != y) = true := by simpa using he
          have HT : Hid (z = false) := Lib.hid (by rw [HZ.out]; simpa using HNE.out he)
          clear he
          go_wp2
          go_quiet (fail)
          go_wp2
          go_ret
          exact ⟨by rw [HT.out]; rfl, hfr.out.drewN _⟩
      · obtain rfl : k = a.length := by omega
        have hltz : ¬ (a.length : Int) < (a.length : Int) := by omega
        have HT : Hid (z = true) := Lib.hid (by
          have h := hsame.out
          rw [List.take_length, HLL.out, List.take_length] at h
          rw [HZ.out]
          simpa using h)
        go_wp2
        go_ret
        exact ⟨by rw [HT.out]; rfl, hfr.out⟩
  · have hlz : (((a.length : Nat) : Int) != ((b.length : Nat) : Int)) = true := by
      have : ((a.length : Nat) : Int) ≠ ((b.length : Nat) : Int) := by omega
      simpa using this
    have HT : Hid (decide (a = b) = false) := Lib.hid (by simp; rintro rfl; exact hl rfl)
    clear hl
    go_enter Try.func40, Try.ntmps40
    go_wp2
    go_ret
    exact ⟨by rw [HT.out]; rfl, Fr.refl _ _⟩

def moveV (A1 A2 A3 A4 : Option Addr) (n1 d1 n2 d2 n3 d3 n4 d4 : Nat) (nm : ByteArray) (ev : Bool) : Value := .agg #[.slice A1 n1 d1, .slice A2 n2 d2, .slice A3 n3 d3, .string nm, .bool ev, .slice A4 n4 d4]
/-- What large says of the transitions. -/
def LargePost (W : World) (n : Nat) (e : Ending) (w' : World) : Prop := (∃ b : Bool, e = .returned (.bool b) ∧ (b = false → n ≤ 20)) ∧ Fr [] W w'
end Go.Proofs.Ytekfbafljilchaa

/- pennantlaw15: large. -/
set_option linter.unusedVariables false
set_option linter.unusedSimpArgs false
namespace Go.Proofs.Ytekfbafljilchaa
open Go.RowKit Go.Lib

set_option maxRecDepth 100000 in
set_option maxHeartbeats 16000000 in
theorem large15_any (W : World) (c : DChart) (vS vT vB vD vI : Value) (h : Rows8 (fun k => k < W.heap.size) W c vS vT vB vD vI) (A1 A2 A3 A4 : Option Addr) (n1 d1 n2 d2 d3 n4 d4 : Nat) (mem : List (List Int)) (nm : ByteArray) (ev : Bool)
    (hM : Sl (rSl rInt) (fun k => k < W.heap.size) W (.slice A3 mem.length d3) mem) (hn1 : n1 ≤ 140737488351232) (hn2 : n2 ≤ 140737488351232) (hn4 : n4 ≤ 140737488351232) (hnm : nm.size ≤ 140737488351232) :
    Calls Try.prog 13 #[chartV c vS vT vB vD vI, moveV A1 A2 A3 A4 n1 d1 n2 d2 mem.length d3 n4 d4 nm ev] W (LargePost W n2) := by
  obtain ⟨hS, hT, hB, hD, hI⟩ := h
  have lS := hS.len
  have lT := hT.len
  have lM := hM.len
  obtain ⟨As, cs, rfl, _⟩ := hS.form
  obtain ⟨At, ct, rfl, _⟩ := hT.form
  have HT := Lib.hid hT
  have HM := Lib.hid hM
  have hf0 := Lib.hid (((Fr.refl [] W).alloc (.cells #[.string c.name, .bool c.late, .int .i64 c.script, .slice As c.states.length cs, .slice At c.trans.length ct, vB, vD, vI] 28)).alloc (.cells #[.slice A1 n1 d1, .slice A2 n2 d2, .slice A3 mem.length d3, .string nm, .bool ev, .slice A4 n4 d4] 33))
  have hbx := Lib.hid ((Blk.new W #[.string c.name, .bool c.late, .int .i64 c.script, .slice As c.states.length cs, .slice At c.trans.length ct, vB, vD, vI] 28).alloc (.cells #[.slice A1 n1 d1, .slice A2 n2 d2, .slice A3 mem.length d3, .string nm, .bool ev, .slice A4 n4 d4] 33))
  have hbm : Hid (Blk ((W.alloc (.cells #[.string c.name, .bool c.late, .int .i64 c.script, .slice As c.states.length cs, .slice At c.trans.length ct, vB, vD, vI] 28)).alloc (.cells #[.slice A1 n1 d1, .slice A2 n2 d2, .slice A3 mem.length d3, .string nm, .bool ev, .slice A4 n4 d4] 33)) (W.heap.size + 1) #[.slice A1 n1 d1, .slice A2 n2 d2, .slice A3 mem.length d3, .string nm, .bool ev, .slice A4 n4 d4] 33) := Lib.hid (Blk.newAt (sizeAt rfl))
  clear hS hT hB hD hI hM
  unfold chartV moveV
  by_cases h1 : (60 : Int) < (c.states.length : Int)
  · go_enter Try.func13, Try.ntmps13
    go_wp2
    go_ret
    exact ⟨⟨true, rfl, fun h => by cases h⟩, hf0.out⟩
  have h1d : decide ((60 : Int) < (c.states.length : Int)) = false := by simpa using h1
  by_cases h2 : (120 : Int) < (c.trans.length : Int)
  · go_enter Try.func13, Try.ntmps13
    go_wp2
    go_ret
    exact ⟨⟨true, rfl, fun h => by cases h⟩, hf0.out⟩
  have h2d : decide ((120 : Int) < (c.trans.length : Int)) = false := by simpa using h2
  by_cases h3 : (80 : Int) < (n1 : Int)
  · go_enter Try.func13, Try.ntmps13
    go_wp2
    go_ret
    exact ⟨⟨true, rfl, fun h => by cases h⟩, hf0.out⟩
  have h3d : decide ((80 : Int) < (n1 : Int)) = false := by simpa using h3
  by_cases h4 : (80 : Int) < (mem.length : Int)
  · go_enter Try.func13, Try.ntmps13
    go_wp2
    go_ret
    exact ⟨⟨true, rfl, fun h => by cases h⟩, hf0.out⟩
  have h4d : decide ((80 : Int) < (mem.length : Int)) = false := by simpa using h4
  by_cases h5 : (20 : Int) < (n2 : Int)
  · go_enter Try.func13, Try.ntmps13
    go_wp2
    go_ret
    exact ⟨⟨true, rfl, fun h => by cases h⟩, hf0.out⟩
  have h5d : decide ((20 : Int) < (n2 : Int)) = false := by simpa using h5
  by_cases h6 : (200 : Int) < (nm.size : Int)
  · go_enter Try.func13, Try.ntmps13
    go_wp2
    go_ret
    exact ⟨⟨true, rfl, fun h => by cases h⟩, hf0.out⟩
  have h6d : decide ((200 : Int) < (nm.size : Int)) = false := by simpa using h6
  by_cases h7 : (300 : Int) < (n4 : Int)
  · go_enter Try.func13, Try.ntmps13
    go_wp2
    go_ret
    exact ⟨⟨true, rfl, fun h => by cases h⟩, hf0.out⟩
  have h7d : decide ((300 : Int) < (n4 : Int)) = false := by simpa using h7
  have hn20 : n2 ≤ 20 := by omega
  go_enter Try.func13, Try.ntmps13
  go_wp2
  generalize ((W.alloc (.cells #[.string c.name, .bool c.late, .int .i64 c.script, .slice As c.states.length cs, .slice At c.trans.length ct, vB, vD, vI] 28)).alloc (.cells #[.slice A1 n1 d1, .slice A2 n2 d2, .slice A3 mem.length d3, .string nm, .bool ev, .slice A4 n4 d4] 33)) = W1 at *
  go_loopg [52] c.trans.length (fun gg s52 wr => ∃ k : Nat, k ≤ c.trans.length ∧ c.trans.length - k ≤ gg ∧ s52 = .int .i64 k ∧ Aside (Fr [] W1 wr))
  case atStart => exact ⟨0, Nat.zero_le _, by omega, rfl, Fr.refl _ _⟩
  case round =>
    obtain ⟨k, hk, hg, rfl, hfr⟩ := hrel
    have hb4 : wr.cell? ⟨W.heap.size, 4, none⟩ = some (.slice At c.trans.length ct) := by have := (hbx.out.fr hfr.out (by simp)).cell 4; simpa using this
    have hm2 : wr.cell? ⟨W.heap.size + 1, 2, none⟩ = some (.slice A3 mem.length d3) := by have := (hbm.out.fr hfr.out (by simp)).cell 2; simpa using this
    by_cases hlt : k < c.trans.length
    · have hltz : (k : Int) < (c.trans.length : Int) := by omega
      have hk0 : (0 : Int) ≤ (k : Int) := by omega
      have hTr := HT.out.fr (q := fun _ => True) (w' := wr) (fun x hx hlt => ⟨trivial, (hf0.out.trans' hfr.out).block x hlt (by simp)⟩)
      obtain ⟨gt, ot, A1', d1', A3', d3', rfl, _, _, c0, c1, c2, c3, c4, c5, s1, s3⟩ := hTr.trans_at k hlt
      have l1 := s1.len
      clear s1 s3 hTr hm2
      by_cases hbig : (20 : Int) < (c.trans[k].events.length : Int)
      · go_wp2
        go_ret
        exact ⟨⟨true, rfl, fun h => by cases h⟩, (hf0.out.trans' hfr.out).alloc _⟩
      · go_wp2
        go_roundg (c.trans.length - (k + 1))
        case measure => omega
        case rel => exact ⟨k + 1, by omega, by omega, by go_num, (show Aside _ from hfr.out.alloc _)⟩
    · obtain rfl : k = c.trans.length := by omega
      have hltz : ¬ (c.trans.length : Int) < (c.trans.length : Int) := by omega
      go_wp2
      obtain ⟨wo, rfl⟩ : ∃ wo : World, wo = wr := ⟨_, rfl⟩
      go_loopg [64] mem.length (fun gg s64 wi => ∃ k : Nat, k ≤ mem.length ∧ mem.length - k ≤ gg ∧ s64 = .int .i64 k ∧ wi = wo)
      case atStart => exact ⟨0, Nat.zero_le _, by omega, rfl, rfl⟩
      case round =>
        obtain ⟨k, hk, hg, rfl, hw⟩ := hrel
        subst hw
        by_cases hlt : k < mem.length
        · have hltz : (k : Int) < (mem.length : Int) := by omega
          have hk0 : (0 : Int) ≤ (k : Int) := by omega
          obtain ⟨gm, om, B, dd, rfl, _, _, hc, _, hr⟩ := (HM.out.fr (q := fun _ => True) (w' := wr) (fun x hx hlt => ⟨trivial, (hf0.out.trans' hfr.out).block x hlt (by simp)⟩)).sl_at k hlt
          have lr := hr.len
          clear hr
          by_cases hbig : (40 : Int) < (mem[k].length : Int)
          · go_wp2
            go_ret
            exact ⟨⟨true, rfl, fun h => by cases h⟩, hf0.out.trans' hfr.out⟩
          · go_wp2
            go_roundg (mem.length - (k + 1))
            case measure => omega
            case rel => exact ⟨k + 1, by omega, by omega, by go_num, rfl⟩
        · obtain rfl : k = mem.length := by omega
          have hltz : ¬ (mem.length : Int) < (mem.length : Int) := by omega
          go_wp2
          go_ret
          exact ⟨⟨false, rfl, fun _ => hn20⟩, hf0.out.trans' hfr.out⟩
end Go.Proofs.Ytekfbafljilchaa
