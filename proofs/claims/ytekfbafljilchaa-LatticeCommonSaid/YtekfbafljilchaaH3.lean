/- LatticeLegal: the walk. -/
import Derived.Test.YtekfbafljilchaaH0
import Derived.Test.YtekfbafljilchaaH1
import Derived.Test.YtekfbafljilchaaH2
set_option linter.unusedVariables false
set_option linter.unusedSimpArgs false
namespace Go.Proofs.Ytekfbafljilchaa
open Go.RowKit Go.Lib

/-- True, and nothing old has turned. -/
def Yes (W : World) (e : Ending) (w' : World) : Prop := e = .returned (.bool true) ∧ Fr [] W w'

theorem countP_take_succ (p : Int → Bool) (l : List Int) (k : Nat) (h : k < l.length) : (l.take (k + 1)).countP p = (l.take k).countP p + (if p l[k] then 1 else 0) := by
  rw [List.take_succ_eq_append_getElem h, List.countP_append]
  simp [List.countP_cons]

set_option maxRecDepth 100000 in
set_option maxHeartbeats 16000000 in
theorem legal_law (W : World) (c : DChart) (vS vT vB vD vI : Value) (cfg : List Int) (A : Option Addr) (d : Nat) (h : Rows8 (fun k => k < W.heap.size) W c vS vT vB vD vI) (hC : Sl rInt (fun k => k < W.heap.size) W (.slice A cfg.length d) cfg) :
    Calls Try.prog 6 #[chartV c vS vT vB vD vI, .slice A cfg.length d] W (Yes W) := by
  have HR := Lib.hid h
  have lC := hC.len
  have HC := Lib.hid hC
  have hf0 := Lib.hid ((Fr.refl [] W).alloc (.cells (chartA c vS vT vB vD vI) 28))
  have hbx := Lib.hid (Blk.new W (chartA c vS vT vB vD vI) 28)
  clear h hC
  unfold chartV
  unfold chartA at hf0 hbx
  have haw := awake13_any (W.alloc (.cells #[.string c.name, .bool c.late, .int .i64 c.script, vS, vT, vB, vD, vI] 28))
  go_enter Try.func6, Try.ntmps6
  go_wp2_with fail
  refine haw.mono ?_
  rintro e w1 ⟨rfl, f1⟩
  have HF1 := Lib.hid (hf0.out.trans' f1)
  have HB1 := Lib.hid (hbx.out.fr f1 (by simp))
  clear f1 haw
  have hl1 := large13_any w1 c vS vT vB vD vI (HR.out.fr (fun k hk hlt => ⟨Nat.lt_of_lt_of_le hk HF1.out.size, HF1.out.block k hlt (by simp)⟩))
  have k0 := HB1.out.cell 0
  have k1 := HB1.out.cell 1
  have k2 := HB1.out.cell 2
  have k3 := HB1.out.cell 3
  have k4 := HB1.out.cell 4
  have k5 := HB1.out.cell 5
  have k6 := HB1.out.cell 6
  have k7 := HB1.out.cell 7
  simp at k0 k1 k2 k3 k4 k5 k6 k7
  unfold chartV at hl1
  go_wp2_with fail
  refine hl1.mono ?_
  rintro e w2 ⟨⟨b, rfl⟩, f2⟩
  have HF2 := Lib.hid (HF1.out.trans' f2)
  have HB2 := Lib.hid (HB1.out.fr f2 (by simp))
  clear f2 hl1 k0 k1 k2 k3 k4 k5 k6 k7
  cases b with
  | true =>
    go_wp2
    go_ret
    exact ⟨rfl, HF2.out⟩
  | false =>
  by_cases h200 : (200 : Int) < (cfg.length : Int)
  · go_wp2
    go_ret
    exact ⟨rfl, HF2.out⟩
  have k0 := HB2.out.cell 0
  have k1 := HB2.out.cell 1
  have k2 := HB2.out.cell 2
  have k3 := HB2.out.cell 3
  have k4 := HB2.out.cell 4
  have k5 := HB2.out.cell 5
  have k6 := HB2.out.cell 6
  have k7 := HB2.out.cell 7
  simp at k0 k1 k2 k3 k4 k5 k6 k7
  have hn := new_any w2 c vS vT vB vD vI (HR.out.fr (fun k hk hlt => ⟨Nat.lt_of_lt_of_le hk HF2.out.size, HF2.out.block k hlt (by simp)⟩))
  unfold chartV at hn
  go_wp2_with fail
  refine hn.mono ?_
  rintro e w3 ⟨f3, hcase⟩
  have HF3 := Lib.hid (HF2.out.trans' f3)
  clear f3 hn k0 k1 k2 k3 k4 k5 k6 k7 HB1 HB2
  rcases hcase with ⟨hright, rfl⟩ | ⟨hright, g, rfl, hgl, hlat⟩
  · go_wp2
    go_ret
    exact ⟨rfl, HF3.out⟩
  have HT := Lib.hid (newB_tree hright)
  have HL := Lib.hid hlat.any
  clear hlat
  have HC3 := Lib.hid (HC.out.fr (q := fun _ => True) (fun k hk hlt => ⟨trivial, HF3.out.block k hlt (by simp)⟩))
  have hleg := legal_any w3 g c cfg A d (fun _ => True) HT.out.many (Nat.lt_of_lt_of_le (by decide) HT.out.two) HT.out.hpar HC3.out HL.out
  cases hlb : legalB c cfg with
  | false =>
    rw [hlb] at hleg
    clear hlb hright
    go_wp2_with fail
    refine hleg.mono ?_
    rintro e w4 ⟨rfl, f4⟩
    go_wp2
    go_ret
    exact ⟨rfl, HF3.out.trans' f4⟩
  | true =>
  rw [hlb] at hleg
  have LG := Lib.hid (HT.out.leg hlb)
  clear hlb hright
  go_wp2_with fail
  refine hleg.mono ?_
  rintro e w4 ⟨rfl, f4⟩
  have HF4 := Lib.hid (HF3.out.trans' f4)
  have HL4 := Lib.hid (HL.out.on f4)
  have HC4 := Lib.hid (HC3.out.fr (q := fun _ => True) (fun k hk hlt => ⟨trivial, f4.block k hlt (by simp)⟩))
  clear f4 hleg HL HC3 HF3
  have hpos : 0 < cfg.length := LG.out.some_
  go_wp2
  go_loopg [38] cfg.length (fun gg s38 wr => ∃ k : Nat, k ≤ cfg.length ∧ cfg.length - k ≤ gg ∧ s38 = .int .i64 k ∧ Aside (Fr [] w4 wr))
  case atStart => exact ⟨0, Nat.zero_le _, by omega, rfl, Fr.refl _ _⟩
  case round =>
    obtain ⟨k, hk, hg, rfl, hfr⟩ := hrel
    by_cases hlt : k < cfg.length
    · have hltz : (k : Int) < (cfg.length : Int) := by omega
      have hk0 : (0 : Int) ≤ (k : Int) := by omega
      have HCr := Lib.hid (HC4.out.fr (q := fun _ => True) (w' := wr) (fun x hx hlt => ⟨trivial, hfr.out.block x hlt (by simp)⟩))
      obtain ⟨gx, ox, rfl, _, hgx, hcx⟩ := HCr.out.int_at k hlt
      have hmem := Lib.hid (List.getElem_mem hlt)
      have hat := Lib.hid (LG.out.atom HT.out hmem.out)
      have hab := Lib.hid (fun p hp => LG.out.above HT.out (p := p) hmem.out hp)
      generalize cfg[k] = s at *
      have HLr := Lib.hid (HL4.out.on hfr.out)
      go_wp2
      obtain ⟨wo, rfl⟩ : ∃ wo : World, wo = wr := ⟨_, rfl⟩
      go_loopg [9, 44] cfg.length (fun gg s9 s44 wi => ∃ j : Nat, j ≤ cfg.length ∧ cfg.length - j ≤ gg ∧ s44 = .int .i64 j ∧ s9 = .int .i64 ((cfg.take j).countP (fun x => inB c x s) : Nat) ∧ wi = wo)
      case atStart => exact ⟨0, Nat.zero_le _, by omega, rfl, rfl, rfl⟩
      case round =>
        obtain ⟨j, hj, hgj, rfl, rfl, rfl⟩ := hrel
        by_cases hjt : j < cfg.length
        · have hjz : (j : Int) < (cfg.length : Int) := by omega
          have hj0 : (0 : Int) ≤ (j : Int) := by omega
          obtain ⟨gx2, ox2, e2, _, hgx2, hcx2⟩ := HCr.out.int_at j hjt
          injection e2 with e2
          injection e2 with e2 e3
          subst e2 e3
          have hcnt := Lib.hid (countP_take_succ (fun x => inB c x s) cfg j hjt)
          generalize cfg[j] = x at *
          have hle := Nat.le_trans (List.countP_le_length (p := fun x => inB c x s) (l := cfg.take j)) (List.length_take_le _ _)
          have hin := inside_any wr g c x s HLr.out
          cases hib : inB c x s with
          | true =>
            rw [hib] at hin
            have HC2 : Hid ((cfg.take (j + 1)).countP (fun x => inB c x s) = (cfg.take j).countP (fun x => inB c x s) + 1) := Lib.hid (by rw [hcnt.out, hib]; rfl)
            clear hib
            go_wp2_with (with_reducible refine hin.mono ?_; rintro e w' ⟨rfl, rfl⟩)
            go_roundg (cfg.length - (j + 1))
            case measure => omega
            case rel => exact ⟨j + 1, by omega, by omega, by go_num, by rw [HC2.out]; go_num, rfl⟩
          | false =>
            rw [hib] at hin
            have HC2 : Hid ((cfg.take (j + 1)).countP (fun x => inB c x s) = (cfg.take j).countP (fun x => inB c x s)) := Lib.hid (by rw [hcnt.out, hib]; rfl)
            clear hib
            go_wp2_with (with_reducible refine hin.mono ?_; rintro e w' ⟨rfl, rfl⟩)
            go_roundg (cfg.length - (j + 1))
            case measure => omega
            case rel => exact ⟨j + 1, by omega, by omega, by go_num, by rw [HC2.out], rfl⟩
        · obtain rfl : j = cfg.length := by omega
          have hjz : ¬ (cfg.length : Int) < (cfg.length : Int) := by omega
          rw [List.take_length]
          have hle := List.countP_le_length (p := fun x => inB c x s) (l := cfg)
          have hato := atomic_any wr g c s HLr.out
          rw [hat.out] at hato
          generalize List.countP (fun x => inB c x s) cfg = n at *
          have hnz : ((n : Int) == 0) = decide (n = 0) := by
            rw [Bool.eq_iff_iff]; simp
          have HNE : Hid ((decide (n = 0) != decide (n = 0)) = false) := Lib.hid (by simp)
          generalize hz : decide (n = 0) = z at *
          have hzz : (z != z) = false := HNE.out
          clear hz HNE
          have hup := above_any wr g c s 0 HT.out HLr.out
          go_wp2_with fail
          refine hato.mono ?_
          rintro e w' ⟨rfl, rfl⟩
          go_wp2_with fail
          refine hup.mono ?_
          rintro e w5 ⟨v5, rfl, own5, f5⟩
          obtain ⟨A5, d5, rfl⟩ := own_slice own5
          have HS5 := Lib.hid (int_own own5 (Nat.le_trans (abv_len _ _ _) HT.out.many))
          have l5 := HS5.out.len
          have HF5 := Lib.hid (hfr.out.trans' f5)
          have HC5 := Lib.hid (HC4.out.fr (q := fun _ => True) (w' := w5) (fun x hx hlt => ⟨trivial, HF5.out.block x hlt (by simp)⟩))
          clear own5 f5 hup hato
          generalize abv c s 0 = r at *
          go_wp2
          go_loopg [65] r.length (fun gg s65 wi => ∃ j : Nat, j ≤ r.length ∧ r.length - j ≤ gg ∧ s65 = .int .i64 j ∧ wi = w5)
          case atStart => exact ⟨0, Nat.zero_le _, by omega, rfl, rfl⟩
          case round =>
            obtain ⟨j, hj, hgj, rfl, rfl⟩ := hrel
            by_cases hjt : j < r.length
            · have hjz : (j : Int) < (r.length : Int) := by omega
              have hj0 : (0 : Int) ≤ (j : Int) := by omega
              obtain ⟨gx2, ox2, rfl, _, hgx2, hcx2⟩ := HS5.out.int_at j hjt
              have hmem2 := Lib.hid (List.contains_iff_mem.2 (hab.out r[j] (List.getElem_mem hjt)))
              generalize r[j] = x at *
              have ham := among_any wr x cfg _ d (fun _ => True) HC5.out
              rw [hmem2.out] at ham
              go_wp2_with (with_reducible refine ham.mono ?_; rintro e w' ⟨rfl, rfl⟩)
              go_roundg (r.length - (j + 1))
              case measure => omega
              case rel => exact ⟨j + 1, by omega, by omega, by go_num, rfl⟩
            · obtain rfl : j = r.length := by omega
              have hjz : ¬ (r.length : Int) < (r.length : Int) := by omega
              go_wp2
              go_roundg (cfg.length - (k + 1))
              case measure => omega
              case rel => exact ⟨k + 1, by omega, by omega, by go_num, HF5.out⟩
    · obtain rfl : k = cfg.length := by omega
      have hltz : ¬ (cfg.length : Int) < (cfg.length : Int) := by omega
      have hposz : (0 : Int) < (cfg.length : Int) := by omega
      go_wp2
      go_ret
      exact ⟨rfl, HF4.out.trans' hfr.out⟩
end Go.Proofs.Ytekfbafljilchaa
