/- Legal. -/
import Derived.Test.YtekfbafljilchaaB2
import Derived.Test.YtekfbafljilchaaE6
set_option linter.unusedVariables false
set_option linter.unusedSimpArgs false
namespace Go.Proofs.Ytekfbafljilchaa
open Go.RowKit Go.Lib

def legOk (c : DChart) (cfg : List Int) (i : Nat) : Bool :=
  decide (1 ≤ cfg[i]?.getD 0) && isSt c (cfg[i]?.getD 0) && decide (knd c (cfg[i]?.getD 0).toNat < 4) && (i == 0 || decide (cfg[i - 1]?.getD 0 < cfg[i]?.getD 0)) && (decide (par c (cfg[i]?.getD 0).toNat ≤ 0) || (cfg.take i).contains (par c (cfg[i]?.getD 0).toNat))
/-- How many of ks are there. -/
def cnt (cfg ks : List Int) : Nat := ks.countP fun k => cfg.contains k
def legOk2 (c : DChart) (cfg : List Int) (s : Nat) : Bool :=
  !((s == 0 || cfg.contains (s : Int)) && (compB c (s : Int) && !(cnt cfg (kidsOf c s) == 1) || knd c s == 2 && !(cnt cfg (kidsOf c s) == (kidsOf c s).length)))
def legalB (c : DChart) (cfg : List Int) : Bool := (List.range cfg.length).all (legOk c cfg) && (List.range (ns c)).all (legOk2 c cfg) && decide (0 < cfg.length)
def insOf (c : DChart) (l : List Int) : List Bool := (List.range (ns c)).map fun (j : Nat) => l.contains (j : Int)
theorem insOf_nil (c : DChart) : insOf c [] = List.replicate (ns c) false := by
  apply List.ext_getElem <;> simp [insOf]
theorem insOf_len (c : DChart) (l : List Int) : (insOf c l).length = ns c := by simp [insOf]
theorem insOf_at (c : DChart) (l : List Int) {j : Nat} (h : j < ns c) : (insOf c l)[j]? = some (l.contains (j : Int)) := by
  simp [insOf, List.getElem?_map, List.getElem?_range h]
theorem insOf_add (c : DChart) (l : List Int) (a : Nat) : insOf c (l ++ [(a : Int)]) = (insOf c l).set a true := by
  apply List.ext_getElem
  · simp [insOf]
  · intro j h1 h2
    rw [List.getElem_set]
    simp only [insOf, List.getElem_map, List.getElem_range]
    by_cases e : a = j
    · subst e
      simp
    · have e' : ¬ (j : Int) = (a : Int) := by omega
      simp [e, e']
theorem beq_cast (a b : Nat) : ((a : Int) == (b : Int)) = (a == b) := by
  by_cases h : a = b
  · simp [h]
  · have : ¬ (a : Int) = (b : Int) := by omega
    rw [show ((a : Int) == (b : Int)) = false by simpa using this, show (a == b) = false by simpa using h]
theorem map_row_set2 (l : List Bool) (p : Nat) : ((l.map Value.bool).toArray.setIfInBounds p (.bool true)) = ((l.set p true).map Value.bool).toArray := by
  simp [List.map_set]
theorem legal_no1 {c : DChart} {cfg : List Int} {i : Nat} (hi : i < cfg.length) (h : legOk c cfg i = false) : legalB c cfg = false := by
  have : (List.range cfg.length).all (legOk c cfg) = false := List.all_eq_false.2 ⟨i, List.mem_range.2 hi, by simp [h]⟩
  simp [legalB, this]
theorem legal_no2 {c : DChart} {cfg : List Int} {i : Nat} (hi : i < ns c) (h : legOk2 c cfg i = false) : legalB c cfg = false := by
  have : (List.range (ns c)).all (legOk2 c cfg) = false := List.all_eq_false.2 ⟨i, List.mem_range.2 hi, by simp [h]⟩
  simp [legalB, this]

set_option maxRecDepth 100000 in
set_option maxHeartbeats 16000000 in
theorem legal_any (W : World) (g : Nat) (c : DChart) (cfg : List Int) (A : Option Addr) (d : Nat) (q : Nat → Prop) (hn : c.states.length ≤ 128) (hn0 : 0 < c.states.length) (hpar : ∀ a : Nat, a < c.states.length → par c a < (c.states.length : Int)) (hC : Sl rInt q W (.slice A cfg.length d) cfg) (hL : Lat (fun _ => True) W g c) :
    Calls Try.prog 15 #[.pointer (some ⟨g, 0, none⟩), .slice A cfg.length d] W fun e w' => e = .returned (.bool (legalB c cfg)) ∧ Fr [] W w' := by
  have HL := Lib.hid hL
  have hg := hL.lt
  obtain ⟨As, cs, At, ct, Aa, ca, Ak, ck, h⟩ := hL.open_
  have g3 := h.s
  have g9 := h.k
  have lS := h.S.len
  have H := Lib.hid h
  have HC := Lib.hid hC
  have lC := hC.len
  have HPAR := Lib.hid hpar
  have hmk4 := make4 c.states.length hn
  have HB0 : Hid (Blk (W.alloc (.cells (Array.replicate c.states.length (.bool false)) 4)) W.heap.size ((insOf c (cfg.take 0)).map Value.bool).toArray 4) := Lib.hid (by
    have h := Blk.new W (Array.replicate c.states.length (.bool false)) 4
    rw [List.take_zero, insOf_nil]
    simpa using h)
  have HF0 := Lib.hid ((Fr.refl [] W).alloc (.cells (Array.replicate c.states.length (.bool false)) 4))
  clear h hL hC hpar
  go_enter Try.func15, Try.ntmps15
  go_wp2
  go_loopg [23] cfg.length (fun gg s23 wr => ∃ i : Nat, i ≤ cfg.length ∧ cfg.length - i ≤ gg ∧ s23 = .int .i64 i ∧ Aside (Fr [] W wr) ∧ Aside (Blk wr W.heap.size ((insOf c (cfg.take i)).map Value.bool).toArray 4) ∧ Aside (∀ q, q < i → legOk c cfg q = true))
  case atStart => exact ⟨0, Nat.zero_le _, by omega, rfl, HF0.out, HB0.out, (show Aside _ from fun q h => absurd h (Nat.not_lt_zero _))⟩
  case round =>
    obtain ⟨i, hi, hgi, rfl, hfr, hin, hok⟩ := hrel
    by_cases hit : i < cfg.length
    · have hiz : (i : Int) < (cfg.length : Int) := by omega
      obtain ⟨gx, ox, rfl, _, hgx, hx⟩ := HC.out.int_at i hit
      have hx' : wr.cell? ⟨gx, ox + i, none⟩ = some (.int .i64 cfg[i]) := (World.cell?_of_block (hfr.out.block gx hgx (by simp))).trans hx
      have hgxl : gx < wr.heap.size := Nat.lt_of_lt_of_le hgx hfr.out.size
      have HNO : Hid (legOk c cfg i = false → legalB c cfg = false) := Lib.hid (legal_no1 hit)
      have hget : cfg[i]?.getD 0 = cfg[i] := by simp [hit]
      have HOK : Hid (legOk c cfg i = (decide (1 ≤ cfg[i]) && isSt c cfg[i] && decide (knd c cfg[i].toNat < 4) && (i == 0 || decide (cfg[i - 1]?.getD 0 < cfg[i])) && (decide (par c cfg[i].toNat ≤ 0) || (cfg.take i).contains (par c cfg[i].toNat)))) := Lib.hid (by unfold legOk; rw [hget])
      have HTK : Hid (cfg.take (i + 1) = cfg.take i ++ [cfg[i]]) := Lib.hid (by rw [List.take_add_one]; simp [hit])
      have sa := state_any wr g c cfg[i] (HL.out.on hfr.out)
      clear hx hget
      by_cases h1 : cfg[i] < 1
      · have HZ := Lib.hid (HNO.out (by rw [HOK.out]; have : ¬ (1 ≤ cfg[i]) := by omega
                                        simp [this]))
        clear sa
        go_wp2
        go_ret
        exact ⟨by rw [HZ.out]; rfl, hfr.out⟩
      · cases hsa : isSt c cfg[i] with
        | false =>
          have HZ := Lib.hid (HNO.out (by rw [HOK.out, hsa]; simp))
          simp only [hsa] at sa
          clear hsa
          go_wp2_with fail
          refine sa.mono ?_
          rintro e w' ⟨rfl, rfl⟩
          go_wp2
          go_ret
          exact ⟨by rw [HZ.out]; rfl, hfr.out⟩
        | true =>
          simp only [hsa] at sa
          obtain ⟨a, ha, hal⟩ := isSt_true hsa
          have HOK2 : Hid (legOk c cfg i = (decide (knd c a < 4) && (i == 0 || decide (cfg[i - 1]?.getD 0 < (a : Int))) && (decide (par c a ≤ 0) || (cfg.take i).contains (par c a)))) := Lib.hid (by
            have h2 : (1 : Int) ≤ cfg[i] := by omega
            rw [HOK.out, hsa, decide_eq_true h2, ha]
            simp)
          have HTK2 : Hid (cfg.take (i + 1) = cfg.take i ++ [(a : Int)]) := Lib.hid (by rw [HTK.out, ha])
          clear hsa
          generalize cfg[i] = s at *
          subst ha
          obtain ⟨gs, os, rfl, k1, k2⟩ := H.out.st hal
          have hgl := World.block_lt_of_cell? W _ k1
          have g3' : wr.cell? ⟨g, 3, none⟩ = some (.slice (some ⟨gs, os, none⟩) c.states.length cs) := (World.cell?_of_block (hfr.out.block g hg (by simp))).trans g3
          have k1' : wr.cell? ⟨gs, os + a * 13 + 1, none⟩ = some (.int .i64 (knd c a)) := (World.cell?_of_block (hfr.out.block gs hgl (by simp))).trans k1
          have k2' : wr.cell? ⟨gs, os + a * 13 + 2, none⟩ = some (.int .i64 (par c a)) := (World.cell?_of_block (hfr.out.block gs hgl (by simp))).trans k2
          have hgw : g < wr.heap.size := Nat.lt_of_lt_of_le hg hfr.out.size
          have hgsw : gs < wr.heap.size := Nat.lt_of_lt_of_le hgl hfr.out.size
          have haz : (a : Int) < (c.states.length : Int) := by omega
          have ha0 : (0 : Int) ≤ (a : Int) := by omega
          clear k1 k2
          by_cases h4 : 4 ≤ knd c a
          · have HZ := Lib.hid (HNO.out (by rw [HOK2.out]; have : ¬ (knd c a < 4) := by omega
                                            simp [this]))
            go_wp2_with fail
            refine sa.mono ?_
            rintro e w' ⟨rfl, rfl⟩
            go_wp2
            go_ret
            exact ⟨by rw [HZ.out]; rfl, hfr.out⟩
          · have HK4 : Hid (decide (knd c a < 4) = true) := Lib.hid (decide_eq_true (by omega))
            have hprev : i = 0 ∨ ∃ i' x, i = i' + 1 ∧ wr.cell? ⟨gx, ox + i', none⟩ = some (.int .i64 x) ∧ cfg[i - 1]?.getD 0 = x := by
              rcases Nat.eq_zero_or_pos i with h0 | h0
              · exact .inl h0
              · obtain ⟨gy, oy, e9, _, hgy, hy⟩ := HC.out.int_at (i - 1) (by omega)
                injection e9 with e9
                injection e9 with e9 e10
                subst e9 e10
                exact .inr ⟨i - 1, cfg[i - 1], by omega, (World.cell?_of_block (hfr.out.block gx hgy (by simp))).trans hy, by simp [show i - 1 < cfg.length by omega]⟩
            have HIN := Lib.hid hin.out
            have ia := hin.out.cell a
            have hia : ((insOf c (cfg.take i)).map Value.bool).toArray[a]? = some (.bool ((cfg.take i).contains (a : Int))) := by
              have := insOf_at c (cfg.take i) (j := a) hal
              simp only [List.getElem?_toArray, List.getElem?_map, this]
              rfl
            rw [hia] at ia
            have iaf := hin.out.free a
            have ial := hin.out.lt
            clear hia
            rcases hprev with h0 | ⟨i', x, hii, hy, hx9⟩
            · have hz0 : ¬ (0 : Int) < (i : Int) := by omega
              have HPV : Hid ((i == 0 || decide (cfg[i - 1]?.getD 0 < (a : Int))) = true) := Lib.hid (by simp [h0])
              clear h0
              by_cases hp0 : 0 < par c a
              · obtain ⟨b, hpb⟩ : ∃ b : Nat, par c a = (b : Int) := ⟨(par c a).toNat, by omega⟩
                have hbn : b < c.states.length := by have := HPAR.out a hal; omega
                have ib := HIN.out.cell b
                have hib : ((insOf c (cfg.take i)).map Value.bool).toArray[b]? = some (.bool ((cfg.take i).contains (b : Int))) := by
                  have := insOf_at c (cfg.take i) (j := b) hbn
                  simp only [List.getElem?_toArray, List.getElem?_map, this]
                  rfl
                rw [hib] at ib
                rw [hpb] at k2' hp0
                have hbz : (b : Int) < (c.states.length : Int) := by omega
                have hb0 : (0 : Int) ≤ (b : Int) := by omega
                cases hct : (cfg.take i).contains (b : Int) with
                | false =>
                  have HZ := Lib.hid (HNO.out (by rw [HOK2.out, hpb, hct]; simp [show ¬ (b = 0) by omega]))
                  simp only [hct] at ib
                  clear hct hib hpb
                  go_wp2_with fail
                  refine sa.mono ?_
                  rintro e w' ⟨rfl, rfl⟩
                  go_wp2
                  go_ret
                  exact ⟨by rw [HZ.out]; rfl, hfr.out⟩
                | true =>
                  have HY : Hid (legOk c cfg i = true) := Lib.hid (by rw [HOK2.out, hpb, hct, HK4.out, HPV.out]; simp)
                  simp only [hct] at ib
                  clear hct hib hpb
                  go_wp2_with fail
                  refine sa.mono ?_
                  rintro e w' ⟨rfl, rfl⟩
                  go_wp2
                  go_roundg (cfg.length - (i + 1))
                  case measure => omega
                  case rel =>
                    have fs : Fr [W.heap.size] wr (wr.setCell ⟨W.heap.size, a, none⟩ (.bool true)) := fr_sets _ _
                    have hb2 := HIN.out.set a (.bool true)
                    rw [map_row_set2, ← insOf_add, ← HTK2.out] at hb2
                    refine ⟨i + 1, by omega, by omega, by go_num, hfr.out.trans fs (fun x hx hlt => by simp at hx; omega), hb2, (show Aside _ from fun q hq => ?_)⟩
                    rcases Nat.lt_succ_iff_lt_or_eq.1 hq with hq | rfl
                    · exact hok.out q hq
                    · exact HY.out
              · have HY : Hid (legOk c cfg i = true) := Lib.hid (by rw [HOK2.out, HK4.out, HPV.out]; simp [show par c a ≤ 0 by omega])
                go_wp2_with fail
                refine sa.mono ?_
                rintro e w' ⟨rfl, rfl⟩
                go_wp2
                go_roundg (cfg.length - (i + 1))
                case measure => omega
                case rel =>
                  have fs : Fr [W.heap.size] wr (wr.setCell ⟨W.heap.size, a, none⟩ (.bool true)) := fr_sets _ _
                  have hb2 := HIN.out.set a (.bool true)
                  rw [map_row_set2, ← insOf_add, ← HTK2.out] at hb2
                  refine ⟨i + 1, by omega, by omega, by go_num, hfr.out.trans fs (fun x hx hlt => by simp at hx; omega), hb2, (show Aside _ from fun q hq => ?_)⟩
                  rcases Nat.lt_succ_iff_lt_or_eq.1 hq with hq | rfl
                  · exact hok.out q hq
                  · exact HY.out
            · have hz0 : (0 : Int) < (i : Int) := by omega
              have hi1 : (i : Int) - 1 = (i' : Int) := by omega
              have hi2 : (0 : Int) ≤ (i' : Int) := by omega
              have hi3 : (i' : Int) < (cfg.length : Int) := by omega
              have HI0 : Hid ((i == 0) = false) := Lib.hid (by simp [hii])
              clear hii
              by_cases hxa : (a : Int) ≤ x
              · have HZ := Lib.hid (HNO.out (by rw [HOK2.out, hx9, HI0.out]; simp [show ¬ x < (a : Int) by omega]))
                clear hx9
                go_wp2_with fail
                refine sa.mono ?_
                rintro e w' ⟨rfl, rfl⟩
                go_wp2
                go_ret
                exact ⟨by rw [HZ.out]; rfl, hfr.out⟩
              · have HPV : Hid ((i == 0 || decide (cfg[i - 1]?.getD 0 < (a : Int))) = true) := Lib.hid (by rw [hx9, HI0.out]; simp [show x < (a : Int) by omega])
                clear hx9
                by_cases hp0 : 0 < par c a
                · obtain ⟨b, hpb⟩ : ∃ b : Nat, par c a = (b : Int) := ⟨(par c a).toNat, by omega⟩
                  have hbn : b < c.states.length := by have := HPAR.out a hal; omega
                  have ib := HIN.out.cell b
                  have hib : ((insOf c (cfg.take i)).map Value.bool).toArray[b]? = some (.bool ((cfg.take i).contains (b : Int))) := by
                    have := insOf_at c (cfg.take i) (j := b) hbn
                    simp only [List.getElem?_toArray, List.getElem?_map, this]
                    rfl
                  rw [hib] at ib
                  rw [hpb] at k2' hp0
                  have hbz : (b : Int) < (c.states.length : Int) := by omega
                  have hb0 : (0 : Int) ≤ (b : Int) := by omega
                  cases hct : (cfg.take i).contains (b : Int) with
                  | false =>
                    have HZ := Lib.hid (HNO.out (by rw [HOK2.out, hpb, hct]; simp [show ¬ (b = 0) by omega]))
                    simp only [hct] at ib
                    clear hct hib hpb
                    go_wp2_with fail
                    refine sa.mono ?_
                    rintro e w' ⟨rfl, rfl⟩
                    go_wp2
                    go_ret
                    exact ⟨by rw [HZ.out]; rfl, hfr.out⟩
                  | true =>
                    have HY : Hid (legOk c cfg i = true) := Lib.hid (by rw [HOK2.out, hpb, hct, HK4.out, HPV.out]; simp)
                    simp only [hct] at ib
                    clear hct hib hpb
                    go_wp2_with fail
                    refine sa.mono ?_
                    rintro e w' ⟨rfl, rfl⟩
                    go_wp2
                    go_roundg (cfg.length - (i + 1))
                    case measure => omega
                    case rel =>
                      have fs : Fr [W.heap.size] wr (wr.setCell ⟨W.heap.size, a, none⟩ (.bool true)) := fr_sets _ _
                      have hb2 := HIN.out.set a (.bool true)
                      rw [map_row_set2, ← insOf_add, ← HTK2.out] at hb2
                      refine ⟨i + 1, by omega, by omega, by go_num, hfr.out.trans fs (fun x hx hlt => by simp at hx; omega), hb2, (show Aside _ from fun q hq => ?_)⟩
                      rcases Nat.lt_succ_iff_lt_or_eq.1 hq with hq | rfl
                      · exact hok.out q hq
                      · exact HY.out
                · have HY : Hid (legOk c cfg i = true) := Lib.hid (by rw [HOK2.out, HK4.out, HPV.out]; simp [show par c a ≤ 0 by omega])
                  go_wp2_with fail
                  refine sa.mono ?_
                  rintro e w' ⟨rfl, rfl⟩
                  go_wp2
                  go_roundg (cfg.length - (i + 1))
                  case measure => omega
                  case rel =>
                    have fs : Fr [W.heap.size] wr (wr.setCell ⟨W.heap.size, a, none⟩ (.bool true)) := fr_sets _ _
                    have hb2 := HIN.out.set a (.bool true)
                    rw [map_row_set2, ← insOf_add, ← HTK2.out] at hb2
                    refine ⟨i + 1, by omega, by omega, by go_num, hfr.out.trans fs (fun x hx hlt => by simp at hx; omega), hb2, (show Aside _ from fun q hq => ?_)⟩
                    rcases Nat.lt_succ_iff_lt_or_eq.1 hq with hq | rfl
                    · exact hok.out q hq
                    · exact HY.out
    · obtain rfl : i = cfg.length := by omega
      have hiz : ¬ (cfg.length : Int) < (cfg.length : Int) := by omega
      have htk : cfg.take cfg.length = cfg := List.take_length
      have hin0 := hin.out
      rw [htk] at hin0
      have HALL1 : Hid ((List.range cfg.length).all (legOk c cfg) = true) := Lib.hid (List.all_eq_true.2 fun q hq => hok.out q (List.mem_range.1 hq))
      have ic := hin0.cell 0
      have hic : ((insOf c cfg).map Value.bool).toArray[0]? = some (.bool (cfg.contains ((0 : Nat) : Int))) := by
        have := insOf_at c cfg (j := 0) hn0
        simp only [List.getElem?_toArray, List.getElem?_map, this]
        rfl
      rw [hic] at ic
      have icf := hin0.free 0
      have icl := hin0.lt
      have hn0z : (0 : Int) < (c.states.length : Int) := by omega
      have fs : Fr [W.heap.size] wr (wr.setCell ⟨W.heap.size, 0, none⟩ (.bool true)) := fr_sets _ _
      have HB2 : Hid (Blk (wr.setCell ⟨W.heap.size, 0, none⟩ (.bool true)) W.heap.size (((insOf c cfg).set 0 true).map Value.bool).toArray 4) := Lib.hid (by
        have h := hin0.set 0 (.bool true)
        rw [map_row_set2] at h
        exact h)
      have HF2 := Lib.hid (hfr.out.trans fs (fun x hx hlt => by simp at hx; omega))
      clear hic hin0 htk fs
      go_wp2
      go_loopg [87] c.states.length (fun gg s87 wr => ∃ i : Nat, i ≤ c.states.length ∧ c.states.length - i ≤ gg ∧ s87 = .int .i64 i ∧ Aside (Fr [] W wr) ∧ Aside (Blk wr W.heap.size (((insOf c cfg).set 0 true).map Value.bool).toArray 4) ∧ Aside (∀ q, q < i → legOk2 c cfg q = true))
      case atStart => exact ⟨0, Nat.zero_le _, by omega, rfl, HF2.out, HB2.out, (show Aside _ from fun q h => absurd h (Nat.not_lt_zero _))⟩
      case round =>
        obtain ⟨i, hi, hgi, rfl, hfr, hin, hok⟩ := hrel
        by_cases hit : i < c.states.length
        · have hiz : (i : Int) < (c.states.length : Int) := by omega
          have ib := hin.out.cell i
          have hib : (((insOf c cfg).set 0 true).map Value.bool).toArray[i]? = some (.bool (i == 0 || cfg.contains (i : Int))) := by
            have h1 := insOf_at c cfg (j := i) hit
            simp only [List.getElem?_toArray, List.getElem?_map, List.getElem?_set, insOf_len, h1]
            by_cases e : 0 = i
            · subst e
              simp [hn0]
            · rw [if_neg e]
              have : (i == 0) = false := by simp; omega
              simp [this]
          rw [hib] at ib
          obtain ⟨iz, hiz2⟩ : ∃ iz, iz = (i == 0 || cfg.contains (i : Int)) := ⟨_, rfl⟩
          rw [← hiz2] at ib
          have HIZ := Lib.hid hiz2
          clear hiz2
          have ibl := hin.out.lt
          obtain ⟨gk, ok, Bk, dk, rfl, kc, hks⟩ := H.out.kd hit
          have hgk := World.block_lt_of_cell? W _ kc
          have kc' : wr.cell? ⟨gk, ok + i, none⟩ = some (.slice Bk (kidsOf c i).length dk) := (World.cell?_of_block (hfr.out.block gk hgk (by simp))).trans kc
          have hgkw : gk < wr.heap.size := Nat.lt_of_lt_of_le hgk hfr.out.size
          have g9' : wr.cell? ⟨g, 9, none⟩ = some (.slice (some ⟨gk, ok, none⟩) c.states.length ck) := (World.cell?_of_block (hfr.out.block g hg (by simp))).trans g9
          have hgw : g < wr.heap.size := Nat.lt_of_lt_of_le hg hfr.out.size
          obtain ⟨gs, os, rfl, k1, _⟩ := H.out.st hit
          have hgl := World.block_lt_of_cell? W _ k1
          have g3' : wr.cell? ⟨g, 3, none⟩ = some (.slice (some ⟨gs, os, none⟩) c.states.length cs) := (World.cell?_of_block (hfr.out.block g hg (by simp))).trans g3
          have k1' : wr.cell? ⟨gs, os + i * 13 + 1, none⟩ = some (.int .i64 (knd c i)) := (World.cell?_of_block (hfr.out.block gs hgl (by simp))).trans k1
          have hgsw : gs < wr.heap.size := Nat.lt_of_lt_of_le hgl hfr.out.size
          have HKS := Lib.hid hks
          have hkl := hks.len
          have HNO : Hid (legOk2 c cfg i = false → legalB c cfg = false) := Lib.hid (legal_no2 hit)
          have sc := compound_any wr g c (i : Int) (HL.out.on hfr.out)
          obtain ⟨wo, rfl⟩ : ∃ wo : World, wo = wr := ⟨_, rfl⟩
          clear hib kc hks k1
          go_wp2
          go_loopg [11, 100] (kidsOf c i).length (fun gg s11 s100 wr => ∃ j : Nat, j ≤ (kidsOf c i).length ∧ (kidsOf c i).length - j ≤ gg ∧ s100 = .int .i64 j ∧ s11 = .int .i64 (cnt cfg ((kidsOf c i).take j) : Nat) ∧ wr = wo)
          case atStart => exact ⟨0, Nat.zero_le _, by omega, rfl, rfl, rfl⟩
          case round =>
            obtain ⟨j, hj, hgj, rfl, rfl, rfl⟩ := hrel
            by_cases hjt : j < (kidsOf c i).length
            · have hjz : (j : Int) < ((kidsOf c i).length : Int) := by omega
              obtain ⟨gx, ox, rfl, _, hgx, hx⟩ := HKS.out.int_at j hjt
              have hx' : wr.cell? ⟨gx, ox + j, none⟩ = some (.int .i64 (kidsOf c i)[j]) := (World.cell?_of_block (hfr.out.block gx hgx (by simp))).trans hx
              have hgxl : gx < wr.heap.size := Nat.lt_of_lt_of_le hgx hfr.out.size
              obtain ⟨x, hxe, hxn, hx0, _, _⟩ := mem_kids.1 (List.getElem_mem hjt)
              have HCN : Hid (cnt cfg ((kidsOf c i).take (j + 1)) = cnt cfg ((kidsOf c i).take j) + (if cfg.contains (x : Int) then 1 else 0)) := Lib.hid (by
                have e : (kidsOf c i).take (j + 1) = (kidsOf c i).take j ++ [(kidsOf c i)[j]] := by rw [List.take_add_one]; simp [hjt]
                rw [e, hxe]
                simp [cnt, List.countP_append, List.countP_cons, List.countP_nil])
              have hcb : cnt cfg ((kidsOf c i).take j) ≤ j := by
                have := List.countP_le_length (p := fun k => cfg.contains k) (l := (kidsOf c i).take j)
                rw [List.length_take] at this
                unfold cnt
                omega
              rw [hxe] at hx'
              have HXN : x < c.states.length := hxn
              have hxz : (x : Int) < (c.states.length : Int) := by omega
              have hxz0 : (0 : Int) ≤ (x : Int) := by omega
              have ix := hin.out.cell x
              have hix : (((insOf c cfg).set 0 true).map Value.bool).toArray[x]? = some (.bool (cfg.contains (x : Int))) := by
                have h1 := insOf_at c cfg (j := x) hxn
                simp only [List.getElem?_toArray, List.getElem?_map, List.getElem?_set, insOf_len, h1]
                rw [if_neg (by omega)]
                rfl
              rw [hix] at ix
              clear hix hx hxe
              cases hct : cfg.contains (x : Int) with
              | false =>
                simp only [hct] at ix
                have HC2 : Hid (cnt cfg ((kidsOf c i).take (j + 1)) = cnt cfg ((kidsOf c i).take j)) := Lib.hid (by rw [HCN.out, hct]; rfl)
                clear hct
                go_wp2
                go_roundg ((kidsOf c i).length - (j + 1))
                case measure => omega
                case rel => exact ⟨j + 1, by omega, by omega, by go_num, by rw [HC2.out], rfl⟩
              | true =>
                simp only [hct] at ix
                have HC2 : Hid (cnt cfg ((kidsOf c i).take (j + 1)) = cnt cfg ((kidsOf c i).take j) + 1) := Lib.hid (by rw [HCN.out, hct]; rfl)
                clear hct
                generalize hcc : cnt cfg ((kidsOf c i).take j) = cc at *
                clear hcc
                go_wp2
                go_roundg ((kidsOf c i).length - (j + 1))
                case measure => omega
                case rel => exact ⟨j + 1, by omega, by omega, by go_num, by rw [HC2.out]; go_num, rfl⟩
            · obtain rfl : j = (kidsOf c i).length := by omega
              have hjz : ¬ ((kidsOf c i).length : Int) < ((kidsOf c i).length : Int) := by omega
              rw [List.take_length]
              have HOK : Hid (legOk2 c cfg i = !((i == 0 || cfg.contains (i : Int)) && (compB c (i : Int) && !(cnt cfg (kidsOf c i) == 1) || knd c i == 2 && !(cnt cfg (kidsOf c i) == (kidsOf c i).length)))) := Lib.hid rfl
              have e1 : (!(cnt cfg (kidsOf c i) == 1)) = (((cnt cfg (kidsOf c i) : Nat) : Int) != 1) := by
                show _ = !(((cnt cfg (kidsOf c i) : Nat) : Int) == ((1 : Nat) : Int))
                rw [beq_cast]
              have e2 : (!(cnt cfg (kidsOf c i) == (kidsOf c i).length)) = (((cnt cfg (kidsOf c i) : Nat) : Int) != ((kidsOf c i).length : Int)) := by
                show _ = !(((cnt cfg (kidsOf c i) : Nat) : Int) == ((kidsOf c i).length : Int))
                rw [beq_cast]
              have hout := HOK.out
              rw [e1, e2] at hout
              have HOK2 := Lib.hid hout
              clear hout e1 e2 HOK
              generalize cnt cfg (kidsOf c i) = cc at *
              have HRND : Hid (legOk2 c cfg i = true → ∀ q, q < i + 1 → legOk2 c cfg q = true) := Lib.hid (fun h q hq => by
                rcases Nat.lt_succ_iff_lt_or_eq.1 hq with hq | rfl
                · exact hok.out q hq
                · exact h)
              cases iz with
              | false =>
                have HY := Lib.hid (HRND.out (by rw [HOK2.out, ← HIZ.out]; rfl))
                go_wp2
                go_roundg (c.states.length - (i + 1))
                case measure => omega
                case rel => exact ⟨i + 1, by omega, by omega, by go_num, hfr.out, hin.out, HY.out⟩
              | true =>
                have HOK3 := HOK2.out
                rw [← HIZ.out] at HOK3
                cases h0 : compB c (i : Int) <;> cases h1 : (((cc : Nat) : Int) != 1) <;> cases h2 : (knd c i == 2) <;> cases h3 : (((cc : Nat) : Int) != ((kidsOf c i).length : Int))
                all_goals
                  simp only [h0] at sc
                  rw [h0, h1, h2, h3] at HOK3
                  first
                    | (have HZ := Lib.hid (HNO.out HOK3)
                       clear h0 HOK3
                       go_wp2_with fail
                       refine sc.mono ?_
                       rintro e w' ⟨rfl, rfl⟩
                       go_wp2
                       go_ret
                       exact ⟨by rw [HZ.out]; rfl, hfr.out⟩)
                    | (have HY := Lib.hid (HRND.out HOK3)
                       clear h0 HOK3
                       go_wp2_with fail
                       refine sc.mono ?_
                       rintro e w' ⟨rfl, rfl⟩
                       go_wp2
                       go_roundg (c.states.length - (i + 1))
                       case measure => omega
                       case rel => exact ⟨i + 1, by omega, by omega, by go_num, hfr.out, hin.out, HY.out⟩)
        · obtain rfl : i = c.states.length := by omega
          have hiz : ¬ (c.states.length : Int) < (c.states.length : Int) := by omega
          have HZ : Hid (legalB c cfg = decide (0 < cfg.length)) := Lib.hid (by
            have h2 : (List.range (ns c)).all (legOk2 c cfg) = true := List.all_eq_true.2 fun q hq => hok.out q (List.mem_range.1 hq)
            simp [legalB, HALL1.out, h2])
          go_wp2
          go_ret
          exact ⟨by rw [HZ.out]; rfl, hfr.out⟩
end Go.Proofs.Ytekfbafljilchaa
