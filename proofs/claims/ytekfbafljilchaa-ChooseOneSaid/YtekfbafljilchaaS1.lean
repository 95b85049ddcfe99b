/- slices.IndexFunc to the place, slices.DeleteFunc at whole numbers. -/
import Derived.Test.YtekfbafljilchaaD1
import Derived.Test.YtekfbafljilchaaE6
import Derived.Test.YtekfbafljilchaaF2
import Derived.Deep.RegionHeld3
import Derived.Deep.DrawnRows
import Derived.Deep.QuietTactic
import Derived.BigQuiet
set_option linter.unusedVariables false
set_option linter.unusedSimpArgs false
namespace Go.Proofs.Ytekfbafljilchaa
open Go.RowKit Go.Lib

abbrev I64s (l : List Int) : List Value := l.map (.int .i64)
/-- A row of numbers of one's own reads as a list. -/
theorem int_own' {w : World} {B : Nat} {v : Value} {r : List Int} (h : w.ownsRow B 3 1 v r.length (I64s r)) (hr : r.length * 8 ≤ 140737488351232) : Sl rInt (fun k => v.ownBlock = some k) w v r := by
  have hf : (r.map fun x => [Value.int .i64 x]).flatten = r.map (.int .i64) := by
    clear h hr
    induction r with
    | nil => rfl
    | cons x r ih => simpa using ih
  refine sl_of_own (K := rInt) (t := 3) (base := B) (css := r.map fun x => [Value.int .i64 x]) (by rw [hf]; exact h) ⟨by simp, fun j cs x h1 h2 => ?_⟩ hr (fun k _ _ hk => hk)
  rw [List.getElem?_map, h2] at h1
  simpa [rInt] using h1.symm

/-- As Says, where meanwhile the blocks of S may turn. -/
def SaysIn (S : List Nat) (fv : Nat) (lb : Array Value) (p : Int → Bool) (l : List Int) (W : World) : Prop :=
  (∀ args w, (callFunc fv args).run Try.prog w = .ok (.enter fv args) w) ∧
  ∀ x, x ∈ l → ∀ W', Fr S W W' → Calls Try.prog fv (#[.int .i64 x] ++ lb) W' fun e w' => e = .returned (.bool (p x)) ∧ Fr [] W' w'
/-- IndexFunc: the first place, or -1. -/
def IdxFirst (p : Int → Bool) (l : List Int) (W : World) (e : Ending) (w' : World) : Prop :=
  Fr [] W w' ∧ (e = .returned (.int .i64 (-1)) ∧ (∀ j (h : j < l.length), p l[j] = false) ∨ ∃ k, ∃ h : k < l.length, e = .returned (.int .i64 (k : Int)) ∧ p l[k] = true ∧ ∀ j (hj : j < k), p l[j] = false)

set_option maxHeartbeats 1000000 in
theorem indexFirst (fv : Nat) (lb : Array Value) (p : Int → Bool) (l : List Int) (q : Nat → Prop) (A : Option Addr) (c : Nat) (W : World) (hS : Sl rInt q W (.slice A l.length c) l) (hf : SaysIn [] fv lb p l W) :
    Calls Try.prog 106 #[.slice A l.length c, .func (.func fv) #[] lb] W (IdxFirst p l W) := by
  have hlen := hS.len
  have eg := hf.1
  have HF := Lib.hid hf.2
  have HS := Lib.hid hS
  clear hf hS
  go_enter Try.func106, Try.ntmps106
  go_wp2
  go_loopg [8] l.length (fun gg s8 wr => ∃ k : Nat, k ≤ l.length ∧ l.length - k ≤ gg ∧ s8 = .int .i64 k ∧ Aside (Fr [] W wr) ∧ Aside (∀ j (h : j < l.length), j < k → p l[j] = false))
  case atStart => exact ⟨0, Nat.zero_le _, by omega, rfl, Fr.refl _ _, (show Aside _ from fun j _ h => absurd h (Nat.not_lt_zero _))⟩
  case round =>
    obtain ⟨k, hk, hg, rfl, hfr, hno⟩ := hrel
    by_cases hlt : k < l.length
    · have hltz : (k : Int) < (l.length : Int) := by omega
      obtain ⟨g, o, rfl, _, hgl, hc⟩ := HS.out.int_at k hlt
      have hcw : wr.cell? ⟨g, o + k, none⟩ = some (.int .i64 l[k]) := (World.cell?_of_block (hfr.out.block g hgl (by simp))).trans hc
      have hcall := HF.out l[k] (List.getElem_mem hlt) wr hfr.out
      obtain ⟨z, hz⟩ : ∃ z, z = p l[k] := ⟨_, rfl⟩
      rw [← hz] at hcall
      have HZ := Lib.hid hz
      clear hc hz
      cases z with
      | true =>
        go_wp2_with (go_at_fn fv; refine hcall.mono ?_; rintro e w' ⟨rfl, hb'⟩)
        go_ret
        exact ⟨hfr.out.trans' hb', .inr ⟨k, hlt, rfl, HZ.out.symm, fun j hj => hno.out j (by omega) hj⟩⟩
      | false =>
        go_wp2_with (go_at_fn fv; refine hcall.mono ?_; rintro e w' ⟨rfl, hb'⟩)
        go_roundg (l.length - (k + 1))
        case measure => omega
        case rel =>
          refine ⟨k + 1, by omega, by omega, by go_num, hfr.out.trans' hb', (show Aside _ from fun j h hj => ?_)⟩
          rcases Nat.lt_succ_iff_lt_or_eq.1 hj with hj | rfl
          · exact hno.out j h hj
          · exact HZ.out.symm
    · have hltz : ¬ (k : Int) < (l.length : Int) := by omega
      have : k = l.length := by omega
      subst this
      go_wp2
      go_ret
      exact ⟨hfr.out, .inl ⟨rfl, fun j h => hno.out j h h⟩⟩

/-! ### DeleteFunc -/
theorem Blk.setRow {w : World} {b : Nat} {c d : Array Value} {t : TypeId} (h : Blk w b c t) : Blk (w.setRow b d) b d t := by
  simp [Blk, World.setRow, Array.getElem?_modify, h]
theorem Fr.setRow {S : List Nat} {a w : World} (h : Fr S a w) {b : Nat} (hp : b < a.heap.size → b ∈ S) (d : Array Value) : Fr S a (w.setRow b d) :=
  ⟨h.os, h.tape, h.output, by simpa [World.setRow] using h.size, fun k hk hn => by
    have hne : b ≠ k := fun e => hn (e ▸ hp (e ▸ hk))
    have := h.block k hk hn
    simp only [World.setRow, Array.getElem?_modify]
    rw [if_neg hne]; exact this⟩
theorem run_clear_ints (w : World) (ty : TypeId) (g o n c : Nat) (cur : Array Value) (hb : Blk w g cur 3) (hn : 0 < n) (hfit : o + n ≤ cur.size) :
    ∃ zs : List Value, zs.length = n ∧ (Builtin.clear_ #[29] ty #[.slice (some ⟨g, o, none⟩) n c]).run Try.prog w = .ok (.tuple #[]) (w.setRow g (cur.toList.take o ++ zs ++ cur.toList.drop (o + n)).toArray) := by
  have hlen : (Builtin.zeroCells (Value.int .i64 0).cells n).toList.length = n := by simp [Builtin.zeroCells, Value.cells]
  have hall : ∀ v ∈ (Builtin.zeroCells (Value.int .i64 0).cells n).toList, v.oneCell' = true := fun v hv => by
    simp only [Builtin.zeroCells, Array.toList_map, List.mem_map] at hv
    obtain ⟨i, hi, rfl⟩ := hv
    simp [Value.cells, Nat.mod_one]
    rfl
  have hst := run_storeCells_at Try.prog g o 3 (Builtin.zeroCells (Value.int .i64 0).cells n).toList 0 cur w hb (by omega) hall
  refine ⟨_, hlen, ?_⟩
  obtain ⟨n, rfl⟩ : ∃ m, n = m + 1 := ⟨n - 1, by omega⟩
  have hv : ∀ w, (zeroValue 3).run Try.prog w = .ok (.int .i64 0) w := fun _ => by kernel_rfl
  simp [Builtin.clear_, run_underlying Try.underlying29, hv, hst, hlen]
theorem Blk.has {w : World} {b : Nat} {c : Array Value} {t : TypeId} (h : Blk w b c t) (i : Nat) (hi : i < c.size) : ∃ v, w.cell? ⟨b, i, none⟩ = some v :=
  ⟨c[i], by rw [h.cell]; simp [hi]⟩

theorem filter_take_snoc {α : Type} (p : α → Bool) (ts : List α) (k : Nat) (h : k < ts.length) : (ts.take (k + 1)).filter p = (ts.take k).filter p ++ (if p ts[k] then [ts[k]] else []) := by
  rw [List.take_succ_eq_append_getElem h, List.filter_append]
  cases hq : p ts[k] <;> simp [hq]

/-- The row while DeleteFunc goes: i kept ones, a hole, the rest. -/
def DelInv (p : Int → Bool) (l : List Int) (rest : List Value) (g i j : Nat) (w' : World) : Prop :=
  i = ((l.take j).filter (fun t => !p t)).length ∧ i < j ∧ ∃ cur mid, Blk w' g cur 3 ∧ cur.toList = I64s ((l.take j).filter (fun t => !p t)) ++ mid ++ I64s (l.drop j) ++ rest ∧ mid.length = j - i

theorem del_keep (p : Int → Bool) (l : List Int) (rest mid : List Value) (cur : Array Value) (i j : Nat) (hi : i = ((l.take j).filter (fun t => !p t)).length) (hij : i < j) (hj : j < l.length)
    (hcl : cur.toList = I64s ((l.take j).filter (fun t => !p t)) ++ mid ++ I64s (l.drop j) ++ rest) (hm : mid.length = j - i) (hp : p l[j] = false) :
    i + 1 = ((l.take (j + 1)).filter (fun t => !p t)).length ∧ ∃ mid', (cur.setIfInBounds i (.int .i64 l[j])).toList = I64s ((l.take (j + 1)).filter (fun t => !p t)) ++ mid' ++ I64s (l.drop (j + 1)) ++ rest ∧ mid'.length = j + 1 - (i + 1) := by
  have hf : (l.take (j + 1)).filter (fun t => !p t) = (l.take j).filter (fun t => !p t) ++ [l[j]] := by
    rw [filter_take_snoc (fun t => !p t) l j hj]; simp [hp]
  refine ⟨by rw [hf]; simp [hi], mid.drop 1 ++ [.int .i64 l[j]], ?_, by simp [hm]; omega⟩
  have hd : I64s (l.drop j) = .int .i64 l[j] :: I64s (l.drop (j + 1)) := by rw [List.drop_eq_getElem_cons hj]; rfl
  obtain ⟨m0, ms, rfl⟩ : ∃ m0 ms, mid = m0 :: ms := by
    cases mid with
    | nil => simp at hm; omega
    | cons m0 ms => exact ⟨m0, ms, rfl⟩
  rw [Array.toList_setIfInBounds, hcl, hf, hd, List.append_assoc, List.append_assoc, List.set_append_right _ _ (by simp [hi]), show i - (I64s ((l.take j).filter (fun t => !p t))).length = 0 by simp [hi]]
  simp
theorem del_skip (p : Int → Bool) (l : List Int) (rest mid : List Value) (cur : Array Value) (i j : Nat) (hi : i = ((l.take j).filter (fun t => !p t)).length) (hij : i < j) (hj : j < l.length)
    (hcl : cur.toList = I64s ((l.take j).filter (fun t => !p t)) ++ mid ++ I64s (l.drop j) ++ rest) (hm : mid.length = j - i) (hp : p l[j] = true) :
    i = ((l.take (j + 1)).filter (fun t => !p t)).length ∧ ∃ mid', cur.toList = I64s ((l.take (j + 1)).filter (fun t => !p t)) ++ mid' ++ I64s (l.drop (j + 1)) ++ rest ∧ mid'.length = j + 1 - i := by
  have hf : (l.take (j + 1)).filter (fun t => !p t) = (l.take j).filter (fun t => !p t) := by
    rw [filter_take_snoc (fun t => !p t) l j hj]; simp [hp]
  refine ⟨by rw [hf]; exact hi, mid ++ [.int .i64 l[j]], ?_, by simp [hm]; omega⟩
  have hd : I64s (l.drop j) = .int .i64 l[j] :: I64s (l.drop (j + 1)) := by rw [List.drop_eq_getElem_cons hj]; rfl
  rw [hcl, hf, hd]
  simp

/-- What DeleteFunc leaves: what was not struck, in the same row. -/
def DelPost (W : World) (B : Nat) (v : Value) (p : Int → Bool) (l : List Int) (e : Ending) (w' : World) : Prop :=
  ∃ v', e = .returned v' ∧ w'.ownsRow B 3 1 v' (l.filter (fun t => !p t)).length (I64s (l.filter (fun t => !p t))) ∧ Fr v.ownBlock.toList W w' ∧ v'.ownBlock = v.ownBlock

set_option maxRecDepth 100000 in
set_option maxHeartbeats 2000000 in
theorem deleteFunc (fv : Nat) (lb : Array Value) (p : Int → Bool) (l : List Int) (W : World) (B : Nat) (v : Value) (hown : W.ownsRow B 3 1 v l.length (I64s l)) (hlen : l.length * 8 ≤ 140737488351232) (hs : SaysIn v.ownBlock.toList fv lb p l W) :
    Calls Try.prog 93 #[v, .func (.func fv) #[] lb] W (DelPost W B v p l) := by
  have hI := int_own' hown hlen
  obtain ⟨A, c, rfl⟩ := own_slice hown
  have hIF := indexFirst fv lb p l _ A c W hI ⟨hs.1, fun x hx W' f => hs.2 x hx W' f.nil⟩
  have eg := hs.1
  have HS := Lib.hid hs.2
  have HO := Lib.hid hown
  clear hs hown hI
  go_enter Try.func93, Try.ntmps93
  go_wp2_with fail
  refine hIF.mono ?_
  rintro e w1 ⟨f1, h1⟩
  have HF1 := Lib.hid f1
  clear f1 hIF
  rcases h1 with ⟨rfl, hno⟩ | ⟨k, hk, rfl, hpk, hno⟩
  · have hfil : Hid (l.filter (fun t => !p t) = l) := Lib.hid (List.filter_eq_self.2 (fun t ht => by obtain ⟨i, hi, rfl⟩ := List.getElem_of_mem ht; simp [hno i hi]))
    clear hno
    go_wp2
    go_ret
    exact ⟨_, rfl, by rw [hfil.out]; exact own_fr HO.out HF1.out (by simp), HF1.out.nil, rfl⟩
  · rcases HO.out.2 with ⟨_, h0⟩ | ⟨g, cap, cur, e, hg, hb, hnc, hcm, hsz, htk⟩
    · omega
    injection e with e1 e2 e3
    subst e1 e3
    have HB1 := Lib.hid (Blk.fr (w' := w1) hb HF1.out (by simp))
    have HTK := Lib.hid htk
    have HP := Lib.hid hpk
    have HN := Lib.hid hno
    have HSZ := Lib.hid hsz
    clear hb htk hno hpk hsz e2
    have hne : ((k : Int) == -1) = false := beq_eq_false_iff_ne.2 (by omega)
    have hkl := Nat.le_of_lt hk
    have hcl0 : Hid (cur.toList = I64s l ++ cur.toList.drop l.length) := Lib.hid (by
      conv => lhs; rw [← List.take_append_drop l.length cur.toList]
      have := HTK.out
      rw [Nat.mul_one] at this
      rw [this])
    obtain ⟨rest, hrest⟩ : ∃ rest, rest = cur.toList.drop l.length := ⟨_, rfl⟩
    rw [← hrest] at hcl0
    clear hrest HTK
    unfold maxLen at hcm
    go_wp2
    go_loopg [5, 6, 7] l.length (fun gg s5 s6 _ wr => ∃ i j : Nat, s5 = .int .i64 i ∧ s6 = .int .i64 j ∧ j ≤ l.length ∧ l.length - j ≤ gg ∧ Aside (DelInv p l rest g i j wr) ∧ Aside (Fr [g] W wr))
    case atStart =>
      have hkf : (l.take (k + 1)).filter (fun t => !p t) = l.take k := by
        rw [filter_take_snoc (fun t => !p t) l k hk, HP.out]
        simp only [Bool.not_true, Bool.false_eq_true, if_false, List.append_nil]
        exact List.filter_eq_self.2 (fun t ht => by
          obtain ⟨i, hi, rfl⟩ := List.getElem_of_mem ht
          simp at hi
          simp [HN.out i (by omega)])
      refine ⟨k, k + 1, rfl, by go_num, by omega, by omega, (show Aside _ from ⟨?_, by omega, cur, [.int .i64 l[k]], HB1.out, ?_, by simp⟩), (show Aside _ from HF1.out.nil)⟩
      · rw [hkf]; simp; omega
      · rw [hkf, hcl0.out]
        have h1 : l.take k ++ l[k] :: l.drop (k + 1) = l := by rw [← List.drop_eq_getElem_cons hk, List.take_append_drop]
        have h2 := congrArg I64s h1
        simp only [I64s, List.map_append, List.map_cons] at h2 ⊢
        rw [← h2]
        simp
    case round =>
      obtain ⟨i, j, rfl, rfl, hj, hgg, hI1, hfr⟩ := hrel
      obtain ⟨hi, hij, cur1, mid, hb1, hcl1, hmid⟩ := hI1.out
      have HI1 := Lib.hid hi
      have HCL := Lib.hid hcl1
      have HM := Lib.hid hmid
      have hsz1 := congrArg List.length hcl1
      simp at hsz1
      have hgl := hb1.lt
      by_cases hlt : j < l.length
      · have hltz : (j : Int) < (l.length : Int) := by omega
        have hi4 : i < cur1.size := by omega
        have hcj : wr.cell? ⟨g, j, none⟩ = some (.int .i64 l[j]) := by
          rw [hb1.cell, ← Array.getElem?_toList, hcl1, List.append_assoc, List.getElem?_append_right (by simp; omega)]
          simp only [List.length_append, List.length_map, hmid, ← hi]
          rw [show j - (i + (j - i)) = 0 by omega, List.getElem?_append_left (by simp; omega)]
          simp [List.getElem?_drop, List.getElem?_eq_getElem hlt]
        have hcall := HS.out l[j] (List.getElem_mem hlt) wr (by simpa [Value.ownBlock] using hfr.out)
        obtain ⟨c0, y0⟩ := hb1.has i hi4
        have z0 := hb1.free i
        clear hi hcl1 hmid hsz1 hI1
        generalize hy : l[j] = y at hcj hcall
        have HY := Lib.hid hy
        clear hy
        cases hq : p y with
        | true =>
          rw [hq] at hcall
          have HQ := Lib.hid hq
          clear hq
          go_wp2_with (go_at_fn fv; refine hcall.mono ?_; rintro e w2 ⟨rfl, f2⟩)
          go_roundg (l.length - (j + 1))
          case measure => omega
          case rel =>
            obtain ⟨e1, mid', e2, e3⟩ := del_skip p l rest mid cur1 i j HI1.out hij hlt HCL.out HM.out (by rw [HY.out]; exact HQ.out)
            exact ⟨i, j + 1, rfl, by go_num, by omega, Nat.le_refl _, (show Aside _ from ⟨e1, by omega, cur1, mid', hb1.fr f2 (by simp), e2, e3⟩), (show Aside _ from hfr.out.trans' f2)⟩
        | false =>
          rw [hq] at hcall
          have HQ := Lib.hid hq
          clear hq
          go_wp2_with fail
          go_at_fn fv
          refine hcall.mono ?_
          rintro e w2 ⟨rfl, f2⟩
          have y2 : w2.cell? ⟨g, i, none⟩ = some c0 := (World.cell?_of_block (f2.block g hgl (by simp))).trans y0
          have z2 : w2.frozen? ⟨g, i, none⟩ = false := (hb1.fr f2 (by simp)).free i
          have hb2 := Lib.hid (hb1.fr f2 (by simp))
          have HF2 := Lib.hid (hfr.out.trans' f2)
          clear y0 z0 hb1 f2 hcj
          go_wp2
          go_roundg (l.length - (j + 1))
          case measure => omega
          case rel =>
            obtain ⟨e1, mid', e2, e3⟩ := del_keep p l rest mid cur1 i j HI1.out hij hlt HCL.out HM.out (by rw [HY.out]; exact HQ.out)
            rw [HY.out] at e2
            exact ⟨i + 1, j + 1, by go_num, by go_num, by omega, Nat.le_refl _, (show Aside _ from ⟨e1, by omega, _, mid', hb2.out.set _ _, e2, e3⟩), (show Aside _ from HF2.out.setCell (by simp) _)⟩
      · obtain rfl : j = l.length := by omega
        have hltz : ¬ (l.length : Int) < (l.length : Int) := by omega
        simp only [List.take_length, List.drop_length, List.map_nil, List.append_nil] at hi hcl1
        have hsz2 := congrArg List.length hcl1
        simp only [List.length_append, List.length_map, Array.length_toList, ← hi, hmid] at hsz2
        clear hsz1
        have hfit : i + (l.length - i) ≤ cur1.size := by omega
        obtain ⟨zs, hzl, hclr⟩ := run_clear_ints wr 0 g i (l.length - i) (c - i) cur1 hb1 (by omega) hfit
        have HB := Lib.hid hb1
        clear hi hcl1 hmid hb1 hI1
        go_wp2
        go_ret
        have hi := HI1.out
        have hcl1 := HCL.out
        have hmid := HM.out
        simp only [List.take_length, List.drop_length, List.map_nil, List.append_nil] at hi hcl1
        refine ⟨_, by rw [← hi]; rfl, ⟨by simp, .inr ⟨g, c, _, rfl, hg, HB.out.setRow, by omega, by unfold maxLen; omega, ?_, ?_⟩⟩, by simpa [Value.ownBlock] using hfr.out.setRow (by simp) _, rfl⟩
        · have e := congrArg List.length hcl0.out
          simp at e
          have := HSZ.out
          simp [hzl]
          omega
        · rw [hcl1]
          have e1 : (I64s (l.filter (fun t => !p t)) ++ mid ++ rest).take i = I64s (l.filter (fun t => !p t)) := by
            rw [List.append_assoc, List.take_left' (by simp [← hi])]
          rw [e1, List.append_assoc, List.take_left' (by simp)]
end Go.Proofs.Ytekfbafljilchaa

/- sets: known, history, remembered. -/
set_option linter.unusedVariables false
set_option linter.unusedSimpArgs false
namespace Go.Proofs.Ytekfbafljilchaa
open Go.RowKit Go.Lib
attribute [local go_sem ↓] Go.wp_at_zero Go.wp_at_succ

/-- What Chart hands out is the same in every later world. -/
structure ChartAt (W : World) (g : Nat) (c : DChart) (As : Option Addr) (cs : Nat) (At : Option Addr) (ct : Nat) (vB vD vI : Value) : Prop where
  s : Sl rState (fun _ => True) W (.slice As c.states.length cs) c.states
  t : Sl rTrans (fun _ => True) W (.slice At c.trans.length ct) c.trans
  call : ∀ W', Fr [] W W' → Calls Try.prog 28 #[.pointer (some ⟨g, 0, none⟩)] W' fun e w' => e = .returned (.agg #[.string c.name, .bool c.late, .int .i64 c.script, .slice As c.states.length cs, .slice At c.trans.length ct, vB, vD, vI]) ∧ Fr [] W' w'
set_option maxRecDepth 100000 in
set_option maxHeartbeats 4000000 in
theorem chart_open (W : World) (g : Nat) (c : DChart) (hL : Lat (fun _ => True) W g c) : ∃ As cs At ct vB vD vI, ChartAt W g c As cs At ct vB vD vI := by
  obtain ⟨vs, vt, vb, vd, vi, va, vk, hblk, hS, hT, hB, hD, hI, hA, hK⟩ := hL
  obtain ⟨As, cs, rfl, _⟩ := hS.form
  obtain ⟨At, ct, rfl, _⟩ := hT.form
  refine ⟨As, cs, At, ct, vb, vd, vi, hS, hT, fun W' f => ?_⟩
  have hb2 := hblk.fr f (by simp)
  have hg := hb2.lt
  obtain ⟨Ab, cb, rfl, _⟩ := hB.form
  obtain ⟨Ad, cd, rfl, _⟩ := hD.form
  obtain ⟨Ai, ci, rfl, _⟩ := hI.form
  have c0 := hb2.cell 0
  have c1 := hb2.cell 1
  have c2 := hb2.cell 2
  have c3 := hb2.cell 3
  have c4 := hb2.cell 4
  have c5 := hb2.cell 5
  have c6 := hb2.cell 6
  have c7 := hb2.cell 7
  simp at c0 c1 c2 c3 c4 c5 c6 c7
  clear hS hT hB hD hI hA hK hblk hb2 f
  go_enter Try.func28, Try.ntmps28
  go_wp2
  refine bodyPost_ret (v := .agg #[.string c.name, .bool c.late, .int .i64 c.script, .slice As c.states.length cs, .slice At c.trans.length ct, .slice Ab c.blocks.length cb, .slice Ad c.data.length cd, .slice Ai c.invokes.length ci]) (by simp [results, Try.results28, go_sem]) rfl ?_
  exact ⟨rfl, (Fr.refl [] W').alloc (.cells #[.string c.name, .bool c.late, .int .i64 c.script, .slice As c.states.length cs, .slice At c.trans.length ct, .slice Ab c.blocks.length cb, .slice Ad c.data.length cd, .slice Ai c.invokes.length ci] 28)⟩
theorem ChartAt.on {W W' : World} {g : Nat} {c : DChart} {As : Option Addr} {cs : Nat} {At : Option Addr} {ct : Nat} {vB vD vI : Value} (h : ChartAt W g c As cs At ct vB vD vI) (f : Fr [] W W') : ChartAt W' g c As cs At ct vB vD vI :=
  ⟨h.s.fr (fun k _ hk => ⟨trivial, f.block k hk (by simp)⟩), h.t.fr (fun k _ hk => ⟨trivial, f.block k hk (by simp)⟩), fun w' f' => h.call w' (f.trans' f')⟩
/-- State i's cells that matter. -/
theorem ChartAt.st {W : World} {g : Nat} {c : DChart} {As : Option Addr} {cs : Nat} {At : Option Addr} {ct : Nat} {vB vD vI : Value} (h : ChartAt W g c As cs At ct vB vD vI) {i : Nat} (hi : i < c.states.length) :
    ∃ gs os, As = some ⟨gs, os, none⟩ ∧ gs < W.heap.size ∧ W.cell? ⟨gs, os + i * 13 + 1, none⟩ = some (.int .i64 (knd c i)) ∧ W.cell? ⟨gs, os + i * 13 + 2, none⟩ = some (.int .i64 (par c i)) ∧ W.cell? ⟨gs, os + i * 13 + 4, none⟩ = some (.int .i64 (st c i).init) := by
  obtain ⟨gs, os, A3, d3, A5, d5, A6, d6, A7, d7, A8, d8, A9, d9, A11, d11, e, _, hl, h0, h1, h2, _, h4, _⟩ := h.s.state_at i hi
  rw [st_at hi] at h1 h2 h4
  exact ⟨gs, os, e, hl, h1, h2, h4⟩
theorem ChartAt.tr {W : World} {g : Nat} {c : DChart} {As : Option Addr} {cs : Nat} {At : Option Addr} {ct : Nat} {vB vD vI : Value} (h : ChartAt W g c As cs At ct vB vD vI) {i : Nat} (hi : i < c.trans.length) :
    ∃ gt ot A d, At = some ⟨gt, ot, none⟩ ∧ gt < W.heap.size ∧ W.cell? ⟨gt, ot + i * 6, none⟩ = some (.int .i64 c.trans[i].src) ∧ W.cell? ⟨gt, ot + i * 6 + 3, none⟩ = some (.slice A c.trans[i].targets.length d) ∧ W.cell? ⟨gt, ot + i * 6 + 4, none⟩ = some (.bool c.trans[i].internal) ∧ Sl rInt (fun _ => True) W (.slice A c.trans[i].targets.length d) c.trans[i].targets := by
  obtain ⟨gt, ot, A1, d1, A3, d3, e, _, hl, h0, _, _, h3, h4, _, _, s3⟩ := h.t.trans_at i hi
  exact ⟨gt, ot, A3, d3, e, hl, h0, h3, h4, s3⟩
theorem run_field28_3 (a0 a1 a2 a3 a4 a5 a6 a7 : Value) (w : World) : (Instr.field 28 (.agg #[a0, a1, a2, a3, a4, a5, a6, a7]) 3).run Try.prog w = .ok a3 w := by kernel_rfl
theorem run_field28_4 (a0 a1 a2 a3 a4 a5 a6 a7 : Value) (w : World) : (Instr.field 28 (.agg #[a0, a1, a2, a3, a4, a5, a6, a7]) 4).run Try.prog w = .ok a4 w := by kernel_rfl

def knownB (c : DChart) (t : Int) : Bool := decide (0 ≤ t) && decide (t < (c.trans.length : Int))
theorem known_any (W : World) (g : Nat) (c : DChart) (t : Int) (hL : Lat (fun _ => True) W g c) :
    Calls Try.prog 103 #[.pointer (some ⟨g, 0, none⟩), .int .i64 t] W fun e w' => e = .returned (.bool (knownB c t)) ∧ Fr [] W w' := by
  obtain ⟨As, cs, At, ct, vB, vD, vI, h⟩ := chart_open W g c hL
  have hc := h.call W (Fr.refl _ _)
  have hfd := fun w => run_field28_4 (.string c.name) (.bool c.late) (.int .i64 c.script) (.slice As c.states.length cs) (.slice At c.trans.length ct) vB vD vI w
  have lT := h.t.len
  clear h hL
  by_cases h0 : 0 ≤ t
  · have e : knownB c t = decide (t < (c.trans.length : Int)) := by simp [knownB, h0]
    rw [e]
    clear e
    go_enter Try.func103, Try.ntmps103
    go_wp2_with fail
    refine hc.mono ?_
    rintro e w1 ⟨rfl, f1⟩
    go_wp2
    go_ret
    exact ⟨rfl, f1⟩
  · have e : knownB c t = false := by simp [knownB]; omega
    have hd : decide (0 ≤ t) = false := by simpa using h0
    rw [e]
    clear e
    go_enter Try.func103, Try.ntmps103
    go_wp2
    go_ret
    exact ⟨rfl, Fr.refl _ _⟩
theorem history_any (W : World) (g : Nat) (c : DChart) (i : Nat) (hi : i < c.states.length) (hL : Lat (fun _ => True) W g c) :
    Calls Try.prog 102 #[.pointer (some ⟨g, 0, none⟩), .int .i64 i] W fun e w' => e = .returned (.bool (decide (4 ≤ knd c i))) ∧ Fr [] W w' := by
  obtain ⟨As, cs, At, ct, vB, vD, vI, h⟩ := chart_open W g c hL
  have hc := h.call W (Fr.refl _ _)
  obtain ⟨gs, os, rfl, hgl, k1, _⟩ := h.st hi
  have hfd := fun w => run_field28_3 (.string c.name) (.bool c.late) (.int .i64 c.script) (.slice (some ⟨gs, os, none⟩) c.states.length cs) (.slice At c.trans.length ct) vB vD vI w
  have lS := h.s.len
  clear h hL
  have hi0 : (0 : Int) ≤ (i : Int) := by omega
  have hiz : (i : Int) < (c.states.length : Int) := by omega
  go_enter Try.func102, Try.ntmps102
  go_wp2_with fail
  refine hc.mono ?_
  rintro e w1 ⟨rfl, f1⟩
  have k1' : w1.cell? ⟨gs, os + i * 13 + 1, none⟩ = some (.int .i64 (knd c i)) := (World.cell?_of_block (f1.block gs hgl (by simp))).trans k1
  clear k1
  go_wp2
  go_ret
  exact ⟨rfl, f1⟩

/-! ### remembered -/
def delP (c : DChart) (h : Nat) (s : Int) : Bool := decide (s < 1) || decide ((c.states.length : Int) ≤ s) || decide (4 ≤ knd c s.toNat) || !inB c s (par c h)
theorem cell_on {W w : World} {a : Addr} {v : Value} (F : Fr [] W w) (h : W.cell? a = some v) : w.cell? a = some v :=
  (World.cell?_of_block (F.block a.block (World.block_lt_of_cell? W _ h) (by simp))).trans h
theorem Calls.fr {P : Program} {f : FuncId} {args : Array Value} {W w : World} {v : Value} (F : Fr [] W w) (h : Calls P f args w fun e w' => e = .returned v ∧ Fr [] w w') : Calls P f args w fun e w' => e = .returned v ∧ Fr [] W w' :=
  h.mono fun e w' ⟨a, b⟩ => ⟨a, F.trans' b⟩
theorem Calls.fr_same {P : Program} {f : FuncId} {args : Array Value} {W w : World} {v : Value} (F : Fr [] W w) (h : Calls P f args w fun e w' => e = .returned v ∧ w = w') : Calls P f args w fun e w' => e = .returned v ∧ Fr [] W w' :=
  h.mono fun e w' ⟨a, b⟩ => ⟨a, b ▸ F⟩

end Go.Proofs.Ytekfbafljilchaa
