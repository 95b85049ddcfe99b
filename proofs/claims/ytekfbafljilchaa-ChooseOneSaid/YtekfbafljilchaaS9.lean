/- sets.Exit. -/
import Derived.Test.YtekfbafljilchaaS6
import Derived.Test.YtekfbafljilchaaK2
set_option linter.unusedVariables false
set_option linter.unusedSimpArgs false
namespace Go.Proofs.Ytekfbafljilchaa
open Go.RowKit Go.Lib

/-- Is x left by t? -/
def leftBy (c : DChart) (mem : List (List Int)) (x t : Int) : Bool := (domL c mem t).any (fun d => inB c x d)
def exIn (c : DChart) (cfg : List Int) (mem : List (List Int)) (ts : List Int) (x : Int) : Bool := has cfg x && ts.any (leftBy c mem x)
/-- What transitions leave, falling. -/
def exitL (c : DChart) (cfg : List Int) (mem : List (List Int)) (ts : List Int) : List Int := (((List.range c.states.length).map Int.ofNat).filter (exIn c cfg mem ts)).reverse
theorem inB_st {c : DChart} {x d : Int} (h : inB c x d = true) : isSt c x = true := by
  simp only [inB, Bool.and_eq_true] at h
  exact h.1.1
theorem exIn_st {c : DChart} {cfg : List Int} {mem : List (List Int)} {ts : List Int} {x : Int} (h : exIn c cfg mem ts x = true) : isSt c x = true := by
  simp only [exIn, Bool.and_eq_true] at h
  obtain ⟨t, _, ht⟩ := List.any_eq_true.1 h.2
  unfold leftBy at ht
  cases hd : domL c mem t with
  | none => rw [hd] at ht; cases ht
  | some d => rw [hd] at ht; exact inB_st ht
theorem range_rising (n : Nat) : ((List.range n).map Int.ofNat).Pairwise (fun x y => x < y) := by
  rw [List.pairwise_map]
  exact List.pairwise_lt_range.imp (fun {a b} h => by simpa using h)
/-- Whatever distinct numbers are just those that are left: sorted, they fall as exitL does. -/
theorem exit_sorted {c : DChart} {cfg : List Int} {mem : List (List Int)} {ts L : List Int} (hn : L.Nodup) (hm : ∀ x, x ∈ L ↔ exIn c cfg mem ts x = true) : (L.mergeSort (fun x y => decide (x ≤ y))).reverse = exitL c cfg mem ts := by
  unfold exitL
  congr 1
  have hr := (range_rising c.states.length).filter (exIn c cfg mem ts)
  have hp : L.Perm (((List.range c.states.length).map Int.ofNat).filter (exIn c cfg mem ts)) := by
    refine (List.perm_ext_iff_of_nodup hn (hr.imp (fun h => by omega))).2 fun x => ?_
    rw [hm x, List.mem_filter, List.mem_map]
    constructor
    · intro h
      obtain ⟨i, rfl, hi⟩ := isSt_true (exIn_st h)
      exact ⟨⟨i, List.mem_range.2 hi, rfl⟩, h⟩
    · exact fun h => h.2
  rw [mergeSort_of_perm_i hp]
  exact List.mergeSort_of_pairwise (hr.imp (fun h => by simp; omega))

theorem exIn_take (c : DChart) (cfg : List Int) (mem : List (List Int)) (ts : List Int) (k : Nat) (h : k < ts.length) (x : Int) : exIn c cfg mem (ts.take (k + 1)) x = (exIn c cfg mem (ts.take k) x || has cfg x && leftBy c mem x ts[k]) := by
  unfold exIn
  rw [any_take_succ _ _ _ h, Bool.and_or_distrib_left]

set_option maxRecDepth 100000 in
set_option maxHeartbeats 16000000 in
theorem exit_any (W : World) (g : Nat) (c : DChart) (cfg : List Int) (mem : List (List Int)) (ts : List Int) (A1 A2 A3 : Option Addr) (d1 d2 d3 : Nat) (q1 q2 q3 : Nat → Prop) (G : Good c)
    (hC : Sl rInt q1 W (.slice A1 cfg.length d1) cfg) (hM : Sl (rSl rInt) q2 W (.slice A2 mem.length d2) mem) (hT : Sl rInt q3 W (.slice A3 ts.length d3) ts) (hL : Lat (fun _ => True) W g c) :
    Calls Try.prog 23 #[.pointer (some ⟨g, 0, none⟩), .slice A1 cfg.length d1, .slice A2 mem.length d2, .slice A3 ts.length d3] W (NewInts W (exitL c cfg mem ts)) := by
  have HL := Lib.hid hL
  have HC := Lib.hid hC
  have HM := Lib.hid hM
  have HT := Lib.hid hT
  have HG := Lib.hid G
  have hg := hL.lt
  have lC := hC.len
  have lM := hM.len
  have lT := hT.len
  have hmm := @run_makeMap Try.prog
  have hO0 := Lib.hid (OM.new W)
  have hf0 := Lib.hid ((Fr.refl [] W).alloc (.map #[] 0))
  have hmany : c.states.length ≤ 128 := G.tree.many
  clear hL hC hM hT G
  go_enter Try.func23, Try.ntmps23
  go_wp2
  go_loopg [20] ts.length (fun gg s20 wr => ∃ (k : Nat) (L : List Int), k ≤ ts.length ∧ ts.length - k ≤ gg ∧ s20 = .int .i64 k ∧ Aside (OM wr W.heap.size L) ∧ Aside (Fr [] W wr) ∧ Aside (∀ x, x ∈ L ↔ exIn c cfg mem (ts.take k) x = true))
  case atStart => exact ⟨0, [], Nat.zero_le _, by omega, rfl, hO0.out, hf0.out, (show Aside _ from fun x => by simp [exIn])⟩
  case round =>
    obtain ⟨k, L, hk, hgg, rfl, hO, hfr, hmem⟩ := hrel
    by_cases hlt : k < ts.length
    · have hltz : (k : Int) < (ts.length : Int) := by omega
      have hk0 : (0 : Int) ≤ (k : Int) := by omega
      obtain ⟨gx, ox, rfl, _, hgx, hcx⟩ := HT.out.int_at k hlt
      have hcw := cell_on hfr.out hcx
      have HTK := Lib.hid (exIn_take c cfg mem ts k hlt)
      clear hcx
      generalize ts[k] = t at *
      have hdm := domain_any wr g c mem t A2 d2 (fun _ => True) HG.out (HM.out.fr (fun k _ hk => ⟨trivial, hfr.out.block k hk (by simp)⟩)) (HL.out.on hfr.out)
      go_wp2_with fail
      refine hdm.mono ?_
      rintro e w1 ⟨rfl, f1⟩
      have HF1 := Lib.hid (hfr.out.trans' f1)
      have HO1 := Lib.hid (hO.out.fr f1 (by simp))
      clear f1 hdm
      obtain ⟨o, ho⟩ : ∃ o, o = domL c mem t := ⟨_, rfl⟩
      rw [← ho]
      have HD : Hid (∀ x, leftBy c mem x t = o.any (fun d => inB c x d)) := Lib.hid (fun x => by rw [ho]; rfl)
      clear ho
      cases o with
      | none =>
        have HM2 : Hid (∀ x, x ∈ L ↔ exIn c cfg mem (ts.take (k + 1)) x = true) := Lib.hid (fun x => by rw [hmem.out x, HTK.out x, HD.out x]; simp)
        go_wp2
        go_roundg (ts.length - (k + 1))
        case measure => omega
        case rel => exact ⟨k + 1, L, by omega, by omega, by go_num, HO1.out, HF1.out, HM2.out⟩
      | some d =>
        have HCw := Lib.hid (HC.out.fr (q := fun _ => True) (fun k _ hk => ⟨trivial, HF1.out.block k hk (by simp)⟩))
        have HD2 : Hid (∀ x, leftBy c mem x t = inB c x d) := Lib.hid (fun x => HD.out x)
        simp only [Option.getD_some, Option.isSome_some]
        go_wp2
        obtain ⟨wo, rfl⟩ : ∃ wo : World, wo = wr := ⟨_, rfl⟩
        go_loopg [34] cfg.length (fun gg s34 wr => ∃ (j : Nat) (M : List Int), j ≤ cfg.length ∧ cfg.length - j ≤ gg ∧ s34 = .int .i64 j ∧ Aside (OM wr W.heap.size M) ∧ Aside (Fr [] W wr) ∧ Aside (∀ x, x ∈ M ↔ x ∈ L ∨ (x ∈ cfg.take j ∧ inB c x d = true)))
        case atStart => exact ⟨0, L, Nat.zero_le _, by omega, rfl, HO1.out, HF1.out, (show Aside _ from fun x => by simp)⟩
        case round =>
          obtain ⟨j, M, hj, hgj, rfl, hOM, hfr2, hmem2⟩ := hrel
          have HLM : Hid (M.length ≤ 128) := Lib.hid (by
            obtain ⟨_, _, hnd, _⟩ := hOM.out
            refine Nat.le_trans (states_len (c := c) hnd (fun x hx => ?_)) hmany
            rcases (hmem2.out x).1 hx with h | h
            · exact exIn_st ((hmem.out x).1 h)
            · exact inB_st h.2)
          by_cases hjt : j < cfg.length
          · have hjz : (j : Int) < (cfg.length : Int) := by omega
            have hj0 : (0 : Int) ≤ (j : Int) := by omega
            obtain ⟨gy, oy, rfl, _, hgy, hcy⟩ := HC.out.int_at j hjt
            have hcw2 := cell_on hfr2.out hcy
            have htk := Lib.hid (List.take_succ_eq_append_getElem hjt)
            clear hcy
            generalize cfg[j] = s at *
            have hin := inside_any wr g c s d (HL.out.on hfr2.out)
            cases hib : inB c s d with
            | false =>
              rw [hib] at hin
              have HIB := Lib.hid hib
              clear hib
              go_wp2_with fail
              refine hin.mono ?_
              rintro e w' ⟨rfl, rfl⟩
              go_wp2
              go_roundg (cfg.length - (j + 1))
              case measure => omega
              case rel =>
                refine ⟨j + 1, M, by omega, by omega, by go_num, hOM, hfr2, (show Aside _ from fun x => ?_)⟩
                rw [hmem2.out x, htk.out, List.mem_append, List.mem_singleton]
                constructor
                · rintro (h | h)
                  · exact .inl h
                  · exact .inr ⟨.inl h.1, h.2⟩
                · rintro (h | ⟨h | rfl, h2⟩)
                  · exact .inl h
                  · exact .inr ⟨h, h2⟩
                  · rw [HIB.out] at h2; cases h2
            | true =>
              rw [hib] at hin
              have HIB := Lib.hid hib
              obtain ⟨i, rfl, hi⟩ := isSt_true (inB_st hib)
              clear hib
              have hlm := HLM.out
              go_wp2_with fail
              refine hin.mono ?_
              rintro e w' ⟨rfl, rfl⟩
              go_wp2_with (at_mapUpdate; refine wpList_set rfl _ _ _ rfl rfl hOM.out (by omega) rfl rfl (by omega) (by omega) ?_; intro w2 hO2 hf2)
              have HO2 := Lib.hid hO2
              have HF2 : Hid (Fr [] W w2) := Lib.hid (hfr2.out.trans hf2 (fun x hx hlt => by simp at hx; omega))
              clear hO2 hf2
              go_roundg (cfg.length - (j + 1))
              case measure => omega
              case rel =>
                refine ⟨j + 1, add1 M (i : Int), by omega, by omega, by go_num, HO2.out, HF2.out, (show Aside _ from fun x => ?_)⟩
                rw [mem_add1, hmem2.out x, htk.out, List.mem_append, List.mem_singleton]
                constructor
                · rintro ((h | h) | rfl)
                  · exact .inl h
                  · exact .inr ⟨.inl h.1, h.2⟩
                  · exact .inr ⟨.inr rfl, HIB.out⟩
                · rintro (h | ⟨h | rfl, h2⟩)
                  · exact .inl (.inl h)
                  · exact .inl (.inr ⟨h, h2⟩)
                  · exact .inr rfl
          · obtain rfl : j = cfg.length := by omega
            have hjz : ¬ (cfg.length : Int) < (cfg.length : Int) := by omega
            have HM2 : Hid (∀ x, x ∈ M ↔ exIn c cfg mem (ts.take (k + 1)) x = true) := Lib.hid (fun x => by
              rw [hmem2.out x, hmem.out x, HTK.out x, HD2.out x, List.take_length, Bool.or_eq_true, Bool.and_eq_true, has_iff])
            go_wp2
            go_roundg (ts.length - (k + 1))
            case measure => omega
            case rel => exact ⟨k + 1, M, by omega, by omega, by go_num, hOM, hfr2, HM2.out⟩
    · obtain rfl : k = ts.length := by omega
      have hltz : ¬ (ts.length : Int) < (ts.length : Int) := by omega
      rw [List.take_length] at hmem
      have HLM : Hid (L.length ≤ 128) := Lib.hid (by
        obtain ⟨_, _, hnd, _⟩ := hO.out
        exact Nat.le_trans (states_len (c := c) hnd (fun x hx => exIn_st ((hmem.out x).1 hx))) hmany)
      have HE : Hid ((L.mergeSort (fun x y => decide (x ≤ y))).reverse = exitL c cfg mem ts) := Lib.hid (by
        obtain ⟨_, _, hnd, _⟩ := hO.out
        exact exit_sorted hnd hmem.out)
      have hlm := HLM.out
      have hky := keys_any (some W.heap.size) wr
      have hso := hO.out.sorted (by omega)
      have hbw := hfr.out.size
      go_wp2_with fail
      refine hky.mono ?_
      rintro e w' ⟨rfl, rfl⟩
      go_wp2_with fail
      refine hso.mono ?_
      rintro e w2 ⟨v, rfl, own2, f2⟩
      have hll : (L.mergeSort (fun x y => decide (x ≤ y))).length = L.length := List.length_mergeSort ..
      rw [← hll] at own2
      have hrv := reverse_any w2 _ v _ own2 (by omega)
      have HN2 := Lib.hid (own_new own2)
      have HF2 : Hid (Fr [] W w2) := Lib.hid ((hfr.out.alloc _).trans' f2)
      clear own2 f2 hso hky
      go_wp2_with fail
      refine hrv.mono ?_
      rintro e w3 ⟨rfl, own3, f3⟩
      have HO3 : Hid (w3.ownsRow W.heap.size 3 1 v (exitL c cfg mem ts).length (I64s (exitL c cfg mem ts))) := Lib.hid (by
        have h := own_low (B' := W.heap.size) own3 (by omega)
        rw [← List.length_reverse, HE.out] at h
        exact h)
      have HF3 : Hid (Fr [] W w3) := Lib.hid (HF2.out.trans f3 (fun x hx hlt => by have := HN2.out x hx; omega))
      clear own3 f3 hrv hll
      obtain ⟨A9, d9, rfl⟩ := own_slice HO3.out
      go_wp2
      go_ret
      exact ⟨_, _, rfl, HF3.out, HO3.out⟩
end Go.Proofs.Ytekfbafljilchaa

/- A map of the call's own whose elements are lists; Resolve's closures. -/
set_option linter.unusedVariables false
set_option linter.unusedSimpArgs false
namespace Go.Proofs.Ytekfbafljilchaa
open Go.RowKit Go.Lib

def vElem (v : Value) : Option (DataW Value × List MemPlace) := some (.held v, [])
def nilSl : Value := .slice none 0 0
/-- Block b is a map with the keys of S; x lies there as f x. -/
def VM (w : World) (b : Nat) (S : List Int) (f : Int → Value) : Prop :=
  ∃ D : DataW Value, w.ownsMap Try.prog 3 vElem b (Maps.size D) D ∧ S.Nodup ∧ (∀ x, x ∈ S ↔ Maps.has D (.int .i64 x) = true) ∧ ∀ x, x ∈ S → D.atKey (.int .i64 x) (.held nilSl) = .held (f x)
theorem VM.lt {w : World} {b : Nat} {S : List Int} {f : Int → Value} (h : VM w b S f) : b < w.heap.size := by
  obtain ⟨D, h, _⟩ := h
  exact h.lt
theorem VM.new (w : World) (f : Int → Value) : VM (w.alloc (.map #[] 0)) w.heap.size [] f :=
  ⟨.map [], World.ownsMap_made w _ _ _, List.nodup_nil, fun x => by simp [Maps.has], fun x h => by cases h⟩
theorem VM.fr {T : List Nat} {w w' : World} {b : Nat} {S : List Int} {f : Int → Value} (h : VM w b S f) (k : Fr T w w') (hb : b ∉ T) : VM w' b S f := by
  have hlt := h.lt
  obtain ⟨D, ⟨es, clock, hg, r⟩, h2⟩ := h
  exact ⟨D, ⟨es, clock, (k.block b hlt hb).trans hg, r⟩, h2⟩
theorem zero29 (w : World) : (zeroValue 29).run Try.prog w = .ok nilSl w := Try.zeroValue29 w
theorem held_inj {v u : Value} {ps : List MemPlace} (hv : vElem v = some (DataW.held u, ps)) : v = u := by
  unfold vElem at hv
  injection hv with hv
  injection hv with h1 h2
  injection h1
theorem VM.look {w : World} {b : Nat} {S : List Int} {f : Int → Value} (h : VM w b S f) {x : Int} (hx : x ∈ S) (hw : (Lit.int .i64 x).wf = true) : (Instr.lookup 131 (.map (some b)) (.int .i64 x) false).run Try.prog w = .ok (f x) w := by
  obtain ⟨D, hown, hn, hh, ha⟩ := h
  obtain ⟨v, ps, hrun, hv⟩ := hown.lookup klaw3 Try.underlying131 (zero29 w) (zd := .held nilSl) (zp := []) rfl (Maps.keyOf_int_mk Try.underlying3 hw)
  rw [ha x hx] at hv
  have e : v = f x := held_inj hv
  rw [← e]
  exact hrun
set_option maxRecDepth 100000 in
theorem VM.look_yes {w : World} {b : Nat} {S : List Int} {f : Int → Value} (h : VM w b S f) {x : Int} (hx : x ∈ S) (hw : (Lit.int .i64 x).wf = true) : (Instr.lookup 131 (.map (some b)) (.int .i64 x) true).run Try.prog w = .ok (.tuple #[f x, .bool true]) w := by
  obtain ⟨D, hown, hn, hh, ha⟩ := h
  obtain ⟨v, ps, hrun, hv⟩ := hown.look_ok klaw3 Try.underlying131 (zero29 w) (zd := .held nilSl) (zp := []) rfl (Maps.keyOf_int_mk Try.underlying3 hw)
  rw [ha x hx] at hv
  have e : v = f x := held_inj hv
  rw [(hh x).1 hx, e] at hrun
  exact hrun
set_option maxRecDepth 100000 in
theorem VM.look_no {w : World} {b : Nat} {S : List Int} {f : Int → Value} (h : VM w b S f) {x : Int} (hx : x ∉ S) (hw : (Lit.int .i64 x).wf = true) : ∃ v, (Instr.lookup 131 (.map (some b)) (.int .i64 x) true).run Try.prog w = .ok (.tuple #[v, .bool false]) w := by
  obtain ⟨D, hown, hn, hh, ha⟩ := h
  obtain ⟨v, ps, hrun, hv⟩ := hown.look_ok klaw3 Try.underlying131 (zero29 w) (zd := .held nilSl) (zp := []) rfl (Maps.keyOf_int_mk Try.underlying3 hw)
  have e : Maps.has D (.int .i64 x) = false := by
    cases hb : Maps.has D (.int .i64 x) with
    | false => rfl
    | true => exact absurd ((hh x).2 hb) hx
  rw [e] at hrun
  exact ⟨v, hrun⟩
/-- m[x] = v, as an operation. -/
theorem op_mapset {w : World} {o : Oper} {a : Act} {K : Act → World → Prop} {Q : Exit → Act → World → Prop} {b : Nat} {S : List Int} {f : Int → Value} {x : Int} {u : Value}
    (m k v : Operand) (hop : o.op = Op.mapUpdate 131 m k v) (hm : a.eval m = .map (some b)) (hO : VM w b S f) (hS : S.length ≤ 1000) (hx : a.eval k = .int .i64 x) (hv : a.eval v = u) (hw : (Lit.int .i64 x).wf = true)
    (hK : ∀ w', VM w' b (add1 S x) (fun y => if y = x then u else f y) → Fr [b] w w' → K (a.put o.dst undef) w') : o.wp Try.prog a w K Q := by
  obtain ⟨D, hown, hn, hh, ha⟩ := hO
  have hp : S.Perm (intKeys D) := CollectedI.perm (left := fun _ => false) ⟨hn, fun x => by rw [hh x]; simp⟩ hown klaw3 Try.underlying3 (fun _ => rfl)
  have hs : Maps.size D = S.length := by
    have := hp.length_eq
    obtain ⟨es, e⟩ := hown.isMap
    rw [this, e]
    simp [Maps.size, intKeys]
  obtain ⟨w', hrun, r1, r2⟩ := hown.update klaw3 Try.underlying131 (by rw [hs]; unfold maxLen; omega) (Maps.keyOf_int_mk Try.underlying3 hw) (val := u) (d := .held u) (ps := []) rfl
  unfold Oper.wp
  simp [execOp, hop, hm, hx, hv, hrun, Result.andThen]
  refine hK w' ⟨D.put (.int .i64 x) (.held u), ?_, nodup_add1 hn, fun y => ?_, fun y hy => ?_⟩ (Fr.of_grown r2 (fun k hk _ => by simp at hk; simp [hk]))
  · obtain ⟨es, clock, hb, F, hs, e⟩ := r1
    exact ⟨es, clock, hb, F, by rw [e, Maps.size_eq, length_read]; exact Nat.le_refl _, e⟩
  · rw [mem_add1, hh y]
    by_cases e : y = x
    · subst e
      rw [Maps.has_put_same hown.isMap (show WideAt.IsKeyLit (.int .i64 y) from trivial)]
      simp
    · rw [Maps.has_put_other (fun h => e (by injection h))]
      simp [e]
  · by_cases e : y = x
    · subst e
      rw [Maps.atKey_put_same hown.isMap (show WideAt.IsKeyLit (.int .i64 y) from trivial)]
      simp only [if_true]
    · rw [Maps.atKey_put_other (fun h => e (by injection h))]
      simp only [if_neg e]
      rcases mem_add1.1 hy with h | h
      · exact ha y h
      · exact absurd h e

/-! ### Resolve's closures -/
set_option maxRecDepth 100000 in
set_option maxHeartbeats 4000000 in
theorem res_closure1 (W : World) (b11 b19 bm : Nat) (t11 t19 : TypeId) (S : List Int) (f : Int → Value) (k : Int) (ek : List Int) (h11 : Blk W b11 #[.map (some bm)] t11) (h19 : Blk W b19 #[.int .i64 k] t19) (hV : VM W bm S f) (hk : k ∈ S) (hw : (Lit.int .i64 k).wf = true)
    (hs : Sl rInt (fun _ => True) W (f k) ek) (l : List Int) :
    Says 92 #[.pointer (some ⟨b11, 0, none⟩), .pointer (some ⟨b19, 0, none⟩)] (fun s => has ek s) l W := by
  refine ⟨enters_of Try.func92 (by kernel_rfl) rfl, fun s hx W' F => ?_⟩
  have k1 := (h11.fr F (by simp)).cell 0
  have k2 := (h19.fr F (by simp)).cell 0
  simp at k1 k2
  have hlk := (hV.fr F (by simp)).look hk hw
  have hs' := hs.fr (q := fun _ => True) (fun k _ hk => ⟨trivial, F.block k hk (by simp)⟩)
  obtain ⟨A, c, e, _⟩ := hs'.form
  rw [e] at hlk hs'
  have hcn := contains_any ek s _ A c W' hs'
  show Calls Try.prog 92 #[.int .i64 s, .pointer (some ⟨b11, 0, none⟩), .pointer (some ⟨b19, 0, none⟩)] W' fun e w' => e = .returned (.bool (has ek s)) ∧ Fr [] W' w'
  generalize has ek s = z at *
  clear h11 h19 hV hk hw hs hs' hx e
  go_enter Try.func92, Try.ntmps92
  go_wp2_with fail
  refine hcn.mono ?_
  rintro e w' ⟨rfl, rfl⟩
  go_wp2
  go_ret
  exact ⟨rfl, Fr.refl _ _⟩

set_option maxRecDepth 100000 in
set_option maxHeartbeats 4000000 in
theorem res_closure2 (T : List Nat) (W : World) (b16 : Nat) (t16 : TypeId) (A : Option Addr) (d : Nat) (gone : List Int) (p : Nat → Prop) (h16 : Blk W b16 #[.slice A gone.length d] t16) (hb : b16 ∉ T) (hs : Sl rInt p W (.slice A gone.length d) gone) (hp : ∀ k, p k → k ∉ T) (l : List Int) :
    SaysIn T 94 #[.pointer (some ⟨b16, 0, none⟩)] (fun s => has gone s) l W := by
  refine ⟨enters_of Try.func94 (by kernel_rfl) rfl, fun s hx W' F => ?_⟩
  have k1 := (h16.fr F hb).cell 0
  simp at k1
  have hcn := contains_any gone s (fun _ => True) A d W' (hs.fr (fun k hk hlt => ⟨trivial, F.block k hlt (hp k hk)⟩))
  show Calls Try.prog 94 #[.int .i64 s, .pointer (some ⟨b16, 0, none⟩)] W' fun e w' => e = .returned (.bool (has gone s)) ∧ Fr [] W' w'
  generalize has gone s = z at *
  clear h16 hb hs hp hx
  go_enter Try.func94, Try.ntmps94
  go_wp2_with fail
  refine hcn.mono ?_
  rintro e w' ⟨rfl, rfl⟩
  go_wp2
  go_ret
  exact ⟨rfl, Fr.refl _ _⟩
end Go.Proofs.Ytekfbafljilchaa
