/- choose.Select's closure: the first transition of a state that is asked for. -/
import Derived.Test.YtekfbafljilchaaM2
import Derived.Test.YtekfbafljilchaaSC
set_option linter.unusedVariables false
set_option linter.unusedSimpArgs false
namespace Go.Proofs.Ytekfbafljilchaa
open Go.RowKit Go.Lib

def selT (c : DChart) (nm : ByteArray) (ev : Bool) (t : Int) : Bool := selB (tr c t.toNat).events nm ev
def firstT (c : DChart) (nm : ByteArray) (ev : Bool) (s : Nat) : Option Int := (st c s).trans.find? (selT c nm ev)
def addO (acc : List Int) : Option Int → List Int
  | none => acc
  | some t => add1 acc t
/-- What the closure leaves. -/
def FirstPost (W : World) (B bo : Nat) (v : Value) (acc : List Int) (o : Option Int) (e : Ending) (w' : World) : Prop :=
  ∃ v', e = .returned (.bool o.isSome) ∧ OutV w' B bo v' (addO acc o) ∧ Fr (bo :: v.ownBlock.toList) W w' ∧ (o = none → v' = v ∧ Fr [] W w')
theorem find_take {α : Type} {p : α → Bool} {l : List α} {k : Nat} (hk : k < l.length) (h : ∀ j (hj : j < l.length), j < k → p l[j] = false) (hp : p l[k] = true) : l.find? p = some l[k] := by
  rw [List.find?_eq_some_iff_getElem]
  exact ⟨hp, k, hk, rfl, fun j hj => by simp [h j (by omega) hj]⟩

set_option maxRecDepth 100000 in
set_option maxHeartbeats 16000000 in
theorem first_any (W : World) (B bo : Nat) (v : Value) (acc : List Int) (c : DChart) (s : Nat) (nm : ByteArray) (ev : Bool) (x13 x9 x10 x11 : Nat) (As : Option Addr) (cs : Nat) (At : Option Addr) (ct : Nat) (G : Good c) (hs : s < c.states.length) (hB : B ≤ W.heap.size)
    (k3 : W.cell? ⟨x13, 3, none⟩ = some (.slice As c.states.length cs)) (k4 : W.cell? ⟨x13, 4, none⟩ = some (.slice At c.trans.length ct)) (hS : Sl rState (fun _ => True) W (.slice As c.states.length cs) c.states) (hT : Sl rTrans (fun _ => True) W (.slice At c.trans.length ct) c.trans)
    (h9 : W.cell? ⟨x9, 0, none⟩ = some (.string nm)) (h10 : W.cell? ⟨x10, 0, none⟩ = some (.bool ev)) (h11 : W.cell? ⟨x11, 0, none⟩ = some .nilFunc) (hO : OutV W B bo v acc) (hl : acc.length ≤ 100000) :
    Calls Try.prog 54 #[.int .i64 s, .pointer (some ⟨x13, 0, none⟩), .pointer (some ⟨x9, 0, none⟩), .pointer (some ⟨x10, 0, none⟩), .pointer (some ⟨x11, 0, none⟩), .pointer (some ⟨bo, 0, none⟩)] W (FirstPost W B bo v acc (firstT c nm ev s)) := by
  have lS := hS.len
  have lT := hT.len
  have HS := Lib.hid hS
  have HT := Lib.hid hT
  have HO := Lib.hid hO
  have HG := Lib.hid G
  have hs0 : (0 : Int) ≤ (s : Int) := by omega
  have hsz : (s : Int) < (c.states.length : Int) := by omega
  obtain ⟨gs, os, A3, d3, A5, d5, A6, d6, A7, d7, A8, d8, A9, d9, A11, d11, rfl, _, _, _, _, _, _, _, _, _, c7, _, _, _, _, _, _, _, _, s7, _⟩ := hS.state_at s hs
  have HT7 := Lib.hid s7
  have l7 := s7.len
  have HF : Hid (firstT c nm ev s = c.states[s].trans.find? (selT c nm ev)) := Lib.hid (by rw [firstT, st_at hs])
  have HOW : Hid (∀ t, t ∈ c.states[s].trans → ∃ j : Nat, t = (j : Int) ∧ j < c.trans.length) := Lib.hid (fun t ht => by
    rw [st_at hs] at ht
    obtain ⟨j, a, b, _⟩ := HG.out.own s hs t ht
    exact ⟨j, a, b⟩)
  clear hS hT hO G s7
  generalize c.states[s].trans = l at *
  go_enter Try.func54, Try.ntmps54
  go_wp2
  go_loopg [17] l.length (fun gg s17 wr => ∃ k : Nat, k ≤ l.length ∧ l.length - k ≤ gg ∧ s17 = .int .i64 k ∧ Aside (Fr [] W wr) ∧ Aside (∀ j (h : j < l.length), j < k → selT c nm ev l[j] = false))
  case atStart => exact ⟨0, Nat.zero_le _, by omega, rfl, Fr.refl _ _, (show Aside _ from fun j _ h => absurd h (Nat.not_lt_zero _))⟩
  case round =>
    obtain ⟨k, hk, hgg, rfl, hfr, hno⟩ := hrel
    by_cases hlt : k < l.length
    · have hltz : (k : Int) < (l.length : Int) := by omega
      have hk0 : (0 : Int) ≤ (k : Int) := by omega
      obtain ⟨gx, ox, rfl, _, hgx, hcx⟩ := HT7.out.int_at k hlt
      have hcw := cell_on hfr.out hcx
      have HM := Lib.hid (HOW.out _ (List.getElem_mem hlt))
      have HFT : Hid (selT c nm ev l[k] = true → l.find? (selT c nm ev) = some l[k]) := Lib.hid (fun h => find_take hlt hno.out h)
      have HNO : Hid (selT c nm ev l[k] = false → ∀ j (h : j < l.length), j < k + 1 → selT c nm ev l[j] = false) := Lib.hid (fun h j hj hjk => by
        rcases Nat.lt_succ_iff_lt_or_eq.1 hjk with h1 | rfl
        · exact hno.out j hj h1
        · exact h)
      clear hcx
      generalize l[k] = t at *
      obtain ⟨j, rfl, hj⟩ := HM.out
      obtain ⟨gt, ot, A1, d1, A3', d3', rfl, _, _, _, c1, _, _, _, _, s1, _⟩ := HT.out.trans_at j hj
      have q4 := cell_on hfr.out k4
      have q9 := cell_on hfr.out h9
      have q10 := cell_on hfr.out h10
      have q11 := cell_on hfr.out h11
      have q1 := cell_on hfr.out c1
      have HE := Lib.hid s1
      have HSE : Hid (selT c nm ev (j : Int) = selB c.trans[j].events nm ev) := Lib.hid (by rw [selT, Int.toNat_natCast, tr_at hj])
      have HSC : Hid (∀ w, Fr [] wr w → Calls Try.prog 55 #[.slice A1 c.trans[j].events.length d1, .string nm, .bool ev] w fun e w' => e = .returned (.bool (selB c.trans[j].events nm ev)) ∧ Fr [] wr w') := Lib.hid (fun w F => Calls.fr F (selected_any w c.trans[j].events nm ev (fun _ => True) A1 d1 (HE.out.fr fun k _ hk => ⟨trivial, (hfr.out.trans' F).block k hk (by simp)⟩)))
      clear c1 s1
      generalize c.trans[j].events = evs at *
      cases hz : selB evs nm ev with
      | false =>
        rw [hz] at HSC
        have HNX := Lib.hid (HNO.out (by rw [HSE.out, hz]))
        clear hz
        go_wp2
        refine sel_f q4 q9 q10 q11 q1 hj HSC.out ?_
        intros
        rename_i w3 hpost
        obtain ⟨F3, rfl⟩ := hpost
        have HF3 := Lib.hid (hfr.out.trans' F3)
        clear F3
        go_wp2
        go_roundg (l.length - (k + 1))
        case measure => omega
        case rel => exact ⟨k + 1, by omega, by omega, by go_num, HF3.out, HNX.out⟩
      | true =>
        rw [hz] at HSC
        have HR : Hid (firstT c nm ev s = some (j : Int)) := Lib.hid (by rw [HF.out]; exact HFT.out (by rw [HSE.out, hz]))
        clear hz
        go_wp2
        refine sel_t q4 q9 q10 q11 q1 hj HSC.out ?_
        intros
        rename_i w3 hpost
        obtain ⟨F3, rfl⟩ := hpost
        have HF3 := Lib.hid (hfr.out.trans' F3)
        have HO3 := Lib.hid (HO.out.fr HF3.out (by simp) (by simp))
        clear F3
        have hvb := HO3.out.blk.cell 0
        simp at hvb
        have hbl3 := HO3.out.blk.lt
        have HIO := Lib.hid (int_own' HO3.out.own (by omega))
        obtain ⟨Av, dv, rfl⟩ := own_slice HO3.out.own
        have hcn := contains_any acc (j : Int) _ Av dv w3 HIO.out
        cases hh : has acc (j : Int) with
        | true =>
          rw [hh] at hcn
          have HA : Hid (add1 acc (j : Int) = acc) := Lib.hid (by rw [add1, hh]; rfl)
          clear hh
          go_wp2_with fail
          refine hcn.mono ?_
          rintro e w' ⟨rfl, rfl⟩
          go_wp2
          go_ret
          exact ⟨_, by rw [HR.out]; rfl, by rw [HR.out]; show OutV _ _ _ _ (add1 acc (j : Int)); rw [HA.out]; exact HO3.out, HF3.out.nil, fun h => by rw [HR.out] at h; cases h⟩
        | false =>
          rw [hh] at hcn
          have HA : Hid (add1 acc (j : Int) = acc ++ [(j : Int)]) := Lib.hid (by rw [add1, hh]; rfl)
          clear hh
          go_wp2_with fail
          refine hcn.mono ?_
          rintro e w' ⟨rfl, rfl⟩
          have hnb := Lib.hid (heap_alloc_new w3 (.cells #[.int .i64 (j : Int)] 3))
          have HAP := Lib.hid (HO3.out.own.alloc (.cells #[.int .i64 (j : Int)] 3))
          have hBw : B ≤ (w3.alloc (.cells #[.int .i64 (j : Int)] 3)).heap.size := by have := HF3.out.size; simp; omega
          obtain ⟨i0, hi0, hz0, hz1, hz2⟩ := info_parts info3
          go_wp2_with (at_builtin; refine wpList_append_lies _ rfl _ _ 29 rfl B 3 i0 _ 1 8 Try.underlying29 hi0 hz0 hz1 hz2 rfl (by decide) _ acc.length (acc.map (.int .i64)) rfl HAP.out ⟨_, 0, none⟩ 1 1 [.int .i64 (j : Int)] rfl rfl (World.news_of_block hnb.out) (by simp [Value.oneCell']) (by decide) (by simp only [maxLen]; omega) (by omega) hBw _ rfl ?_)
          intro g9 cap9 w9 hown9 hgrow hat hlt9
          obtain ⟨hP1, hP2, hP3⟩ := HO3.out.push hgrow hown9
          have HP1 := Lib.hid hP1
          have HP2 := Lib.hid hP2
          have hb9 := hP3.cell 0
          have hf9 := hP3.free 0
          have hbl9 := hP3.lt
          simp at hb9
          clear hP1 hP2 hP3 hown9 hgrow hat
          go_wp2
          go_ret
          exact ⟨_, by rw [HR.out]; rfl, by rw [HR.out]; show OutV _ _ _ _ (add1 acc (j : Int)); rw [HA.out]; exact HP1.out, HF3.out.nil.trans HP2.out (fun _ h _ => h), fun h => by rw [HR.out] at h; cases h⟩
    · obtain rfl : k = l.length := by omega
      have hltz : ¬ (l.length : Int) < (l.length : Int) := by omega
      have HR : Hid (firstT c nm ev s = none) := Lib.hid (by
        rw [HF.out, List.find?_eq_none]
        intro x hx
        obtain ⟨j, hj, rfl⟩ := List.getElem_of_mem hx
        simp [hno.out j hj hj])
      go_wp2
      go_ret
      exact ⟨v, by rw [HR.out]; rfl, by rw [HR.out]; exact HO.out.fr hfr.out (by simp) (by simp), hfr.out.nil, fun _ => ⟨rfl, hfr.out⟩⟩
end Go.Proofs.Ytekfbafljilchaa

/- choose.Select, where no conditions are handed in. -/
set_option linter.unusedVariables false
set_option linter.unusedSimpArgs false
namespace Go.Proofs.Ytekfbafljilchaa
open Go.RowKit Go.Lib

def chainOf (c : DChart) (s : Nat) : List Int := (s : Int) :: abv c (s : Int) (-1)
def askS (c : DChart) (nm : ByteArray) (ev : Bool) (s : Nat) : Option Int := (chainOf c s).findSome? fun p => firstT c nm ev p.toNat
def ask1 (c : DChart) (cfg : List Int) (nm : ByteArray) (ev : Bool) (acc : List Int) (s : Nat) : List Int := if atomB c (s : Int) && has cfg (s : Int) then addO acc (askS c nm ev s) else acc
def askedL (c : DChart) (cfg : List Int) (nm : ByteArray) (ev : Bool) (n : Nat) : List Int := (List.range n).foldl (ask1 c cfg nm ev) []
theorem askedL_succ (c : DChart) (cfg : List Int) (nm : ByteArray) (ev : Bool) (n : Nat) : askedL c cfg nm ev (n + 1) = ask1 c cfg nm ev (askedL c cfg nm ev n) n := by
  unfold askedL
  rw [List.range_succ, List.foldl_append]
  rfl
theorem mem_addO {acc : List Int} {o : Option Int} {t : Int} (h : t ∈ addO acc o) : t ∈ acc ∨ o = some t := by
  cases o with
  | none => exact .inl h
  | some x =>
    rcases mem_add1.1 h with h | rfl
    · exact .inl h
    · exact .inr rfl
theorem addO_len (acc : List Int) (o : Option Int) : (addO acc o).length ≤ acc.length + 1 := by
  cases o with
  | none => show acc.length ≤ _; omega
  | some x => exact add1_len acc x
theorem asked_len (c : DChart) (cfg : List Int) (nm : ByteArray) (ev : Bool) : ∀ n, (askedL c cfg nm ev n).length ≤ n := by
  intro n
  induction n with
  | zero => simp [askedL]
  | succ n ih =>
    rw [askedL_succ, ask1]
    split
    · have := addO_len (askedL c cfg nm ev n) (askS c nm ev n); omega
    · omega
/-- What is asked: by a state that is in the chain of an atomic one there. -/
theorem mem_asked {c : DChart} {cfg : List Int} {nm : ByteArray} {ev : Bool} {t : Int} : ∀ {n : Nat}, t ∈ askedL c cfg nm ev n → ∃ s, s < n ∧ atomB c (s : Int) = true ∧ (s : Int) ∈ cfg ∧ askS c nm ev s = some t := by
  intro n
  induction n with
  | zero => intro h; simp [askedL] at h
  | succ n ih =>
    intro h
    rw [askedL_succ, ask1] at h
    split at h
    · rename_i hc
      rw [Bool.and_eq_true] at hc
      rcases mem_addO h with h | h
      · obtain ⟨s, a, b⟩ := ih h
        exact ⟨s, by omega, b⟩
      · exact ⟨n, by omega, hc.1, has_iff.1 hc.2, h⟩
    · obtain ⟨s, a, b⟩ := ih h
      exact ⟨s, by omega, b⟩
theorem ask_first {c : DChart} {nm : ByteArray} {ev : Bool} {s : Nat} {t : Int} (h : askS c nm ev s = some t) : ∃ p, p ∈ chainOf c s ∧ t ∈ (st c p.toNat).trans ∧ selT c nm ev t = true := by
  obtain ⟨p, hp, hf⟩ := List.exists_of_findSome?_eq_some h
  exact ⟨p, hp, List.mem_of_find?_eq_some hf, List.find?_some hf⟩
theorem findSome_take {α β : Type} {f : α → Option β} {l : List α} {k : Nat} {b : β} (hk : k < l.length) (h : ∀ j (hj : j < l.length), j < k → f l[j] = none) (hp : f l[k] = some b) : l.findSome? f = some b := by
  have h0 : (l.take k).findSome? f = none := by
    rw [List.findSome?_eq_none_iff]
    intro x hx
    obtain ⟨j, hj, rfl⟩ := List.getElem_of_mem hx
    simp at hj
    simp [h j (by omega) (by omega)]
  have e : l.findSome? f = (l.take k ++ l.drop k).findSome? f := by rw [List.take_append_drop]
  rw [e, List.findSome?_append, h0, List.drop_eq_getElem_cons hk, List.findSome?_cons, hp]
  rfl
theorem Tree.chain_st {c : DChart} (T : Tree c) {s : Nat} (hs : s < c.states.length) {p : Int} (h : p ∈ chainOf c s) : ∃ i : Nat, p = (i : Int) ∧ i < c.states.length := by
  rcases List.mem_cons.1 h with rfl | h
  · exact ⟨s, rfl, hs⟩
  · exact T.abv_mem h
theorem Good.asked {c : DChart} (G : Good c) {cfg : List Int} {nm : ByteArray} {ev : Bool} {t : Int} (h : t ∈ askedL c cfg nm ev c.states.length) : knownB c t = true := by
  obtain ⟨s, hs, _, _, ha⟩ := mem_asked h
  obtain ⟨p, hp, ht, _⟩ := ask_first ha
  obtain ⟨i, rfl, hi⟩ := G.tree.chain_st hs hp
  obtain ⟨j, rfl, hj, _⟩ := G.own i hi t ht
  simp [knownB, hj]
def selL (c : DChart) (cfg : List Int) (mem : List (List Int)) (nm : ByteArray) (ev : Bool) : List Int := resL c cfg mem (askedL c cfg nm ev c.states.length)

/-- What is true ahead of each state. -/
structure SInv (W w : World) (nm : ByteArray) (ev : Bool) (x13 x9 x10 x11 bo : Nat) (cc : Array Value) (v : Value) (acc : List Int) : Prop where
  fr : Fr [] W w
  out : OutV w W.heap.size bo v acc
  b13 : Blk w x13 cc 28
  b9 : Blk w x9 #[.string nm] 9
  b10 : Blk w x10 #[.bool ev] 4
  b11 : Blk w x11 #[.nilFunc] 68
  low : W.heap.size ≤ bo
theorem SInv.on {W w w' : World} {nm : ByteArray} {ev : Bool} {x13 x9 x10 x11 bo : Nat} {cc : Array Value} {v : Value} {acc : List Int} (h : SInv W w nm ev x13 x9 x10 x11 bo cc v acc) (f : Fr [] w w') : SInv W w' nm ev x13 x9 x10 x11 bo cc v acc :=
  ⟨h.fr.trans' f, h.out.fr f (by simp) (by simp), h.b13.fr f (by simp), h.b9.fr f (by simp), h.b10.fr f (by simp), h.b11.fr f (by simp), h.low⟩
theorem SInv.add {W w w' : World} {nm : ByteArray} {ev : Bool} {x13 x9 x10 x11 bo : Nat} {cc : Array Value} {v v' : Value} {acc acc' : List Int} (h : SInv W w nm ev x13 x9 x10 x11 bo cc v acc) (f : Fr (bo :: v.ownBlock.toList) w w') (ho : OutV w' W.heap.size bo v' acc') : SInv W w' nm ev x13 x9 x10 x11 bo cc v' acc' := by
  have key : ∀ {x : Nat} {cs : Array Value} {t : TypeId}, Blk w x cs t → t ≠ 29 → t ≠ 3 → Blk w' x cs t := fun hb h1 h2 => hb.fr f (fun hm => by
    rcases List.mem_cons.1 hm with e | e
    · exact Blk.ne hb h.out.blk h1 e
    · exact blk_own hb h.out.own h2 e)
  refine ⟨h.fr.trans f (fun x hx hlt => ?_), ho, key h.b13 (by decide) (by decide), key h.b9 (by decide) (by decide), key h.b10 (by decide) (by decide), key h.b11 (by decide) (by decide), h.low⟩
  rcases List.mem_cons.1 hx with rfl | hx
  · have := h.low; omega
  · have := own_new h.out.own x hx; omega
end Go.Proofs.Ytekfbafljilchaa

/- choose.Select, where no conditions are handed in: the walk. -/
set_option linter.unusedVariables false
set_option linter.unusedSimpArgs false
namespace Go.Proofs.Ytekfbafljilchaa
open Go.RowKit Go.Lib

theorem Tree.abv_pos {c : DChart} (T : Tree c) {s : Nat} (h0 : 0 < s) (hs : s < c.states.length) : 0 < (abv c (s : Int) (-1)).length := by
  have hn : c.states.length = (c.states.length - 1) + 1 := by omega
  have e : abv c (s : Int) (-1) = abvF c (-1) c.states.length (par c s) := by simp [abv, isSt_nat hs]
  rw [e, hn, T.par_up h0 hs, abvF_step _ _ _ _ (by omega)]
  simp

set_option maxRecDepth 100000 in
set_option maxHeartbeats 32000000 in
theorem select_any (W : World) (g : Nat) (c : DChart) (cfg : List Int) (mem : List (List Int)) (nm : ByteArray) (ev : Bool) (A1 A2 : Option Addr) (d1 d2 : Nat) (q1 q2 : Nat → Prop) (G : Good c) (hk0 : kidsOf c 0 ≠ [])
    (hC : Sl rInt q1 W (.slice A1 cfg.length d1) cfg) (hM : Sl (rSl rInt) q2 W (.slice A2 mem.length d2) mem) (hL : Lat (fun _ => True) W g c) :
    Calls Try.prog 16 #[.pointer (some ⟨g, 0, none⟩), .slice A1 cfg.length d1, .slice A2 mem.length d2, .string nm, .bool ev, .nilFunc] W (NewInts W (selL c cfg mem nm ev)) := by
  have HL := Lib.hid hL
  have HC := Lib.hid hC
  have HM := Lib.hid hM
  have HG := Lib.hid G
  have HK0 := Lib.hid hk0
  have hg := hL.lt
  have lC := hC.len
  have lM := hM.len
  have hmany : c.states.length ≤ 128 := G.tree.many
  have hf0 := Lib.hid ((((Fr.refl [] W).alloc (.cells #[.string nm] 9)).alloc (.cells #[.bool ev] 4)).alloc (.cells #[.nilFunc] 68))
  obtain ⟨As, cs, At, ct, Ab, nb, cb, Ad, nd, cd, Ai, ni, ci, hch⟩ := chart_open2 W g c hL
  have HCH := Lib.hid hch
  have ltr := hch.t.len
  have lst := hch.s.len
  have hc0 := hch.call _ hf0.out
  have hbA : Hid (Blk (((W.alloc (.cells #[.string nm] 9)).alloc (.cells #[.bool ev] 4)).alloc (.cells #[.nilFunc] 68)) W.heap.size #[.string nm] 9) := Lib.hid (((Blk.newAt rfl).alloc _).alloc _)
  have hbB : Hid (Blk (((W.alloc (.cells #[.string nm] 9)).alloc (.cells #[.bool ev] 4)).alloc (.cells #[.nilFunc] 68)) (W.heap.size + 1) #[.bool ev] 4) := Lib.hid ((Blk.newAt (sizeAt rfl)).alloc _)
  have hbC : Hid (Blk (((W.alloc (.cells #[.string nm] 9)).alloc (.cells #[.bool ev] 4)).alloc (.cells #[.nilFunc] 68)) (W.heap.size + 1 + 1) #[.nilFunc] 68) := Lib.hid (Blk.newAt (sizeAt (sizeAt rfl)))
  clear hL hC hM G hch hk0
  go_enter Try.func16, Try.ntmps16
  go_wp2_with fail
  refine hc0.mono ?_
  rintro e w1 ⟨rfl, f1⟩
  have HI0 : Hid (SInv W ((w1.alloc (.cells #[.string c.name, .bool c.late, .int .i64 c.script, .slice As c.states.length cs, .slice At c.trans.length ct, .slice Ab nb cb, .slice Ad nd cd, .slice Ai ni ci] 28)).alloc (.cells #[.slice none 0 0] 29)) nm ev w1.heap.size W.heap.size (W.heap.size + 1) (W.heap.size + 1 + 1) (w1.heap.size + 1) #[.string c.name, .bool c.late, .int .i64 c.script, .slice As c.states.length cs, .slice At c.trans.length ct, .slice Ab nb cb, .slice Ad nd cd, .slice Ai ni ci] (.slice none 0 0) []) := Lib.hid (by
    have hz := (hf0.out.trans' f1).size
    exact ⟨((hf0.out.trans' f1).alloc _).alloc _, ⟨Blk.newAt (sizeAt rfl), World.ownsRow_nil _ _ _ _⟩, (Blk.newAt rfl).alloc _, ((hbA.out.fr f1 (by simp)).alloc _).alloc _, ((hbB.out.fr f1 (by simp)).alloc _).alloc _, ((hbC.out.fr f1 (by simp)).alloc _).alloc _, by omega⟩)
  clear f1 hc0
  go_wp2
  go_loopg [25] c.states.length (fun gg s25 wr => ∃ (k : Nat) (acc : List Int) (v : Value), k ≤ c.states.length ∧ c.states.length - k ≤ gg ∧ s25 = .int .i64 k ∧ Aside (SInv W wr nm ev w1.heap.size W.heap.size (W.heap.size + 1) (W.heap.size + 1 + 1) (w1.heap.size + 1) #[.string c.name, .bool c.late, .int .i64 c.script, .slice As c.states.length cs, .slice At c.trans.length ct, .slice Ab nb cb, .slice Ad nd cd, .slice Ai ni ci] v acc) ∧ Aside (askedL c cfg nm ev k = acc))
  case atStart => exact ⟨0, [], _, Nat.zero_le _, by omega, rfl, HI0.out, (show askedL c cfg nm ev 0 = [] from rfl)⟩
  case round =>
    obtain ⟨k, acc, v, hk, hgg, rfl, hI, hacc⟩ := hrel
    by_cases hlt : k < c.states.length
    · have hltz : (k : Int) < (c.states.length : Int) := by omega
      have hk0 : (0 : Int) ≤ (k : Int) := by omega
      have HLr := Lib.hid (HL.out.on hI.out.fr)
      have HCr := Lib.hid (HC.out.fr (q := fun _ => True) (fun k _ hk => ⟨trivial, hI.out.fr.block k hk (by simp)⟩))
      have hat := atomic_any wr g c (k : Int) HLr.out
      have HSU : Hid (askedL c cfg nm ev (k + 1) = ask1 c cfg nm ev acc k) := Lib.hid (by rw [askedL_succ, hacc.out])
      cases hab : atomB c (k : Int) with
      | false =>
        rw [hab] at hat
        have HS2 : Hid (askedL c cfg nm ev (k + 1) = acc) := Lib.hid (by rw [HSU.out, ask1, hab]; rfl)
        clear hab
        go_wp2_with fail
        refine hat.mono ?_
        rintro e w' ⟨rfl, rfl⟩
        go_wp2
        go_roundg (c.states.length - (k + 1))
        case measure => omega
        case rel => exact ⟨k + 1, acc, v, by omega, by omega, by go_num, hI, HS2.out⟩
      | true =>
        rw [hab] at hat
        have hcn := contains_any cfg (k : Int) (fun _ => True) A1 d1 wr HCr.out
        cases hcb : has cfg (k : Int) with
        | false =>
          rw [hcb] at hcn
          have HS2 : Hid (askedL c cfg nm ev (k + 1) = acc) := Lib.hid (by rw [HSU.out, ask1, hab, hcb]; rfl)
          clear hab hcb
          go_wp2_with fail
          refine hat.mono ?_
          rintro e w' ⟨rfl, rfl⟩
          go_wp2_with fail
          refine hcn.mono ?_
          rintro e w' ⟨rfl, rfl⟩
          go_wp2
          go_roundg (c.states.length - (k + 1))
          case measure => omega
          case rel => exact ⟨k + 1, acc, v, by omega, by omega, by go_num, hI, HS2.out⟩
        | true =>
          rw [hcb] at hcn
          have HS2 : Hid (askedL c cfg nm ev (k + 1) = addO acc (askS c nm ev k)) := Lib.hid (by rw [HSU.out, ask1, hab, hcb]; rfl)
          have hkp : 0 < k := by
            refine Nat.pos_of_ne_zero ?_
            rintro rfl
            simp only [atomB, Bool.and_eq_true, decide_eq_true_eq] at hab
            exact HK0.out (List.eq_nil_of_length_eq_zero hab.2)
          have HPOS := HG.out.tree.abv_pos hkp hlt
          clear hab hcb
          have HF1 := Lib.hid ((Fr.refl [] wr).alloc (.cells #[.int .i64 (k : Int)] 3))
          have hup := above_any (wr.alloc (.cells #[.int .i64 (k : Int)] 3)) g c (k : Int) (-1) HG.out.tree (HLr.out.on HF1.out)
          go_wp2_with fail
          refine hat.mono ?_
          rintro e w' ⟨rfl, rfl⟩
          go_wp2_with fail
          refine hcn.mono ?_
          rintro e w' ⟨rfl, rfl⟩
          go_wp2_with fail
          refine hup.mono ?_
          rintro e w3 ⟨v3, rfl, own3, f3⟩
          have HW3 := Lib.hid (HF1.out.trans' f3)
          have HONE := Lib.hid (own_fr (own_one wr (k : Int)) f3 (by simp))
          have HAB := Lib.hid (int_own' own3 (by have := abv_len c (k : Int) (-1); have h2 : ns c = c.states.length := rfl; omega))
          have hablen : (abv c (k : Int) (-1)).length ≤ 128 := Nat.le_trans (abv_len c (k : Int) (-1)) hmany
          obtain ⟨A3, d3, rfl⟩ := own_slice own3
          obtain ⟨gb, ob, rfl, _, hgb, _⟩ := HAB.out.int_at 0 HPOS
          have HNEWS : Hid (∀ j u, (I64s (abv c (k : Int) (-1)))[j]? = some u → w3.cell? ((⟨gb, ob, none⟩ : Addr).add j) = some u) := Lib.hid (fun j u hu => by
            have hj : j < (abv c (k : Int) (-1)).length := by have := (List.getElem?_eq_some_iff.1 hu).1; simpa using this
            obtain ⟨gb', ob', eA', _, _, hc⟩ := HAB.out.int_at j hj
            injection eA' with eA'
            injection eA' with e1 e2
            subst e1 e2
            rw [List.getElem?_map, List.getElem?_eq_getElem hj] at hu
            have hu' : Value.int .i64 (abv c (k : Int) (-1))[j] = u := by simpa using hu
            rw [← hu', plain_add]
            exact hc)
          have HCST : Hid (∀ p, p ∈ chainOf c k → ∃ i : Nat, p = (i : Int) ∧ i < c.states.length) := Lib.hid (fun p hp => HG.out.tree.chain_st hlt hp)
          have HCHE : Hid (chainOf c k = (k : Int) :: abv c (k : Int) (-1)) := Lib.hid rfl
          have HASK : Hid (askS c nm ev k = (chainOf c k).findSome? fun p => firstT c nm ev p.toNat) := Lib.hid rfl
          obtain ⟨i0, hi0, hz0, hz1, hz2⟩ := info_parts info3
          have hbw : wr.heap.size ≤ w3.heap.size := HW3.out.size
          clear own3 f3 hup hat hcn
          generalize abv c (k : Int) (-1) = ab at *
          go_wp2_with (at_builtin; refine wpList_append_lies _ rfl _ _ 29 rfl wr.heap.size 3 i0 _ 1 8 Try.underlying29 hi0 hz0 hz1 hz2 rfl (by decide) _ 1 [.int .i64 (k : Int)] rfl HONE.out ⟨gb, ob, none⟩ ab.length d3 (I64s ab) rfl (by simp) HNEWS.out (by simp [Value.oneCell']) HPOS (by simp only [maxLen]; omega) (by omega) hbw _ rfl ?_)
          intro g9 cap9 w9 hown9 hgrow hat9 hlt9
          have HW9 : Hid (Fr [] wr w9) := Lib.hid (HW3.out.trans (Fr.of_grown (S := (Value.slice (some ⟨wr.heap.size, 0, none⟩) 1 1).ownBlock.toList) hgrow (fun b hb _ => by simp [hb])) (fun x hx hlt => by have := own_new HONE.out x hx; omega))
          have hlen : 1 + ab.length = (chainOf c k).length := by rw [HCHE.out]; simp; omega
          have HCS9 : Hid (Sl rInt (fun _ => True) w9 (.slice (some ⟨g9, 0, none⟩) (chainOf c k).length cap9) (chainOf c k)) := Lib.hid (by
            have h : w9.ownsRow wr.heap.size 3 1 (.slice (some ⟨g9, 0, none⟩) (1 + ab.length) cap9) (1 + ab.length) ([.int .i64 (k : Int)] ++ I64s ab) := hown9
            rw [hlen] at h
            have e : [Value.int .i64 (k : Int)] ++ I64s ab = I64s (chainOf c k) := by rw [HCHE.out]; rfl
            rw [e] at h
            exact (int_own' h (by omega)).fr (fun _ _ _ => ⟨trivial, rfl⟩))
          have hcl : (chainOf c k).length ≤ 129 := by omega
          rw [hlen]
          have HI9 := Lib.hid (hI.out.on HW9.out)
          clear hown9 hgrow hat9 hlen
          generalize chainOf c k = ch at *
          go_wp2
          obtain ⟨wo, rfl⟩ : ∃ wo : World, wo = wr := ⟨_, rfl⟩
          go_loopg [45] ch.length (fun gg s45 wi => ∃ j : Nat, j ≤ ch.length ∧ ch.length - j ≤ gg ∧ s45 = .int .i64 j ∧ Aside (Fr [] w9 wi) ∧ Aside (∀ i (h : i < ch.length), i < j → firstT c nm ev ch[i].toNat = none))
          case atStart => exact ⟨0, Nat.zero_le _, by omega, rfl, Fr.refl _ _, (show Aside _ from fun i _ h => absurd h (Nat.not_lt_zero _))⟩
          case round =>
            obtain ⟨j, hj, hgj, rfl, hfr, hno⟩ := hrel
            by_cases hjl : j < ch.length
            · have hjz : (j : Int) < (ch.length : Int) := by omega
              have hj0 : (0 : Int) ≤ (j : Int) := by omega
              obtain ⟨gk, ok, e9, _, hgk, hck⟩ := HCS9.out.int_at j hjl
              injection e9 with e9
              injection e9 with e9 e10
              subst e9 e10
              simp only [Nat.zero_add] at hck
              have hck2 := cell_on hfr.out hck
              have HSI := Lib.hid (HI9.out.on hfr.out)
              obtain ⟨i, hi, hin⟩ := HCST.out _ (List.getElem_mem hjl)
              have HFO : Hid (∀ t, firstT c nm ev ch[j].toNat = some t → askS c nm ev k = some t) := Lib.hid (fun t ht => by rw [HASK.out]; exact findSome_take hjl hno.out ht)
              have HNO : Hid (firstT c nm ev ch[j].toNat = none → ∀ i (h : i < ch.length), i < j + 1 → firstT c nm ev ch[i].toNat = none) := Lib.hid (fun h i' hi' hij => by
                rcases Nat.lt_succ_iff_lt_or_eq.1 hij with h1 | rfl
                · exact hno.out i' hi' h1
                · exact h)
              clear hck
              generalize ch[j] = p at *
              subst hi
              have hq3 := HSI.out.b13.cell 3
              have hq4 := HSI.out.b13.cell 4
              have hq9 := HSI.out.b9.cell 0
              have hq10 := HSI.out.b10.cell 0
              have hq11 := HSI.out.b11.cell 0
              simp at hq3 hq4 hq9 hq10 hq11
              have hfi := first_any wr W.heap.size (w1.heap.size + 1) v acc c i nm ev w1.heap.size W.heap.size (W.heap.size + 1) (W.heap.size + 1 + 1) As cs At ct HG.out hin HSI.out.fr.size hq3 hq4 (HCH.out.on HSI.out.fr).s (HCH.out.on HSI.out.fr).t hq9 hq10 hq11 HSI.out.out (by have := asked_len c cfg nm ev k; rw [hacc.out] at this; omega)
              simp only [Int.toNat_natCast] at HFO HNO
              clear hq3 hq4 hq9 hq10 hq11
              cases ho : firstT c nm ev i with
              | none =>
                rw [ho] at hfi
                have HNX := Lib.hid (HNO.out ho)
                clear ho
                go_wp2_with fail
                refine hfi.mono ?_
                rintro e w5 ⟨v5, rfl, _, _, hnn⟩
                have HF5 := Lib.hid (hfr.out.trans' (hnn rfl).2)
                clear hnn hfi
                go_wp2
                go_roundg (ch.length - (j + 1))
                case measure => omega
                case rel => exact ⟨j + 1, by omega, by omega, by go_num, HF5.out, HNX.out⟩
              | some t =>
                rw [ho] at hfi
                have HS3 : Hid (askedL c cfg nm ev (k + 1) = addO acc (some t)) := Lib.hid (by rw [HS2.out, HFO.out t ho])
                clear ho
                go_wp2_with fail
                refine hfi.mono ?_
                rintro e w5 ⟨v5, rfl, out5, f5, _⟩
                have HSN := Lib.hid (HSI.out.add f5 out5)
                clear out5 f5 hfi
                go_wp2
                go_roundg (c.states.length - (k + 1))
                case measure => omega
                case rel => exact ⟨k + 1, _, v5, by omega, by omega, by go_num, HSN.out, HS3.out⟩
            · obtain rfl : j = ch.length := by omega
              have hjz : ¬ (ch.length : Int) < (ch.length : Int) := by omega
              have HS3 : Hid (askedL c cfg nm ev (k + 1) = acc) := Lib.hid (by
                have : askS c nm ev k = none := by
                  rw [HASK.out, List.findSome?_eq_none_iff]
                  intro x hx
                  obtain ⟨i, hi, rfl⟩ := List.getElem_of_mem hx
                  exact hno.out i hi hi
                rw [HS2.out, this]
                rfl)
              have HSN := Lib.hid (HI9.out.on hfr.out)
              go_wp2
              go_roundg (c.states.length - (k + 1))
              case measure => omega
              case rel => exact ⟨k + 1, acc, v, by omega, by omega, by go_num, HSN.out, HS3.out⟩
    · obtain rfl : k = c.states.length := by omega
      have hltz : ¬ (c.states.length : Int) < (c.states.length : Int) := by omega
      have HSE : Hid (selL c cfg mem nm ev = resL c cfg mem acc) := Lib.hid (by rw [selL, hacc.out])
      have HAL := asked_len c cfg nm ev c.states.length
      rw [hacc.out] at HAL
      have HWF : Hid (∀ t, t ∈ acc → (Lit.int .i64 t).wf = true) := Lib.hid (fun t ht => known_wf (HG.out.asked (cfg := cfg) (nm := nm) (ev := ev) (by rw [hacc.out]; exact ht)) ltr)
      have hvb := hI.out.out.blk.cell 0
      simp at hvb
      have HIO := Lib.hid (int_own' hI.out.out.own (by omega))
      obtain ⟨Av, dv, rfl⟩ := own_slice hI.out.out.own
      have HFR := Lib.hid hI.out.fr
      have hrs := resolve_any wr g c cfg mem acc A1 A2 Av d1 d2 dv (fun _ => True) (fun _ => True) _ HG.out HWF.out (by omega) (HC.out.fr (fun k _ hk => ⟨trivial, HFR.out.block k hk (by simp)⟩)) (HM.out.fr (fun k _ hk => ⟨trivial, HFR.out.block k hk (by simp)⟩)) HIO.out (HL.out.on HFR.out)
      go_wp2_with fail
      refine hrs.mono ?_
      rintro e w5 ⟨A5, d5, rfl, f5, own5⟩
      have HO5 := Lib.hid (own_low (B' := W.heap.size) own5 HFR.out.size)
      have HF5 := Lib.hid (HFR.out.trans' f5)
      clear own5 f5 hrs
      go_wp2
      go_ret
      rw [HSE.out]
      exact ⟨_, _, rfl, HF5.out, HO5.out⟩
end Go.Proofs.Ytekfbafljilchaa
