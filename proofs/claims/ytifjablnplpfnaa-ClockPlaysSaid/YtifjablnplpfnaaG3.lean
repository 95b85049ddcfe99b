/- The reference's clock: Next, Take, Tick. -/
import Derived.Test.YtifjablnplpfnaaG2
set_option linter.unusedVariables false
set_option linter.unusedSimpArgs false
namespace Go.Proofs.Ytifjablnplpfnaa
open Go.RowKit Go.Lib

/-- What the reference's Next says, of the sorted timers. -/
def rnext (now : Int) : List Tm → Int
  | [] => -1
  | t :: _ => max 0 (t.d - now)

set_option maxRecDepth 100000 in
set_option maxHeartbeats 2000000 in
theorem rnext_any (W : World) (gr : Nat) (rb : Option Nat) (now : Int) (ts : List Tm) (hR : Rk W gr rb now ts) (hn : ts.length ≤ 1000) (hn0 : 0 ≤ now) (hn1 : now ≤ 9007199254740992) (hts : ∀ t, t ∈ ts → 0 ≤ t.d ∧ t.d ≤ 9007200254740992) :
    Calls Try.prog 13 #[.pointer (some ⟨gr, 0, none⟩)] W fun e w' => ∃ out, Stable out ts ∧ e = .returned (.int .i64 (rnext now out)) ∧ Fr [] W w' := by
  have hR0 := hR
  obtain ⟨v, hgr, hr⟩ := hR
  have hgl := hgr.lt
  have hg0 := hgr.cell 0
  simp at hg0
  have HG := Lib.hid hgr
  clear hgr hr
  go_enter Try.func13, Try.ntmps13
  go_wp2_with fail
  refine (sorted_any W gr rb now ts hR0 hn).mono ?_
  rintro e w1 ⟨vs, out, rfl, hst, hos, hf⟩
  have hgr1 := HG.out.fr hf (by simp)
  have hgl1 := hgr1.lt
  have hgc1 := hgr1.cell 0
  simp at hgc1
  have hol : out.length = ts.length := hst.length
  have hmem : ∀ t, t ∈ out → t ∈ ts := fun t ht => by
    have h1 : t ∈ due_ t.d out := List.mem_filter.2 ⟨ht, by simp⟩
    rw [hst.2] at h1
    exact (List.mem_filter.1 h1).1
  have hrt := RT.of_own hos (by omega)
  obtain ⟨A, c, rfl, _, hread⟩ := hrt
  cases out with
  | nil =>
    clear hread hR0
    have HST := Lib.hid hst
    clear hst hmem hol
    go_wp2
    go_ret
    exact ⟨[], HST.out, rfl, hf⟩
  | cons t out =>
    obtain ⟨g, rfl, f0, f1, f2, f3⟩ := hread 0 (by simp)
    have hggl := World.block_lt_of_cell? w1 _ f2
    have hb := hts t (hmem t (by simp))
    simp at f2
    have HST := Lib.hid hst
    have hne0 : (((t :: out).length : Int) == 0) = false := by simp; omega
    have hpos : (0 : Int) < (((t :: out).length : Nat) : Int) := by simp
    have hwr : IntKind.i64.wrap (t.d - now) = t.d - now := by rw [IntKind.wrap_i64]; omega
    clear hread hR0 hst hmem hol f0 f1 f3
    generalize (t :: out).length = n at *
    go_wp2
    go_quiet (fail)
    go_wp2
    go_ret
    exact ⟨_, HST.out, rfl, hf.drewN _⟩

/-- What the reference's Take comes to. -/
def RtookPost (W : World) (gr : Nat) (now : Int) (ts : List Tm) (p : Tm → Bool) (e : Ending) (w' : World) : Prop :=
  ∃ vr out rb', e = .returned vr ∧ Stable out ts ∧ OwnI w' W.heap.size vr ((out.filter p).map Tm.n) ∧ Rk w' gr rb' now (ts.filter fun t => !p t) ∧ (∀ k, rb' = some k → W.heap.size ≤ k) ∧ Fr [gr] W w'

theorem take_snoc_filter (p : Tm → Bool) (l : List Tm) (k : Nat) (h : k < l.length) :
    (l.take (k + 1)).filter p = (l.take k).filter p ++ (if p l[k] then [l[k]] else []) := by
  rw [List.take_succ_eq_append_getElem h, List.filter_append]
  congr 1
  by_cases hp : p l[k] = true
  · simp [hp]
  · simp [hp]

set_option maxRecDepth 100000 in
set_option maxHeartbeats 8000000 in
theorem rtake_any (W : World) (gr : Nat) (rb : Option Nat) (now : Int) (ts : List Tm) (hR : Rk W gr rb now ts) (hn : ts.length ≤ 1000) (how : Nat) (hh : how < 3) (ow : Int) (id : ByteArray) :
    Calls Try.prog 23 #[.pointer (some ⟨gr, 0, none⟩), .int .i64 how, .int .i64 ow, .string id] W (RtookPost W gr now ts (goneP now how ow id)) := by
  have hR0 := hR
  obtain ⟨v, hgr, hr⟩ := hR
  have hrt : RT W v ts := by
    obtain ⟨A, c, rfl, hf⟩ := hr.slice'
    exact ⟨A, c, rfl, by omega, hf⟩
  have HG := Lib.hid hgr
  have HRT := Lib.hid hrt
  obtain ⟨A0, c0, rfl, _, _⟩ := hrt
  clear hgr hr
  obtain ⟨i0, hi, hz0, hz1, hz2⟩ := info_parts info3
  obtain ⟨j0, hj, hy0, hy1, hy2⟩ := info_parts info44
  generalize hp : goneP now how ow id = p
  have hgone := fun w hb t => gone_any w gr now (.slice A0 ts.length c0) hb how hh ow id t
  rw [hp] at hgone
  clear hp
  have HGONE := Lib.hid hgone
  clear hgone
  go_enter Try.func23, Try.ntmps23
  go_wp2_with fail
  refine (sorted_any W gr rb now ts hR0 hn).mono ?_
  rintro e w1 ⟨vs, out, rfl, hst, hos, hf1⟩
  have hol : out.length = ts.length := hst.length
  have hrs := RT.of_own hos (by omega)
  have HRS := Lib.hid hrs
  obtain ⟨A, c, rfl, _, _⟩ := hrs
  have HST := Lib.hid hst
  have hb1 : (out.length : Int) ≤ 1000 := by omega
  have hs1 := hf1.size
  clear hst hos hR0
  have h0 : OwnI w1 w1.heap.size (.slice none 0 0) [] := World.ownsRow_nil _ _ _ _
  have hf0 : Fr [] w1 w1 := Fr.refl _ _
  go_wp2
  go_loopg [9, 11] out.length (fun gg s9 s11 wr => ∃ (k : Nat) (ns : List Int), k ≤ out.length ∧ out.length - k ≤ gg ∧ s11 = .int .i64 k ∧ ns.length ≤ k ∧ Aside (((out.take k).filter p).map Tm.n = ns) ∧ Aside (OwnI wr w1.heap.size s9 ns) ∧ Aside (Fr [] w1 wr))
  case atStart => exact ⟨0, [], by omega, by omega, rfl, by simp, rfl, h0, hf0⟩
  case round =>
    obtain ⟨k, ns, hk, hg, rfl, hnk, hns, hown, hfr⟩ := hrel
    have hns : ((out.take k).filter p).map Tm.n = ns := hns
    have hown : OwnI _ _ _ _ := hown
    have hfr : Fr _ _ _ := hfr
    obtain ⟨wo, rfl⟩ : ∃ wo : World, wo = wr := ⟨_, rfl⟩
    obtain ⟨A9, c9, rfl⟩ := own_slice hown
    have hgo := HG.out.fr (hf1.trans' hfr) (by simp)
    have hso := hfr.size
    by_cases hlt : k < out.length
    · have hltz : (k : Int) < (out.length : Int) := by omega
      obtain ⟨A', c', e', _, hread⟩ := HRS.out.fr hfr
      obtain ⟨g, hA, f0, f1, f2, f3⟩ := hread k hlt
      injection e' with e1 e2 e3
      subst e1 e3
      subst hA
      have hggl := World.block_lt_of_cell? wo _ f2
      have hsn := take_snoc_filter p out k hlt
      have hcall := HGONE.out wo hgo out[k]
      unfold Tm.val at hcall
      clear hread e2
      generalize out[k] = t at *
      cases hpt : p t with
      | false =>
        rw [hpt] at hcall hsn
        have HSN := Lib.hid hsn
        have HNS := Lib.hid hns
        have HO := Lib.hid hown
        clear hsn hpt hns hown
        go_wp2_with fail
        refine hcall.mono ?_
        rintro e w2 ⟨rfl, hf2⟩
        go_wp2
        go_roundg (out.length - (k + 1))
        case measure => omega
        case rel => exact ⟨k + 1, ns, by omega, Nat.le_refl _, by go_num, by omega, (show _ = ns by rw [HSN.out]; simpa using HNS.out), OwnI.fr HO.out hf2 (by simp), hfr.trans' hf2⟩
      | true =>
        rw [hpt] at hcall hsn
        have HSN := Lib.hid hsn
        have HNS := Lib.hid hns
        clear hsn hpt hns
        go_wp2_with fail
        refine hcall.mono ?_
        rintro e w2 ⟨rfl, hf2⟩
        have hg3 : w2.cell? ⟨g, k * 4 + 3, none⟩ = some (.int .i64 t.n) := by rw [← f3]; exact World.cell?_of_block (hf2.block g hggl (by simp))
        have hggl2 : g < w2.heap.size := Nat.lt_of_lt_of_le hggl hf2.size
        have hown2 := OwnI.fr hown hf2 (by simp)
        have hfr2 := hfr.trans' hf2
        have hs2 := hfr2.size
        have hrow := World.ownsRow.lt hown2
        have HROW := Lib.hid hrow
        clear f0 f1 f2 f3 hrow hown
        go_wp2_with (at_builtin; refine wpList_append_own _ rfl _ _ 32 rfl w1.heap.size 3 i0 (.int .i64 0) 1 8 Try.underlying32 hi hz0 hz1 hz2 rfl (by decide) _ _ _ rfl (hown2.alloc _) ⟨w2.heap.size, 0, none⟩ 1 1 [.int .i64 t.n] rfl rfl ?c1 ?c2 ?c3 ?c4 ?c5 ?_)
        case c1 => intro j u hj; match j with | 0 => simp at hj; subst hj; simp [Addr.add] | j + 1 => simp at hj
        case c2 => intro u hu; simp at hu; subst hu; rfl
        case c3 => unfold maxLen; omega
        case c4 => omega
        case c5 => simp; omega
        intro v' w3 hown' hgrow _
        obtain ⟨A', c', rfl⟩ := own_slice hown'
        have HO := Lib.hid hown'
        have HGR := Lib.hid hgrow
        clear hown' hgrow
        go_wp2
        go_roundg (out.length - (k + 1))
        case measure => omega
        case rel =>
          have hf3 := Fr.of_grown (S := (Value.slice A9 ns.length c9).ownBlock.toList) HGR.out (fun k hk _ => by simp [hk])
          refine ⟨k + 1, ns ++ [t.n], by omega, Nat.le_refl _, by go_num, by simp; omega, (show _ = _ by rw [HSN.out]; simpa using HNS.out), (show OwnI _ _ _ _ from ?_), (show Fr _ _ _ from ?_)⟩
          · have h1 := HO.out
            simpa [OwnI] using h1
          · exact (hfr2.alloc (.cells #[.int .i64 t.n] 3)).trans hf3 (fun x hx hxl => by have := (HROW.out x (by simpa [eq_comm] using hx)).1; omega)
    · have hltz : ¬ (k : Int) < (out.length : Int) := by omega
      obtain rfl : k = out.length := by omega
      rw [List.take_length] at hns
      have HNS := Lib.hid hns
      have HOWN := Lib.hid hown
      have hfo : Fr [] wo wo := Fr.refl _ _
      have h1 : wo.ownsRow wo.heap.size 44 4 (.slice none 0 0) 0 (flat ([] : List Tm)) := World.ownsRow_nil _ _ _ _
      have hgol := hgo.lt
      have hgo1 := hgo.cell 1
      simp at hgo1
      clear hns hown
      go_wp2
      go_loopg [12, 13] ts.length (fun gg s12 s13 wr => ∃ (k : Nat) (us : List Tm), k ≤ ts.length ∧ ts.length - k ≤ gg ∧ s13 = .int .i64 k ∧ us.length ≤ k ∧ Aside ((ts.take k).filter (fun t => !p t) = us) ∧ Aside (wr.ownsRow wo.heap.size 44 4 s12 us.length (flat us)) ∧ Aside (Fr [] wo wr))
      case atStart => exact ⟨0, [], by omega, by omega, rfl, by simp, rfl, h1, hfo⟩
      case round =>
        obtain ⟨m, us, hm, hg2, rfl, hum, hus, hown2, hfr2⟩ := hrel
        have hus : (ts.take m).filter (fun t => !p t) = us := hus
        have hown2 : World.ownsRow _ _ _ _ _ _ _ := hown2
        have hfr2 : Fr _ _ _ := hfr2
        obtain ⟨A12, c12, rfl⟩ := own_slice hown2
        have hgr2 := hgo.fr hfr2 (by simp)
        have hgrl := hgr2.lt
        have hgr1 := hgr2.cell 1
        simp at hgr1
        have hso2 := hfr2.size
        by_cases hlt2 : m < ts.length
        · have hltz2 : (m : Int) < (ts.length : Int) := by omega
          obtain ⟨A', c', e', _, hread⟩ := HRT.out.fr ((hf1.trans' hfr).trans' hfr2)
          obtain ⟨g, hA, f0, f1, f2, f3⟩ := hread m hlt2
          injection e' with e1 e2 e3
          subst e1 e3
          subst hA
          have hggl := World.block_lt_of_cell? wr _ f2
          have hsn := take_snoc_filter (fun t => !p t) ts m hlt2
          have hcall := HGONE.out wr hgr2 ts[m]
          unfold Tm.val at hcall
          clear hread e2
          generalize ts[m] = t at *
          cases hpt : p t with
          | true =>
            rw [hpt] at hcall
            simp only [hpt] at hsn
            have HSN := Lib.hid hsn
            have HUS := Lib.hid hus
            have HO := Lib.hid hown2
            clear hsn hpt hus hown2
            go_wp2_with fail
            refine hcall.mono ?_
            rintro e w2 ⟨rfl, hf2⟩
            go_wp2
            go_roundg (ts.length - (m + 1))
            case measure => omega
            case rel => exact ⟨m + 1, us, by omega, Nat.le_refl _, by go_num, by omega, (show _ = us by rw [HSN.out]; simpa using HUS.out), own_fr HO.out hf2 (by simp), hfr2.trans' hf2⟩
          | false =>
            rw [hpt] at hcall
            simp only [hpt] at hsn
            have HSN := Lib.hid hsn
            have HUS := Lib.hid hus
            clear hsn hpt hus
            go_wp2_with fail
            refine hcall.mono ?_
            rintro e w2 ⟨rfl, hf2⟩
            have mv : ∀ i u, wr.cell? ⟨g, i, none⟩ = some u → w2.cell? ⟨g, i, none⟩ = some u := fun i u h => by rw [← h]; exact World.cell?_of_block (hf2.block g hggl (by simp))
            have k0 := mv _ _ f0
            have k1 := mv _ _ f1
            have k2 := mv _ _ f2
            have k3 := mv _ _ f3
            have hggl2 : g < w2.heap.size := Nat.lt_of_lt_of_le hggl hf2.size
            have hgr3 := hgr2.fr hf2 (by simp)
            have hgrl3 := hgr3.lt
            have hgr31 := hgr3.cell 1
            simp at hgr31
            have hown3 := own_fr hown2 hf2 (by simp)
            have hfr3 := hfr2.trans' hf2
            have hs3 := hfr3.size
            have hrow := World.ownsRow.lt hown3
            have HROW := Lib.hid hrow
            have hbt : Blk (w2.alloc (.cells #[.int .i64 t.o, .string t.i, .int .i64 t.d, .int .i64 t.n] 44)) w2.heap.size t.cells.toArray 44 := Blk.new w2 #[.int .i64 t.o, .string t.i, .int .i64 t.d, .int .i64 t.n] 44
            have hcells := tm_cells_at hbt
            have honec := one_cells t
            clear f0 f1 f2 f3 hrow hown2 mv hgr3 hgr2 hbt
            go_wp2_with (at_builtin; refine wpList_append_own _ rfl _ _ 27 rfl wo.heap.size 44 j0 _ 4 40 Try.underlying27 hj hy0 hy1 hy2 rfl (by decide) _ _ _ rfl (hown3.alloc _) ⟨w2.heap.size, 0, none⟩ 1 1 t.cells rfl rfl hcells honec ?c4 ?c5 ?c6 ?_)
            case c4 => unfold maxLen; omega
            case c5 => omega
            case c6 => simp; omega
            intro v' w4 hown' hgrow _
            obtain ⟨A5, c5, rfl⟩ := own_slice hown'
            have HO := Lib.hid hown'
            have HGR := Lib.hid hgrow
            clear hown' hgrow hcells honec
            go_wp2
            go_roundg (ts.length - (m + 1))
            case measure => omega
            case rel =>
              have hf4 := Fr.of_grown (S := (Value.slice A12 us.length c12).ownBlock.toList) HGR.out (fun k hk _ => by simp [hk])
              refine ⟨m + 1, us ++ [t], by omega, Nat.le_refl _, by go_num, by simp; omega, (show _ = _ by rw [HSN.out]; simpa using HUS.out), (show World.ownsRow _ _ _ _ _ _ _ from ?_), (show Fr _ _ _ from ?_)⟩
              · have h1 := HO.out
                simpa using h1
              · exact (hfr3.alloc (.cells #[.int .i64 t.o, .string t.i, .int .i64 t.d, .int .i64 t.n] 44)).trans hf4 (fun x hx hxl => by have := (HROW.out x (by simpa [eq_comm] using hx)).1; omega)
        · have hltz2 : ¬ (m : Int) < (ts.length : Int) := by omega
          obtain rfl : m = ts.length := by omega
          rw [List.take_length] at hus
          have hfz := hgr2.free 1
          have HUS := Lib.hid hus
          have HO2 := Lib.hid hown2
          clear hus hown2
          go_wp2
          go_ret
          have hset : Fr [gr] wr (wr.setCell ⟨gr, 1, none⟩ (.slice A12 us.length c12)) := Fr.setCell (Fr.refl [gr] wr) (p := ⟨gr, 1, none⟩) (by simp) _
          have hglt : gr < W.heap.size := HG.out.lt
          obtain ⟨rb', hr', hrb', hrow⟩ := TRow.of_own HO2.out
          refine ⟨_, out, rb', rfl, HST.out, ?_, ⟨_, by simpa using hgr2.set 1 (.slice A12 us.length c12), ?_⟩, fun k hk => by have := hrb' k hk; omega, ?_⟩
          · rw [HNS.out]
            exact ((HOWN.out.fr hfr2 (by simp)).fr hset (fun k hk => by have := (World.ownsRow.lt HOWN.out k hk).1; simp; omega)).low (by omega)
          · rw [HUS.out]
            exact hr'.fr hset (fun k hk => by have := hrb' k hk; simp; omega)
          · exact (((hf1.trans' hfr).trans' hfr2).nil (S := [gr])).trans hset (fun x hx _ => hx)

def RtickPost (W : World) (gr : Nat) (rb : Option Nat) (now : Int) (ts : List Tm) (b : Int) (e : Ending) (w' : World) : Prop :=
  if b < 0 ∨ b > 9007199254740992 ∨ now + b > 9007199254740992 then e = .returned (.tuple #[.slice none 0 0, .int .i64 1]) ∧ Fr [] W w'
  else ∃ vr out rb', e = .returned (.tuple #[vr, .int .i64 0]) ∧ Stable out ts ∧ OwnI w' W.heap.size vr ((out.filter fun t => decide (t.d ≤ now + b)).map Tm.n) ∧ Rk w' gr rb' (now + b) (ts.filter fun t => !decide (t.d ≤ now + b)) ∧ (∀ k, rb' = some k → W.heap.size ≤ k) ∧ Fr [gr] W w'

set_option maxRecDepth 100000 in
set_option maxHeartbeats 2000000 in
theorem rtick_any (W : World) (gr : Nat) (rb : Option Nat) (now : Int) (ts : List Tm) (hR : Rk W gr rb now ts) (hn : ts.length ≤ 1000) (hn0 : 0 ≤ now) (hn1 : now ≤ 9007199254740992) (b : Int) (hb0 : -9223372036854775808 ≤ b) (hb1 : b ≤ 9223372036854775807) :
    Calls Try.prog 24 #[.pointer (some ⟨gr, 0, none⟩), .int .i64 b] W (RtickPost W gr rb now ts b) := by
  obtain ⟨v, hgr, hr⟩ := hR
  have hgl := hgr.lt
  have hg0 := hgr.cell 0
  have hf0 := hgr.free 0
  simp at hg0
  by_cases h1 : b < 0
  · have hpost : ∀ e w', (e = .returned (.tuple #[.slice none 0 0, .int .i64 1]) ∧ Fr [] W w') → RtickPost W gr rb now ts b e w' := fun e w' h => by unfold RtickPost; rw [if_pos (.inl h1)]; exact h
    clear hr hgr
    go_enter Try.func24, Try.ntmps24
    go_wp2
    go_ret2
    exact hpost _ _ ⟨rfl, Fr.refl [] W⟩
  by_cases h2 : b > 9007199254740992
  · have hpost : ∀ e w', (e = .returned (.tuple #[.slice none 0 0, .int .i64 1]) ∧ Fr [] W w') → RtickPost W gr rb now ts b e w' := fun e w' h => by unfold RtickPost; rw [if_pos (.inr (.inl h2))]; exact h
    clear hr hgr
    go_enter Try.func24, Try.ntmps24
    go_wp2
    go_ret2
    exact hpost _ _ ⟨rfl, Fr.refl [] W⟩
  have hwr : IntKind.i64.wrap (now + b) = now + b := by rw [IntKind.wrap_i64]; omega
  by_cases h3 : now + b > 9007199254740992
  · have hpost : ∀ e w', (e = .returned (.tuple #[.slice none 0 0, .int .i64 1]) ∧ Fr [] W w') → RtickPost W gr rb now ts b e w' := fun e w' h => by unfold RtickPost; rw [if_pos (.inr (.inr h3))]; exact h
    clear hr hgr
    go_enter Try.func24, Try.ntmps24
    go_wp2
    go_ret2
    exact hpost _ _ ⟨rfl, Fr.refl [] W⟩
  have hpost : ∀ e w', (∃ vr out rb', e = .returned (.tuple #[vr, .int .i64 0]) ∧ Stable out ts ∧ OwnI w' W.heap.size vr ((out.filter fun t => decide (t.d ≤ now + b)).map Tm.n) ∧ Rk w' gr rb' (now + b) (ts.filter fun t => !decide (t.d ≤ now + b)) ∧ (∀ k, rb' = some k → W.heap.size ≤ k) ∧ Fr [gr] W w') → RtickPost W gr rb now ts b e w' := fun e w' h => by
    unfold RtickPost; rw [if_neg (by omega)]; exact h
  have hset : Fr [gr] W (W.setCell ⟨gr, 0, none⟩ (.int .i64 (now + b))) := Fr.setCell (Fr.refl [gr] W) (p := ⟨gr, 0, none⟩) (by simp) _
  have hR1 : Rk (W.setCell ⟨gr, 0, none⟩ (.int .i64 (now + b))) gr rb (now + b) ts := ⟨v, by simpa using hgr.set 0 (.int .i64 (now + b)), hr.fr hset (fun k hk => by
    obtain ⟨_, d, hd⟩ := hr.lt k hk
    simp
    exact hd.ne hgr (by decide))⟩
  have htk := rtake_any _ gr rb (now + b) ts hR1 hn 2 (by omega) 0 ⟨#[]⟩
  have HP := Lib.hid hpost
  have HS := Lib.hid hset
  clear hpost hR1 hr hgr hset
  go_enter Try.func24, Try.ntmps24
  go_wp2_with fail
  refine htk.mono ?_
  rintro e w1 ⟨vr, out, rb', rfl, hst, ho, hR', hrb, hf⟩
  have ho2 : OwnI w1 W.heap.size vr ((out.filter fun t => decide (t.d ≤ now + b)).map Tm.n) := by
    have h := OwnI.low (base' := W.heap.size) ho (by simp)
    exact h
  obtain ⟨Ar, cr, rfl⟩ := own_slice ho
  have hst := Lib.hid hst
  have hrb := Lib.hid hrb
  go_wp2
  go_ret2
  exact HP.out _ _ ⟨_, out, rb', rfl, hst.out, by simpa using ho2, hR', by simpa using hrb.out, HS.out.trans hf (fun x hx _ => hx)⟩
end Go.Proofs.Ytifjablnplpfnaa
