/- ClockOnce: the walk. -/
import Derived.Test.YtifjablnplpfnaaF1
import Derived.Test.YtifjablnplpfnaaF3
import Derived.StillTailTactics
set_option linter.unusedVariables false
set_option linter.unusedSimpArgs false
namespace Go.Proofs.Ytifjablnplpfnaa
open Go.RowKit Go.Lib

def zs (n : Nat) : Array Value := (List.replicate n (Value.int .i64 0)).toArray
def arr (l : List Int) : Array Value := (l.map (Value.int .i64)).toArray
theorem zs_arr (n : Nat) : zs n = arr (List.replicate n 0) := by simp [zs, arr]
theorem arr_set (l : List Int) (i : Nat) (v : Int) : (arr l).setIfInBounds i (.int .i64 v) = arr (l.set i v) := by
  simp [arr]
theorem arr_at (l : List Int) (i : Nat) : (arr l)[i]? = l[i]?.map (Value.int .i64) := by simp [arr]

theorem Al.set {W w : World} {gc : Nat} {s : St} (h : Al W w gc s) {b : Nat} {c : Array Value} {t : TypeId} (hb : Blk w b c t) (h1 : t ≠ 59) (h2 : t ≠ 44) (hW : W.heap.size ≤ b) (i : Nat) (v : Value) : Al W (w.setCell ⟨b, i, none⟩ v) gc s := by
  obtain ⟨hs, rb, hc, g1, g2, hf⟩ := h
  have hf1 : Fr [b] w (w.setCell ⟨b, i, none⟩ v) := (Fr.refl [b] w).setCell (by simp) v
  refine ⟨hs, rb, Clk.fr hc hf1 ?_ (fun k hk => ?_), g1, g2, hf.trans hf1 (fun x hx hxl => by simp at hx; omega)⟩
  · obtain ⟨v', hg, _⟩ := hc
    simp
    exact (hb.ne hg h1).symm
  · obtain ⟨v', hg, hr⟩ := hc
    obtain ⟨_, d, hd⟩ := hr.lt k hk
    simp
    exact (hb.ne hd h2).symm

theorem info2 : (Try.prog.info? 2).map (fun i => (i.zero, i.size, i.bytes)) = some (some (.int .i64 0), 1, 8) := by kernel_rfl
theorem run_make51 (w : World) (n : Nat) (hn : n ≤ 100000) : (Instr.makeSlice 51 (.int .i64 n) (.int .i64 n)).run Try.prog w = .ok (.slice (some ⟨w.heap.size, 0, none⟩) n n) (w.alloc (.cells (zs n) 2)) := by
  obtain ⟨i0, hi, hz0, hz1, hz2⟩ := info_parts info2
  have := run_make (P := Try.prog) w 51 2 i0 _ Try.underlying51 hi hz0 .i64 .i64 n n (by omega) (by omega) (by rw [hz2]; omega) (by omega)
  rw [this]
  have hz : madeCells (Value.int .i64 0).cells n = zs n := by
    simp only [madeCells, zs, Value.cells]
    apply Array.ext
    · simp
    · intro i h1 h2; simp [Nat.mod_one]
  simp [hz1, hz]
theorem run_make32 (w : World) (n : Nat) (hn : n ≤ 100000) : (Instr.makeSlice 32 (.int .i64 n) (.int .i64 n)).run Try.prog w = .ok (.slice (some ⟨w.heap.size, 0, none⟩) n n) (w.alloc (.cells (zs n) 3)) := by
  obtain ⟨i0, hi, hz0, hz1, hz2⟩ := info_parts info3
  have := run_make (P := Try.prog) w 32 3 i0 _ Try.underlying32 hi hz0 .i64 .i64 n n (by omega) (by omega) (by rw [hz2]; omega) (by omega)
  rw [this]
  have hz : madeCells (Value.int .i64 0).cells n = zs n := by
    simp only [madeCells, zs, Value.cells]
    apply Array.ext
    · simp
    · intro i h1 h2; simp [Nat.mod_one]
  simp [hz1, hz]

set_option maxRecDepth 100000 in
set_option maxHeartbeats 20000000 in
theorem once_any (W : World) (v : Value) (xs : List Call) (hv : RC W v xs) : Calls Try.prog 5 #[v] W fun e w' => e = .returned (.bool true) ∧ Fr [] W w' := by
  have hv0 := hv
  obtain ⟨A, c, rfl, hl0, hread⟩ := hv
  have HV := Lib.hid hv0
  clear hread hv0
  by_cases hbig : 300 < xs.length
  · go_enter Try.func5, Try.ntmps5
    go_wp2_with fail
    refine (awake_any W).mono ?_
    rintro e w1 ⟨rfl, f1⟩
    go_wp2
    go_ret
    exact ⟨rfl, f1⟩
  · have hm1 := fun w => run_make51 w xs.length (by omega)
    have hm2 := fun w => run_make32 w xs.length (by omega)
    go_enter Try.func5, Try.ntmps5
    go_wp2_with fail
    refine (awake_any W).mono ?_
    rintro e w1 ⟨rfl, f1⟩
    go_wp2_with fail
    refine (new_al W w1 f1).mono ?_
    rintro e w2 ⟨gc, rfl, h2, _⟩
    go_wp2
    have hbd : Blk ((w2.alloc (.cells (zs xs.length) 2)).alloc (.cells (zs xs.length) 3)) w2.heap.size (arr (List.replicate xs.length 0)) 2 := by rw [← zs_arr]; exact (Blk.new w2 _ 2).alloc _
    have hbc : Blk ((w2.alloc (.cells (zs xs.length) 2)).alloc (.cells (zs xs.length) 3)) (w2.heap.size + 1) (arr (List.replicate xs.length 0)) 3 := by rw [← zs_arr]; simpa using Blk.new (w2.alloc (.cells (zs xs.length) 2)) (zs xs.length) 3
    have h3 := h2.fr (((Fr.refl [] w2).alloc (.cells (zs xs.length) 2)).alloc (.cells (zs xs.length) 3))
    have hW2 := h2.size
    generalize (w2.alloc (.cells (zs xs.length) 2)).alloc (.cells (zs xs.length) 3) = w3 at *
    have hbdW : W.heap.size ≤ w2.heap.size := h2.size
    generalize w2.heap.size = bd at *
    clear h2 hm1 hm2
    go_loopg [6, 7, 8, 9, 26] xs.length (fun gg s6 _ _ _ s26 wr => ∃ (k : Nat) (s : St) (due came : List Int), k ≤ xs.length ∧ xs.length - k ≤ gg ∧ s26 = .int .i64 k ∧ s6 = .int .i64 s.ts.length ∧ Aside (Al W wr gc s) ∧ Aside (Blk wr bd (arr due) 2) ∧ Aside (Blk wr (bd + 1) (arr came) 3) ∧ Aside (OnceInv xs k s due came))
    case atStart => exact ⟨0, ⟨0, []⟩, _, _, by omega, by omega, rfl, rfl, h3, hbd, hbc, OnceInv.start xs⟩
    case round =>
      obtain ⟨k, s, due, came, hk, hg, rfl, rfl, hal, hbd', hbc', hinv⟩ := hrel
      by_cases hlt : k < xs.length
      · have hltz : (k : Int) < (xs.length : Int) := by omega
        obtain ⟨wo, rfl⟩ : ∃ wo : World, wo = wr := ⟨_, rfl⟩
        obtain ⟨A', c', e', _, hread'⟩ := HV.out.fr hal.frame
        obtain ⟨hx, g, o, hA', c0, c1, c2, c3, c4, c5⟩ := hread' k hlt
        injection e' with e1 e2 e3
        subst e1 e3
        subst hA'
        clear hread' e2
        have hstep := once_step hinv hlt { xs[k] with n := k } rfl
        have hki : kindOf xs k = xs[k].kind % 5 := by unfold kindOf; rw [List.getElem?_eq_getElem hlt]
        have hal1 := hal.fr ((Fr.refl [] wo).alloc (.cells #[.int .u8 xs[k].kind, .int .i64 xs[k].owner, .string xs[k].id, .int .i64 xs[k].delay, .int .i64 k, .int .i64 xs[k].by_] 31))
        have hplay := play_al hal1 { xs[k] with n := k } ⟨hx.k, hx.d0, hx.d1, hx.b0, hx.b1⟩
        have hbdl := hbd'.lt
        have hbcl := hbc'.lt
        have hdl := hx.d0
        have hdu := hx.d1
        unfold Call.val at hplay
        generalize hpr : s.play { xs[k] with n := k } = r at *
        obtain ⟨l, er, s'⟩ := r
        dsimp only at hstep hplay
        go_wp2_with fail
        refine hplay.mono ?_
        rintro e w4 ⟨vr, rfl, ho, hal4, hoth⟩
        obtain ⟨Ar, cr, rfl⟩ := own_slice ho
        have hoth2 := (Oth.of_fr ((Fr.refl [] wo).alloc (.cells #[.int .u8 xs[k].kind, .int .i64 xs[k].owner, .string xs[k].id, .int .i64 xs[k].delay, .int .i64 k, .int .i64 xs[k].by_] 31))).trans hoth
        have b8 := hoth.2 _ _ _ (Blk.new wo #[.int .u8 xs[k].kind, .int .i64 xs[k].owner, .string xs[k].id, .int .i64 xs[k].delay, .int .i64 k, .int .i64 xs[k].by_] 31) (by decide) (by decide)
        have bd4 := hoth2.2 _ _ _ hbd' (by decide) (by decide)
        have bc4 := hoth2.2 _ _ _ hbc' (by decide) (by decide)
        have b8l := b8.lt
        have k0 := b8.cell 0
        have k3 := b8.cell 3
        simp at k0 k3
        have bdl4 := bd4.lt
        rcases hstep with ⟨h0, he0, hl0, hlen, hnow, hinv', hv0, hv1⟩ | ⟨hne, hempty, hcame, hinv', hlen⟩
        · have hal5 := hal4.fr ((Fr.refl [] w4).alloc (.cells #[.slice Ar l.length cr, .int .i64 er] 34))
          subst he0 hl0
          have hg1 : ((xs[k].kind : Int) % 5 == 0) = true := beq_iff_eq.2 (by omega)
          have hl2 : (s'.ts.length : Int) = (s.ts.length : Int) + 1 := by omega
          have HL2 := Lib.hid hl2
          have HINV := Lib.hid hinv'
          have HNOW := Lib.hid hnow
          have HKI := Lib.hid hki
          have hcd := bd4.cell k
          rw [arr_at, List.getElem?_eq_getElem (by rw [hinv.ld]; exact hlt)] at hcd
          simp at hcd
          have hfd := bd4.free k
          have hn4 := now_al (hal5.fr ((Fr.refl [] _).drew))
          rw [hnow] at hn4
          clear h0 hlen hl2 hplay hpr hinv' hki hnow
          generalize due[k]'(by rw [hinv.ld]; exact hlt) = dk at hcd
          have hwrap : IntKind.i64.wrap (s.now + xs[k].delay) = s.now + xs[k].delay := by rw [IntKind.wrap_i64]; omega
          have hal6 : Al W ((w4.setCell ⟨bd, k, none⟩ (.int .i64 (s.now + xs[k].delay))).alloc (.cells #[.slice Ar 0 cr, .int .i64 0] 34)).drew gc s' := (Al.set hal4 bd4 (by decide) (by decide) hbdW k _).fr (((Fr.refl [] _).alloc _).drew)
          have hb1 : Blk ((w4.setCell ⟨bd, k, none⟩ (.int .i64 (s.now + xs[k].delay))).alloc (.cells #[.slice Ar 0 cr, .int .i64 0] 34)).drew bd (arr (due.set k (s.now + xs[k].delay))) 2 := by
            rw [← arr_set]
            exact ((bd4.set k (.int .i64 (s.now + xs[k].delay))).alloc (.cells #[.slice Ar 0 cr, .int .i64 0] 34) : Blk _ _ _ _)
          have hb2 : Blk ((w4.setCell ⟨bd, k, none⟩ (.int .i64 (s.now + xs[k].delay))).alloc (.cells #[.slice Ar 0 cr, .int .i64 0] 34)).drew (bd + 1) (arr came) 3 := ((bc4.other (by dsimp; omega) (.int .i64 (s.now + xs[k].delay))).alloc (.cells #[.slice Ar 0 cr, .int .i64 0] 34) : Blk _ _ _ _)
          have HB1 := Lib.hid hb1
          have HB2 := Lib.hid hb2
          have HAL6 := Lib.hid hal6
          have HW := Lib.hid hwrap
          have hcnt : ((s'.ts.length : Int) != (s.ts.length : Int) + 1) = false := by have := HL2.out; simp [this]
          have hsl := hinv.ok.len
          clear hb1 hb2 hal6 hwrap
          go_wp2
          go_region_with (go_at_call 15; refine hn4.mono ?_; rintro e w' ⟨rfl, rfl⟩)
          all_goals
            rw [HW.out]
            go_wp2
            go_loopg [6, 11, 58] 0 (fun gg s6 _ s58 wr => s58 = .int .i64 0 ∧ s6 = .int .i64 ((s.ts.length : Int) + 1) ∧ wr = ((w4.setCell ⟨bd, k, none⟩ (.int .i64 (s.now + xs[k].delay))).alloc (.cells #[.slice Ar 0 cr, .int .i64 0] 34)).drew)
            case atStart => exact ⟨rfl, rfl, rfl⟩
            case round =>
              obtain ⟨rfl, rfl, rfl⟩ := hrel
              go_wp2_with fail
              refine (timers_al HAL6.out).mono ?_
              rintro e w6 ⟨v6, rfl, ho6, hal7, hoth6⟩
              obtain ⟨A6, c6, rfl⟩ := own_slice ho6
              go_wp2
              go_roundg (xs.length - (k + 1))
              case measure => omega
              case rel => exact ⟨k + 1, s', _, came, by omega, Nat.le_refl _, by go_num, by rw [HL2.out], hal7, hoth6.2 _ _ _ HB1.out (by decide) (by decide), hoth6.2 _ _ _ HB2.out (by decide) (by decide), HINV.out⟩
        · have hal5 := hal4.fr ((Fr.refl [] w4).alloc (.cells #[.slice Ar l.length cr, .int .i64 er] 34))
          by_cases hk0 : xs[k].kind % 5 = 0
          · have he0 : (er == 0) = false := beq_eq_false_iff_ne.2 (fun e => hne ⟨by rw [hki]; exact hk0, e⟩)
            have hg1 : ((xs[k].kind : Int) % 5 == 0) = true := beq_iff_eq.2 (by omega)
            obtain rfl : l = [] := hempty (by rw [hki]; exact hk0)
            have hl2 : (s'.ts.length : Int) = (s.ts.length : Int) := by simp at hlen; omega
            have HL2 := Lib.hid hl2
            have HINV := Lib.hid hinv'
            have hb1 := bd4.alloc (.cells #[.slice Ar ([] : List Int).length cr, .int .i64 er] 34)
            have hb2 := bc4.alloc (.cells #[.slice Ar ([] : List Int).length cr, .int .i64 er] 34)
            have HB1 := Lib.hid hb1
            have HB2 := Lib.hid hb2
            have HAL5 := Lib.hid hal5
            have hcnt : ((s'.ts.length : Int) != (s.ts.length : Int)) = false := by simp [hl2]
            clear hempty hk0 hki hne hlen hl2 hplay hpr hcame hinv' hb1 hb2 hal5
            go_wp2
            go_loopg [6, 11, 58] 0 (fun gg s6 _ s58 wr => s58 = .int .i64 0 ∧ s6 = .int .i64 s.ts.length ∧ wr = w4.alloc (.cells #[.slice Ar ([] : List Int).length cr, .int .i64 er] 34))
            case atStart => exact ⟨rfl, rfl, rfl⟩
            case round =>
              obtain ⟨rfl, rfl, rfl⟩ := hrel
              go_wp2_with fail
              refine (timers_al HAL5.out).mono ?_
              rintro e w6 ⟨v6, rfl, ho6, hal6, hoth6⟩
              obtain ⟨A6, c6, rfl⟩ := own_slice ho6
              go_wp2
              go_roundg (xs.length - (k + 1))
              case measure => omega
              case rel => exact ⟨k + 1, s', due, came, by omega, Nat.le_refl _, by go_num, by rw [HL2.out], hal6, hoth6.2 _ _ _ HB1.out (by decide) (by decide), hoth6.2 _ _ _ HB2.out (by decide) (by decide), HINV.out⟩
          have hg1 : ((xs[k].kind : Int) % 5 == 0) = false := beq_eq_false_iff_ne.2 (by omega)
          clear hempty hk0
          clear hplay hne hpr
          have HKI := Lib.hid hki
          clear hki
          have HCAME := Lib.hid hcame
          have HINV := Lib.hid hinv'
          have HLEN := Lib.hid hlen
          have hlz : l.length ≤ s.ts.length := by omega
          have hsl := hinv.ok.len
          clear hcame hinv' hlen
          go_wp2
          go_loopg [6, 11, 58] l.length (fun gg s6 _ s58 wr => ∃ m : Nat, m ≤ l.length ∧ l.length - m ≤ gg ∧ s58 = .int .i64 m ∧ s6 = .int .i64 ((s.ts.length : Int) - m) ∧ Aside (Al W wr gc s') ∧ Aside (Blk wr bd (arr due) 2) ∧ Aside (Blk wr (bd + 1) (arr (bump came (l.take m))) 3) ∧
              Aside (OwnI wr (wo.heap.size + 1) (.slice Ar l.length cr) l) ∧ Aside (Blk wr wo.heap.size #[.int .u8 xs[k].kind, .int .i64 xs[k].owner, .string xs[k].id, .int .i64 xs[k].delay, .int .i64 k, .int .i64 xs[k].by_] 31))
          case atStart =>
            refine ⟨0, by omega, by omega, rfl, by simp, hal5, (bd4.alloc _ : Blk _ _ _ _), ?_, ?_, (b8.alloc _ : Blk _ _ _ _)⟩
            · show Blk _ _ _ _
              simpa [bump] using bc4.alloc _
            · show OwnI _ _ _ _
              have := ho.fr ((Fr.refl [] w4).alloc (.cells #[.slice Ar l.length cr, .int .i64 er] 34)) (by simp)
              simpa using this
          case round =>
            obtain ⟨m, hm, hgm, rfl, rfl, halm, bdm, bcm, hom, b8m⟩ := hrel
            have bdm : Blk _ _ _ _ := bdm
            have bcm : Blk _ _ _ _ := bcm
            have b8m : Blk _ _ _ _ := b8m
            have hom : OwnI _ _ _ _ := hom
            by_cases hml : m < l.length
            · have hmz : (m : Int) < (l.length : Int) := by omega
              obtain ⟨j, hnj, hjk, hkj, hcj, hdue⟩ := HCAME.out.mem l[m] (List.getElem_mem hml)
              have hjl : j < xs.length := by omega
              obtain ⟨Ao, co, eo, _, hro⟩ := hom.ri
              injection eo with eo1 eo2 eo3
              subst eo1 eo3
              obtain ⟨go_, rfl, hcell⟩ := hro m hml
              rw [hnj] at hcell
              obtain ⟨A2, c2, e2, _, hread2⟩ := HV.out.fr halm.frame
              obtain ⟨hxj, g2, o2, hA2, d0, _⟩ := hread2 j hjl
              injection e2 with e21 e22 e23
              subst e21 e23
              injection hA2 with hA2
              injection hA2 with hg2 ho2
              subst hg2 ho2
              clear hread2 hro e22 eo2
              have hkj' : ((xs[j].kind : Int).tmod 5 != 0) = false := by
                rw [Int.tmod_eq_emod_of_nonneg (by omega)]
                have : kindOf xs j = xs[j].kind % 5 := by unfold kindOf; rw [List.getElem?_eq_getElem hjl]
                rw [this] at hkj
                simp; omega
              have hcm : (bump came (l.take m))[j]? = some 0 := by
                rw [bump_other _ j (fun n hn => ?_)]
                · exact hcj
                · intro e
                  obtain ⟨q, hq, rfl⟩ := List.mem_iff_getElem.1 hn
                  simp at hq
                  have hnd := List.pairwise_iff_getElem.1 (List.nodup_iff_pairwise_ne.1 HCAME.out.nd) q m (by omega) hml (by omega)
                  have hin : l[q] ∈ l := List.getElem_mem _
                  obtain ⟨j2, hj2, _⟩ := HCAME.out.mem _ hin
                  rw [List.getElem_take, hj2] at e
                  simp at e
                  exact hnd (by rw [hj2, hnj, e])
              have hsn : bump came (l.take (m + 1)) = (bump came (l.take m)).set j 1 := by
                rw [List.take_succ_eq_append_getElem hml, bump_snoc, hnj]
                simp
              have HSN := Lib.hid hsn
              have hcc := bcm.cell j
              rw [arr_at, hcm] at hcc
              simp at hcc
              have hcf := bcm.free j
              have hb8k := b8m.cell 0
              simp at hb8k
              have hbdl2 := bdm.lt
              have hbcl2 := bcm.lt
              have hb8l := b8m.lt
              have hgl2 := World.block_lt_of_cell? wr _ d0
              have hgo := World.block_lt_of_cell? wr _ hcell
              have hbl : (bump came (l.take m)).length = xs.length := by rw [bump_length]; exact hinv.lc
              have hjz : (j : Int) < (xs.length : Int) := by omega
              have hjk' : (j : Int) < (k : Int) := by omega
              have hnow := now_al halm
              clear hsn hcm hkj hcj hnj hbl
              by_cases h3 : xs[k].kind % 5 = 3
              · obtain ⟨dd, hd1, hd2⟩ := hdue (by rw [HKI.out]; exact h3)
                have hdc := bdm.cell j
                rw [arr_at, hd1] at hdc
                simp at hdc
                have hk3' : ((xs[k].kind : Int).tmod 5 == 3) = true := by rw [Int.tmod_eq_emod_of_nonneg (by omega)]; exact beq_iff_eq.2 (by omega)
                have hlate : decide (s'.now < dd) = false := by simp; omega
                clear hdue h3 hd1
                go_wp2
                go_quiet ((go_at_call 15; exact Calls.quiet_of_same (now_al (halm.fr ((Fr.refl _ _).drewN _)))))
                go_wp2
                go_roundg (l.length - (m + 1))
                case measure => omega
                case rel =>
                  have fd : Fr [] wr (wr.drewN nq) := (Fr.refl _ _).drewN _
                  refine ⟨m + 1, by omega, Nat.le_refl _, by go_num, by congr 1; omega, (Al.set (halm.fr fd) (bcm.fr fd (by simp)) (by decide) (by decide) (by omega) _ _ : Al _ _ _ _), ((bdm.fr fd (by simp)).other (by dsimp; omega) _ : Blk _ _ _ _), (show Blk _ _ _ _ from ?_), ((hom.fr fd (by simp)).fr (Fr.setCell (Fr.refl [bd + 1] _) (p := ⟨bd + 1, j, none⟩) (by simp) _) (fun x hx => by simp [Value.ownBlock] at hx; subst hx; simp; have := (World.ownsRow.lt hom go_ rfl).1; omega) : OwnI _ _ _ _), ((b8m.fr fd (by simp)).other (by dsimp; omega) _ : Blk _ _ _ _)⟩
                  rw [HSN.out, ← arr_set]
                  exact (bcm.fr fd (by simp)).set j _
              · have hk3' : ((xs[k].kind : Int).tmod 5 == 3) = false := by rw [Int.tmod_eq_emod_of_nonneg (by omega)]; exact beq_eq_false_iff_ne.2 (by omega)
                clear hdue h3
                go_wp2
                go_quiet (fail)
                go_wp2
                go_roundg (l.length - (m + 1))
                case measure => omega
                case rel =>
                  have fd : Fr [] wr (wr.drewN nq) := (Fr.refl _ _).drewN _
                  refine ⟨m + 1, by omega, Nat.le_refl _, by go_num, by congr 1; omega, (Al.set (halm.fr fd) (bcm.fr fd (by simp)) (by decide) (by decide) (by omega) _ _ : Al _ _ _ _), ((bdm.fr fd (by simp)).other (by dsimp; omega) _ : Blk _ _ _ _), (show Blk _ _ _ _ from ?_), ((hom.fr fd (by simp)).fr (Fr.setCell (Fr.refl [bd + 1] _) (p := ⟨bd + 1, j, none⟩) (by simp) _) (fun x hx => by simp [Value.ownBlock] at hx; subst hx; simp; have := (World.ownsRow.lt hom go_ rfl).1; omega) : OwnI _ _ _ _), ((b8m.fr fd (by simp)).other (by dsimp; omega) _ : Blk _ _ _ _)⟩
                  rw [HSN.out, ← arr_set]
                  exact (bcm.fr fd (by simp)).set j _
            · have hmz : ¬ (m : Int) < (l.length : Int) := by omega
              obtain rfl : m = l.length := by omega
              have htim := timers_al halm
              have hcnt : ((s'.ts.length : Int) != (s.ts.length : Int) - (l.length : Int)) = false := by have := HLEN.out; simp; omega
              rw [List.take_length] at bcm
              go_wp2_with fail
              refine htim.mono ?_
              rintro e w6 ⟨v6, rfl, ho6, hal6, hoth6⟩
              obtain ⟨A6, c6, rfl⟩ := own_slice ho6
              go_wp2
              go_roundg (xs.length - (k + 1))
              case measure => omega
              case rel => exact ⟨k + 1, s', due, _, by omega, Nat.le_refl _, by go_num, by have := HLEN.out; congr 1; omega, hal6, hoth6.2 _ _ _ bdm (by decide) (by decide), hoth6.2 _ _ _ bcm (by decide) (by decide), HINV.out⟩
      · have hltz : ¬ (k : Int) < (xs.length : Int) := by omega
        go_wp2
        go_ret
        exact ⟨rfl, hal.frame⟩
end Go.Proofs.Ytifjablnplpfnaa
