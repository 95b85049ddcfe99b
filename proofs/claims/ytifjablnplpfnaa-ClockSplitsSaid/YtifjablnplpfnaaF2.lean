/- ClockSplits: the walk. -/
import Derived.Test.YtifjablnplpfnaaF1
set_option linter.unusedVariables false
set_option linter.unusedSimpArgs false
namespace Go.Proofs.Ytifjablnplpfnaa
open Go.RowKit Go.Lib

theorem tick_len {s : St} (h : s.Ok) (b : Int) : (s.tick b).1.length ≤ 128 := by
  unfold St.tick
  split
  · simp
  · simp
    exact Nat.le_trans (List.length_filter_le _ _) h.len

set_option maxRecDepth 100000 in
set_option maxHeartbeats 4000000 in
theorem splits_any (W : World) (v : Value) (xs : List Call) (hv : RC W v xs) (a b : Int) (ha0 : 0 ≤ a) (ha1 : a ≤ 4294967295) (hb0 : 0 ≤ b) (hb1 : b ≤ 4294967295) :
    Calls Try.prog 4 #[v, .int .u32 a, .int .u32 b] W fun e w' => e = .returned (.bool true) ∧ Fr [] W w' := by
  have heq : ∀ (w : World) (g : Nat), (binOp .eql 24 (.pointer (some ⟨g, 0, none⟩)) (.pointer none)).run Try.prog w = .ok (.bool false) w := fun _ _ => by kernel_rfl
  have hv0 := hv
  obtain ⟨A, c, rfl, hl0, hread⟩ := hv
  have HR := Lib.hid hread
  have HV := Lib.hid hv0
  clear hread hv0
  by_cases hbig : 400 < xs.length
  · go_enter Try.func4, Try.ntmps4
    go_wp2_with fail
    refine (awake_any W).mono ?_
    rintro e w1 ⟨rfl, f1⟩
    go_wp2
    go_ret
    exact ⟨rfl, f1⟩
  · go_enter Try.func4, Try.ntmps4
    go_wp2_with fail
    refine (awake_any W).mono ?_
    rintro e w1 ⟨rfl, f1⟩
    go_wp2_with fail
    refine (new_al W w1 f1).mono ?_
    rintro e w2 ⟨gc, rfl, h2, _⟩
    go_wp2_with fail
    refine (new_al2 W w2 h2.frame h2).mono ?_
    rintro e w3 ⟨gd, rfl, h3⟩
    go_wp2
    go_loopg [10, 32] xs.length (fun gg _ s32 wr => ∃ k : Nat, k ≤ xs.length ∧ xs.length - k ≤ gg ∧ s32 = .int .i64 k ∧ Aside (Al2 W wr gc gd (runP (xs.take k) ⟨0, []⟩) (runP (xs.take k) ⟨0, []⟩)))
    case atStart => exact ⟨0, by omega, by omega, rfl, h3⟩
    case round =>
      obtain ⟨k, hk, hg, rfl, hal⟩ := hrel
      by_cases hlt : k < xs.length
      · have hltz : (k : Int) < (xs.length : Int) := by omega
        obtain ⟨A', c', e', _, hread'⟩ := HV.out.fr hal.frame
        obtain ⟨hx, g, o, hA', c0, c1, c2, c3, c4, c5⟩ := hread' k hlt
        injection e' with e1 e2 e3
        subst e1 e3
        subst hA'
        have hal1 := hal.fr ((Fr.refl [] wr).alloc (.cells #[.int .u8 xs[k].kind, .int .i64 xs[k].owner, .string xs[k].id, .int .i64 xs[k].delay, .int .i64 xs[k].n, .int .i64 xs[k].by_] 31))
        have hplay := play_al2 hal1 xs[k] hx
        have hsn : xs.take (k + 1) = xs.take k ++ [xs[k]] := List.take_succ_eq_append_getElem hlt
        have HS := Lib.hid hsn
        clear hsn hread' e2
        unfold Call.val at hplay
        go_wp2_with fail
        refine hplay.mono ?_
        rintro e w4 ⟨vr, rfl, ho, hal2, hoth⟩
        have hbox := hoth.2 _ _ _ (Blk.new wr #[.int .u8 xs[k].kind, .int .i64 xs[k].owner, .string xs[k].id, .int .i64 xs[k].delay, .int .i64 xs[k].n, .int .i64 xs[k].by_] 31) (by decide) (by decide)
        have hbl := hbox.lt
        have x0 := hbox.cell 0
        have x1 := hbox.cell 1
        have x2 := hbox.cell 2
        have x3 := hbox.cell 3
        have x4 := hbox.cell 4
        have x5 := hbox.cell 5
        simp at x0 x1 x2 x3 x4 x5
        have hplay2 := play_al2 hal2.symm xs[k] hx
        unfold Call.val at hplay2
        clear hplay hbox
        go_wp2_with fail
        refine hplay2.mono ?_
        rintro e w5 ⟨vr2, rfl, ho2, hal3, hoth2⟩
        go_wp2
        go_roundg (xs.length - (k + 1))
        case measure => omega
        case rel => exact ⟨k + 1, by omega, by omega, by go_num, (show Al2 W w5 gc gd _ _ by rw [HS.out, runP_snoc]; exact hal3.symm)⟩
      · have hltz : ¬ (k : Int) < (xs.length : Int) := by omega
        obtain rfl : k = xs.length := by omega
        have hal' := hal
        unfold Aside at hal'
        rw [List.take_length] at hal'
        have hok : (runP xs ⟨0, []⟩).Ok := hal'.1
        have hso : Sorted (runP xs ⟨0, []⟩).ts := runP_sorted xs _ List.Pairwise.nil
        generalize runP xs ⟨0, []⟩ = s at hal' hok hso
        have hlaw := splits_law hok hso a b ha0 hb0
        clear hal hso
        have ht1 := tick_al2 hal' a (by omega) (by omega)
        go_wp2_with fail
        refine ht1.mono ?_
        rintro e w5 ⟨vx, rfl, ox, h5, _⟩
        have ht2 := tick_al2 h5 b (by omega) (by omega)
        clear ht1
        obtain ⟨Ax, cx, rfl⟩ := own_slice ox
        go_wp2_with fail
        refine ht2.mono ?_
        rintro e w6 ⟨vy, rfl, oy, h6, q6⟩
        have ht3 := tick_al2 h6.symm (a + b) (by omega) (by omega)
        have ox := ox.oth q6
        clear ht2
        obtain ⟨Ay, cy, rfl⟩ := own_slice oy
        go_wp2_with fail
        refine ht3.mono ?_
        rintro e w7 ⟨vz, rfl, oz, h7, q7⟩
        have ox := ox.oth q7
        have oy := oy.oth q7
        clear ht3
        obtain ⟨Az, cz, rfl⟩ := own_slice oz
        have hsz7 := h7.frame.size
        rcases hlaw with ⟨l1, l2, l3, l4, l5⟩ | ⟨l1, l3⟩ | ⟨l1, l2, l3⟩
        · have hx1 := tick_len hok a
          have hy1 := tick_len h5.1 b
          have hmade : OwnI (w7.alloc (.cells #[] 3)) w7.heap.size (.slice (some ⟨w7.heap.size, 0, none⟩) 0 0) [] := World.ownsRow_made w7 #[] 0 (Nat.le_refl _) (by simp [maxLen]) rfl
          have f8 : Fr [] w7 (w7.alloc (.cells #[] 3)) := (Fr.refl _ _).alloc _
          obtain ⟨v1, w8, hr1, o1, g1⟩ := run_append_ints _ w7.heap.size W.heap.size _ _ [] _ hmade (ox.fr f8 (by simp)) (by simp) (by simp) (by omega) 32
          have f9 : Fr [] w7 w8 := f8.trans (Fr.of_grown (S := [w7.heap.size]) g1 (fun k hk _ => by simp [Value.ownBlock] at hk; simp [hk])) (fun x hx hxl => by simp at hx; omega)
          have hb1' := World.ownsRow.lt o1
          have hs8 := f9.size
          obtain ⟨v2, w9, hr2, o2, g2⟩ := run_append_ints _ w7.heap.size W.heap.size _ _ _ _ o1 (oy.fr f9 (by simp)) (by omega) (by simp; omega) (by omega) 32
          have f10 : Fr [] w7 w9 := f9.trans (Fr.of_grown (S := v1.ownBlock.toList) g2 (fun k hk _ => by simp [hk])) (fun x hx hxl => by have := (hb1' x (by simpa [eq_comm] using hx)).1; omega)
          obtain ⟨A1, c1, rfl⟩ := own_slice o1
          obtain ⟨A2, c2, rfl⟩ := own_slice o2
          have hsame := sameInts_any w9 _ _ _ _ o2.ri (oz.fr f10 (by simp)).ri
          have hlist : (([] ++ (s.tick a).1 ++ ((s.tick a).2.2.tick b).1) == (s.tick (a + b)).1) = true := by simp [l4]
          rw [hlist] at hsame
          have HL5 := Lib.hid l5
          clear l4 l5 hlist g1 g2 hb1' hmade o1 o2 oz ox oy
          simp only [List.nil_append, List.length_append] at hr1 hr2 hsame
          rw [l1, l2, l3]
          go_wp2_with (at_builtin; first | (refine Lib.wpList_append_run _ rfl _ _ _ _ rfl _ _ rfl rfl _ _ hr1 ?_) | (refine Lib.wpList_append_run _ rfl _ _ _ _ rfl _ _ rfl rfl _ _ hr2 ?_))
          refine hsame.mono ?_
          rintro e w10 ⟨rfl, f11⟩
          have h10 := h7.fr (f10.trans' f11)
          go_wp2_with fail
          refine (timers_al2 h10.symm).mono ?_
          rintro e w11 ⟨vt, rfl, rt1, h11, f12⟩
          have rt1' := rt1
          obtain ⟨At, ct, rfl, _, _⟩ := rt1'
          go_wp2_with fail
          refine (timers_al2 h11.symm).mono ?_
          rintro e w12 ⟨vt2, rfl, rt2, h12, f13⟩
          have rt2' := rt2
          obtain ⟨At2, ct2, rfl, _, _⟩ := rt2'
          have hts := timers_same w12 _ _ _ _ (rt1.fr f13) rt2
          rw [HL5.out, sameTs_self] at hts
          go_wp2_with fail
          rw [HL5.out] at *
          refine hts.mono ?_
          rintro e w13 ⟨rfl, f14⟩
          have h13 := h12.fr f14
          go_wp2_with fail
          refine (now_al2 h13.symm).mono ?_
          rintro e w14 ⟨rfl, rfl⟩
          go_wp2_with fail
          refine (now_al2 h13).mono ?_
          rintro e w15 ⟨rfl, rfl⟩
          go_wp2
          go_ret
          exact ⟨rfl, h13.frame⟩
        · rw [l1, l3]
          go_wp2
          go_ret
          exact ⟨rfl, h7.frame⟩
        · rw [l1, l2, l3]
          go_wp2
          go_ret
          exact ⟨rfl, h7.frame⟩
end Go.Proofs.Ytifjablnplpfnaa
