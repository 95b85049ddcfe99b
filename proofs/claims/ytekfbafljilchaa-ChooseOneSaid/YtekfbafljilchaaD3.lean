/- (*Lattice).initial. -/
import Derived.Test.YtekfbafljilchaaD1
import Derived.Deep.RegionHeld3
set_option linter.unusedVariables false
set_option linter.unusedSimpArgs false
namespace Go.Proofs.Ytekfbafljilchaa
open Go.RowKit Go.Lib

def tr (c : DChart) (i : Nat) : DTrans := c.trans[i]?.getD default
theorem tr_at {c : DChart} {i : Nat} (h : i < c.trans.length) : c.trans[i] = tr c i := by simp [tr, h]
/-- Is state i's Initial right? -/
def initB (c : DChart) (i : Nat) : Bool :=
  if knd c i < 4 ∧ compB c i = false then decide ((st c i).init = -1)
  else if (st c i).init < 0 ∨ (c.trans.length : Int) ≤ (st c i).init then false
  else if (tr c (st c i).init.toNat).src ≠ i ∨ (tr c (st c i).init.toNat).targets.length = 0 then false
  else !(tr c (st c i).init.toNat).targets.any fun a => badInit c i a.toNat

/-- .. where it must have targets. -/
def initT (c : DChart) (i : Nat) : Bool :=
  if (st c i).init < 0 ∨ (c.trans.length : Int) ≤ (st c i).init then false
  else if (tr c (st c i).init.toNat).src ≠ i ∨ (tr c (st c i).init.toNat).targets.length = 0 then false
  else !(tr c (st c i).init.toNat).targets.any fun a => badInit c i a.toNat

set_option maxRecDepth 100000 in
set_option maxHeartbeats 8000000 in
theorem initial_any (W : World) (g : Nat) (c : DChart) (T : Tree c) (i : Nat) (hi : i < c.states.length) (y0 y3 y5 y6 y7 y8 y9 y10 y11 y12 : Value)
    (hL : Lat (fun _ => True) W g c) (ht : ∀ t, t ∈ c.trans → ∀ x, x ∈ t.targets → isSt c x = true) :
    Calls Try.prog 97 #[.pointer (some ⟨g, 0, none⟩), .int .i64 i, .agg #[y0, .int .i64 (knd c i), .int .i64 (par c i), y3, .int .i64 (st c i).init, y5, y6, y7, y8, y9, y10, y11, y12]] W
      fun e w' => e = .returned (.bool (initB c i)) ∧ Fr [] W w' := by
  obtain ⟨hb, hH⟩ : ∃ hb, decide (4 ≤ knd c i) = hb := ⟨_, rfl⟩
  obtain ⟨W4, hW4⟩ : ∃ W4, W4 = (((W.alloc (.cells #[.pointer (some ⟨g, 0, none⟩)] 36)).alloc (.cells #[.int .i64 i] 3)).alloc (.cells #[y0, .int .i64 (knd c i), .int .i64 (par c i), y3, .int .i64 (st c i).init, y5, y6, y7, y8, y9, y10, y11, y12] 50)).alloc (.cells #[.bool hb] 4) := ⟨_, rfl⟩
  have hf : Fr [] W W4 := by rw [hW4]; exact ((((Fr.refl [] W).alloc _).alloc _).alloc _).alloc _
  have bl : Blk W4 W.heap.size #[.pointer (some ⟨g, 0, none⟩)] 36 := by rw [hW4]; exact (((Blk.new W _ 36).alloc _).alloc _).alloc _
  have bi : Blk W4 (W.heap.size + 1) #[.int .i64 i] 3 := by
    rw [hW4]
    have := ((Blk.new (W.alloc (.cells #[.pointer (some ⟨g, 0, none⟩)] 36)) #[.int .i64 i] 3).alloc (.cells #[y0, .int .i64 (knd c i), .int .i64 (par c i), y3, .int .i64 (st c i).init, y5, y6, y7, y8, y9, y10, y11, y12] 50)).alloc (.cells #[.bool hb] 4)
    simpa using this
  have bs : Blk W4 (W.heap.size + 1 + 1) #[y0, .int .i64 (knd c i), .int .i64 (par c i), y3, .int .i64 (st c i).init, y5, y6, y7, y8, y9, y10, y11, y12] 50 := by
    rw [hW4]
    have := (Blk.new ((W.alloc (.cells #[.pointer (some ⟨g, 0, none⟩)] 36)).alloc (.cells #[.int .i64 i] 3)) #[y0, .int .i64 (knd c i), .int .i64 (par c i), y3, .int .i64 (st c i).init, y5, y6, y7, y8, y9, y10, y11, y12] 50).alloc (.cells #[.bool hb] 4)
    simpa using this
  have bh : Blk W4 (W.heap.size + 1 + 1 + 1) #[.bool hb] 4 := by
    rw [hW4]
    have := Blk.new (((W.alloc (.cells #[.pointer (some ⟨g, 0, none⟩)] 36)).alloc (.cells #[.int .i64 i] 3)).alloc (.cells #[y0, .int .i64 (knd c i), .int .i64 (par c i), y3, .int .i64 (st c i).init, y5, y6, y7, y8, y9, y10, y11, y12] 50)) #[.bool hb] 4
    simpa using this
  have hL4 := hL.on hf
  have hcp := compound_any W4 g c i hL4
  obtain ⟨As, cs, At, ct, Aa, ca, Ak, ck, hC⟩ := hL4.open_
  have c4 := hC.t
  have hlt := hC.T.len
  have hg4 := hL4.lt
  have hl2 := bs.lt
  have hl3 := bh.lt
  have kl := bl.cell 0
  have ki := bi.cell 0
  have kh := bh.cell 0
  have k1 := bs.cell 1
  have k4 := bs.cell 4
  simp at kl ki kh k1 k4
  rw [hW4] at hcp
  have HW := Lib.hid hW4
  have HC := Lib.hid hC
  clear hW4 hC
  -- what is the same however the Initial is come to
  have tail : (¬ (knd c i < 4 ∧ compB c i = false)) → True := fun _ => trivial
  by_cases hk : knd c i < 4
  · have hd : hb = false := by rw [← hH]; simp; omega
    subst hd
    cases hcb : compB c i with
    | false =>
      rw [hcb] at hcp
      have hres : initB c i = decide ((st c i).init = -1) := by simp [initB, hk, hcb]
      have HR := Lib.hid hres
      have HF := Lib.hid (HW.out ▸ hf)
      clear hres hcb hk hf bl bi bs bh kl ki kh k1 k4 c4 hg4 hL hL4 T ht tail
      go_enter Try.func97, Try.ntmps97
      go_wp2_with fail
      refine hcp.mono ?_
      rintro e w' ⟨rfl, rfl⟩
      go_wp2
      go_ret
      exact ⟨by rw [HR.out]; rfl, HF.out⟩
    | true =>
      rw [hcb] at hcp
      have hres : initB c i = initT c i := by simp [initB, initT, hcb]
      have HR := Lib.hid hres
      have HT := Lib.hid T
      have HBL := Lib.hid bl
      have HBI := Lib.hid bi
      have HBS := Lib.hid bs
      have HBH := Lib.hid bh
      have HHT := Lib.hid ht
      have HHH := Lib.hid hH
      clear hres hcb hk bl bi bs bh hL T ht tail
      go_enter Try.func97, Try.ntmps97
      go_wp2_with fail
      refine hcp.mono ?_
      rintro e w' ⟨rfl, rfl⟩
      rw [← HW.out]
      generalize W.heap.size + 1 + 1 + 1 = B3 at *
      generalize W.heap.size + 1 + 1 = B2 at *
      generalize W.heap.size + 1 = B1 at *
      generalize W.heap.size = B at *
      go_wp2
      by_cases hi0 : (st c i).init < 0
      · have hres : initT c i = false := by simp [initT, hi0]
        have HR2 := Lib.hid hres
        clear hres
        go_quiet (fail)
        go_wp2
        go_ret
        exact ⟨by rw [HR.out, HR2.out]; rfl, hf.drewN _⟩
      · by_cases hi1 : (c.trans.length : Int) ≤ (st c i).init
        · have hres : initT c i = false := by simp [initT, hi1]
          have HR2 := Lib.hid hres
          have hi0' : decide ((st c i).init < 0) = false := by simpa using hi0
          clear hres
          go_quiet (fail)
          go_wp2
          go_ret
          exact ⟨by rw [HR.out, HR2.out]; rfl, hf.drewN _⟩
        · have hi0' : decide ((st c i).init < 0) = false := by simpa using hi0
          have hi1' : decide ((c.trans.length : Int) ≤ (st c i).init) = false := by simpa using hi1
          obtain ⟨m, hm⟩ : ∃ m : Nat, (st c i).init = (m : Int) := ⟨(st c i).init.toNat, by omega⟩
          have hml : m < c.trans.length := by omega
          have hm0 : (0 : Int) ≤ (m : Int) := by omega
          have hmz : (m : Int) < (c.trans.length : Int) := by omega
          have hmn : (st c i).init.toNat = m := by omega
          obtain ⟨gt, ot, A1, d1, A3, d3, rfl, _, _, t0, t1, t2, t3, t4, t5, hs1, hs3⟩ := HC.out.T.trans_at m hml
          rw [tr_at hml] at t0 t1 t2 t3 t4 t5 hs1 hs3
          have HTG := Lib.hid (HHT.out (tr c m) (by rw [← tr_at hml]; exact List.getElem_mem hml))
          have HS3 := Lib.hid hs3
          have hres : initT c i = (if (tr c m).src ≠ i ∨ (tr c m).targets.length = 0 then false else !(tr c m).targets.any fun a => badInit c i a.toNat) := by
            unfold initT
            rw [if_neg (by omega), hmn]
          have HR2 := Lib.hid hres
          have HMM := Lib.hid hm
          rw [hm] at k4
          rw [hm] at hi0' hi1'
          go_quiet (fail)
          go_wp2
          obtain ⟨Wq, hWq⟩ : ∃ Wq, Wq = W4.drewN nq := ⟨_, rfl⟩
          rw [← hWq]
          have fq : Fr [] W4 Wq := by rw [hWq]; exact (Fr.refl _ _).drewN _
          have q0 : Wq.cell? ⟨B, 0, none⟩ = some (.pointer (some ⟨g, 0, none⟩)) := by rw [hWq]; exact kl
          have q1 : Wq.cell? ⟨g, 4, none⟩ = some (.slice (some ⟨gt, ot, none⟩) c.trans.length ct) := by rw [hWq]; exact c4
          have q2 : Wq.cell? ⟨B2, 4, none⟩ = some (.int .i64 m) := by rw [hWq]; exact k4
          have q3 : Wq.cell? ⟨gt, ot + m * 6, none⟩ = some (.int .i64 (tr c m).src) := by rw [hWq]; exact t0
          have q4 : Wq.cell? ⟨gt, ot + m * 6 + 1, none⟩ = some (.slice A1 (tr c m).events.length d1) := by rw [hWq]; exact t1
          have q5 : Wq.cell? ⟨gt, ot + m * 6 + 2, none⟩ = some (.string (tr c m).cond) := by rw [hWq]; exact t2
          have q6 : Wq.cell? ⟨gt, ot + m * 6 + 3, none⟩ = some (.slice A3 (tr c m).targets.length d3) := by rw [hWq]; exact t3
          have q7 : Wq.cell? ⟨gt, ot + m * 6 + 4, none⟩ = some (.bool (tr c m).internal) := by rw [hWq]; exact t4
          have q8 : Wq.cell? ⟨gt, ot + m * 6 + 5, none⟩ = some (.int .i64 (tr c m).block) := by rw [hWq]; exact t5
          have q9 : Wq.cell? ⟨B1, 0, none⟩ = some (.int .i64 i) := by rw [hWq]; exact ki
          have p0 := World.block_lt_of_cell? Wq _ q0
          have p1 := World.block_lt_of_cell? Wq _ q1
          have p2 := World.block_lt_of_cell? Wq _ q2
          have p3 := World.block_lt_of_cell? Wq _ q3
          have p4 := World.block_lt_of_cell? Wq _ q9
          dsimp only at p0 p1 p2 p3 p4
          have HF := Lib.hid hf
          have HL4 := Lib.hid hL4
          have HCC := HC
          clear hres hs1 hs3 hi0 hi1 hi0' hi1' hm hmn hWq kl ki kh k1 k4 c4 hg4 hl2 hl3 t0 t1 t2 t3 t4 t5 hf hL4 hcp
          go_region
          have F6 : Fr [] W4 (Wq.alloc (.cells #[.int .i64 (tr c m).src, .slice A1 (tr c m).events.length d1, .string (tr c m).cond, .slice A3 (tr c m).targets.length d3, .bool (tr c m).internal, .int .i64 (tr c m).block] 45)).drew := fq.trans' (((Fr.refl _ _).alloc _).drew)
          by_cases hs : (tr c m).src = (i : Int)
          · have hse : ((tr c m).src != (i : Int)) = false := by simp [hs]
            by_cases hn : (tr c m).targets.length = 0
            · have hne : (((tr c m).targets.length : Int) == 0) = true := by simpa using hn
              have hz : initT c i = false := by rw [HR2.out, if_pos (.inr hn)]
              have HZ := Lib.hid hz
              clear hs hn hz
              go_wp2
              go_ret
              exact ⟨by rw [HR.out, HZ.out]; rfl, HF.out.trans' F6⟩
            · have hne : (((tr c m).targets.length : Int) == 0) = false := by
                have : ((tr c m).targets.length : Int) ≠ 0 := by omega
                simpa using this
              have hz : initT c i = !(tr c m).targets.any fun a => badInit c i a.toNat := by rw [HR2.out, if_neg (by rintro (h | h); exact h hs; exact hn h)]
              have HZ := Lib.hid hz
              have hcf := containsFunc 120 _ _ (tr c m).targets (fun _ => True) A3 d3 _ (HS3.out.fr (fun k _ hk => ⟨trivial, F6.block k hk (by simp)⟩))
                (init_closure _ g c HT.out i hi _ _ _ _ _ _ _ _ y0 y3 y5 y6 y7 y8 y9 y10 y11 y12 (m : Int) (HL4.out.on F6) (HHH.out ▸ (HBH.out.fr F6 (by simp))) (HBL.out.fr F6 (by simp)) (HBI.out.fr F6 (by simp)) (HMM.out ▸ (HBS.out.fr F6 (by simp))) (tr c m).targets HTG.out)
              clear hs hn hz
              go_wp2_with fail
              refine hcf.mono ?_
              rintro e w' ⟨rfl, f7⟩
              go_wp2
              go_ret
              exact ⟨by rw [HR.out, HZ.out]; rfl, (HF.out.trans' F6).trans' f7⟩
          · have hse : ((tr c m).src != (i : Int)) = true := by simpa using hs
            have hz : initT c i = false := by rw [HR2.out, if_pos (.inl hs)]
            have HZ := Lib.hid hz
            clear hs hz
            go_wp2
            go_ret
            exact ⟨by rw [HR.out, HZ.out]; rfl, HF.out.trans' F6⟩
  · have hd : hb = true := by rw [← hH]; simp; omega
    subst hd
    have hres : initB c i = initT c i := by simp [initB, initT, hk]
    have HR := Lib.hid hres
    have HT := Lib.hid T
    have HBL := Lib.hid bl
    have HBI := Lib.hid bi
    have HBS := Lib.hid bs
    have HBH := Lib.hid bh
    have HHT := Lib.hid ht
    have HHH := Lib.hid hH
    clear hres hk hcp bl bi bs bh hL T ht tail
    go_enter Try.func97, Try.ntmps97
    go_wp2
    rw [← HW.out]
    generalize W.heap.size + 1 + 1 + 1 = B3 at *
    generalize W.heap.size + 1 + 1 = B2 at *
    generalize W.heap.size + 1 = B1 at *
    generalize W.heap.size = B at *
    by_cases hi0 : (st c i).init < 0
    · have hres : initT c i = false := by simp [initT, hi0]
      have HR2 := Lib.hid hres
      clear hres
      go_quiet (fail)
      go_wp2
      go_ret
      exact ⟨by rw [HR.out, HR2.out]; rfl, hf.drewN _⟩
    · by_cases hi1 : (c.trans.length : Int) ≤ (st c i).init
      · have hres : initT c i = false := by simp [initT, hi1]
        have HR2 := Lib.hid hres
        have hi0' : decide ((st c i).init < 0) = false := by simpa using hi0
        clear hres
        go_quiet (fail)
        go_wp2
        go_ret
        exact ⟨by rw [HR.out, HR2.out]; rfl, hf.drewN _⟩
      · have hi0' : decide ((st c i).init < 0) = false := by simpa using hi0
        have hi1' : decide ((c.trans.length : Int) ≤ (st c i).init) = false := by simpa using hi1
        obtain ⟨m, hm⟩ : ∃ m : Nat, (st c i).init = (m : Int) := ⟨(st c i).init.toNat, by omega⟩
        have hml : m < c.trans.length := by omega
        have hm0 : (0 : Int) ≤ (m : Int) := by omega
        have hmz : (m : Int) < (c.trans.length : Int) := by omega
        have hmn : (st c i).init.toNat = m := by omega
        obtain ⟨gt, ot, A1, d1, A3, d3, rfl, _, _, t0, t1, t2, t3, t4, t5, hs1, hs3⟩ := HC.out.T.trans_at m hml
        rw [tr_at hml] at t0 t1 t2 t3 t4 t5 hs1 hs3
        have HTG := Lib.hid (HHT.out (tr c m) (by rw [← tr_at hml]; exact List.getElem_mem hml))
        have HS3 := Lib.hid hs3
        have hres : initT c i = (if (tr c m).src ≠ i ∨ (tr c m).targets.length = 0 then false else !(tr c m).targets.any fun a => badInit c i a.toNat) := by
          unfold initT
          rw [if_neg (by omega), hmn]
        have HR2 := Lib.hid hres
        have HMM := Lib.hid hm
        rw [hm] at k4
        rw [hm] at hi0' hi1'
        go_quiet (fail)
        go_wp2
        obtain ⟨Wq, hWq⟩ : ∃ Wq, Wq = W4.drewN nq := ⟨_, rfl⟩
        rw [← hWq]
        have fq : Fr [] W4 Wq := by rw [hWq]; exact (Fr.refl _ _).drewN _
        have q0 : Wq.cell? ⟨B, 0, none⟩ = some (.pointer (some ⟨g, 0, none⟩)) := by rw [hWq]; exact kl
        have q1 : Wq.cell? ⟨g, 4, none⟩ = some (.slice (some ⟨gt, ot, none⟩) c.trans.length ct) := by rw [hWq]; exact c4
        have q2 : Wq.cell? ⟨B2, 4, none⟩ = some (.int .i64 m) := by rw [hWq]; exact k4
        have q3 : Wq.cell? ⟨gt, ot + m * 6, none⟩ = some (.int .i64 (tr c m).src) := by rw [hWq]; exact t0
        have q4 : Wq.cell? ⟨gt, ot + m * 6 + 1, none⟩ = some (.slice A1 (tr c m).events.length d1) := by rw [hWq]; exact t1
        have q5 : Wq.cell? ⟨gt, ot + m * 6 + 2, none⟩ = some (.string (tr c m).cond) := by rw [hWq]; exact t2
        have q6 : Wq.cell? ⟨gt, ot + m * 6 + 3, none⟩ = some (.slice A3 (tr c m).targets.length d3) := by rw [hWq]; exact t3
        have q7 : Wq.cell? ⟨gt, ot + m * 6 + 4, none⟩ = some (.bool (tr c m).internal) := by rw [hWq]; exact t4
        have q8 : Wq.cell? ⟨gt, ot + m * 6 + 5, none⟩ = some (.int .i64 (tr c m).block) := by rw [hWq]; exact t5
        have q9 : Wq.cell? ⟨B1, 0, none⟩ = some (.int .i64 i) := by rw [hWq]; exact ki
        have p0 := World.block_lt_of_cell? Wq _ q0
        have p1 := World.block_lt_of_cell? Wq _ q1
        have p2 := World.block_lt_of_cell? Wq _ q2
        have p3 := World.block_lt_of_cell? Wq _ q3
        have p4 := World.block_lt_of_cell? Wq _ q9
        dsimp only at p0 p1 p2 p3 p4
        have HF := Lib.hid hf
        have HL4 := Lib.hid hL4
        have HCC := HC
        clear hres hs1 hs3 hi0 hi1 hi0' hi1' hm hmn hWq kl ki kh k1 k4 c4 hg4 hl2 hl3 t0 t1 t2 t3 t4 t5 hf hL4
        go_region
        have F6 : Fr [] W4 (Wq.alloc (.cells #[.int .i64 (tr c m).src, .slice A1 (tr c m).events.length d1, .string (tr c m).cond, .slice A3 (tr c m).targets.length d3, .bool (tr c m).internal, .int .i64 (tr c m).block] 45)).drew := fq.trans' (((Fr.refl _ _).alloc _).drew)
        by_cases hs : (tr c m).src = (i : Int)
        · have hse : ((tr c m).src != (i : Int)) = false := by simp [hs]
          by_cases hn : (tr c m).targets.length = 0
          · have hne : (((tr c m).targets.length : Int) == 0) = true := by simpa using hn
            have hz : initT c i = false := by rw [HR2.out, if_pos (.inr hn)]
            have HZ := Lib.hid hz
            clear hs hn hz
            go_wp2
            go_ret
            exact ⟨by rw [HR.out, HZ.out]; rfl, HF.out.trans' F6⟩
          · have hne : (((tr c m).targets.length : Int) == 0) = false := by
              have : ((tr c m).targets.length : Int) ≠ 0 := by omega
              simpa using this
            have hz : initT c i = !(tr c m).targets.any fun a => badInit c i a.toNat := by rw [HR2.out, if_neg (by rintro (h | h); exact h hs; exact hn h)]
            have HZ := Lib.hid hz
            have hcf := containsFunc 120 _ _ (tr c m).targets (fun _ => True) A3 d3 _ (HS3.out.fr (fun k _ hk => ⟨trivial, F6.block k hk (by simp)⟩))
              (init_closure _ g c HT.out i hi _ _ _ _ _ _ _ _ y0 y3 y5 y6 y7 y8 y9 y10 y11 y12 (m : Int) (HL4.out.on F6) (HHH.out ▸ (HBH.out.fr F6 (by simp))) (HBL.out.fr F6 (by simp)) (HBI.out.fr F6 (by simp)) (HMM.out ▸ (HBS.out.fr F6 (by simp))) (tr c m).targets HTG.out)
            clear hs hn hz
            go_wp2_with fail
            refine hcf.mono ?_
            rintro e w' ⟨rfl, f7⟩
            go_wp2
            go_ret
            exact ⟨by rw [HR.out, HZ.out]; rfl, (HF.out.trans' F6).trans' f7⟩
        · have hse : ((tr c m).src != (i : Int)) = true := by simpa using hs
          have hz : initT c i = false := by rw [HR2.out, if_pos (.inl hs)]
          have HZ := Lib.hid hz
          clear hs hz
          go_wp2
          go_ret
          exact ⟨by rw [HR.out, HZ.out]; rfl, HF.out.trans' F6⟩
end Go.Proofs.Ytekfbafljilchaa

/- (*Lattice).transitions. -/
set_option linter.unusedVariables false
set_option linter.unusedSimpArgs false
namespace Go.Proofs.Ytekfbafljilchaa
open Go.RowKit Go.Lib

theorem Sl.cap {α : Type} {K : Rk α} {p : Nat → Prop} {w : World} {A : Option Addr} {n c : Nat} {l : List α} (h : Sl K p w (.slice A n c) l) : l.length ≤ c := by
  obtain ⟨A', c', e, hc, _⟩ := h
  injection e with e1 e2 e3
  omega
/-- Is target j right, and right beside those ahead of it? -/
def goal1 (c : DChart) (ts : List Int) (j : Nat) : Bool :=
  isSt c (ts[j]?.getD 0) && decide (ts[j]?.getD 0 ≠ 0) && (ts.take j).all fun b => togB c (ts[j]?.getD 0).toNat b.toNat
def trOk (c : DChart) (t : DTrans) : Bool := isSt c t.src && (List.range t.targets.length).all (goal1 c t.targets)
def tOk (c : DChart) (i : Nat) (t : Int) : Bool :=
  (knd c i == 1 || knd c i == 2) && decide (0 ≤ t) && decide (t < (c.trans.length : Int)) && decide (t ≠ (st c i).init) && decide ((tr c t.toNat).src = (i : Int))
def stOk (c : DChart) (i : Nat) : Bool := initB c i && (st c i).trans.all (tOk c i)
def transB (c : DChart) : Bool := c.trans.all (trOk c) && (List.range c.states.length).all (stOk c)

theorem trans_no1 {c : DChart} {k : Nat} (hk : k < c.trans.length) (h : trOk c c.trans[k] = false) : transB c = false := by
  have : c.trans.all (trOk c) = false := List.all_eq_false.2 ⟨_, List.getElem_mem hk, by simp [h]⟩
  simp [transB, this]
theorem trans_no2 {c : DChart} {i : Nat} (hi : i < c.states.length) (h : stOk c i = false) : transB c = false := by
  have : (List.range c.states.length).all (stOk c) = false := List.all_eq_false.2 ⟨i, List.mem_range.2 hi, by simp [h]⟩
  simp [transB, this]
theorem trOk_no {c : DChart} {t : DTrans} {j : Nat} (hj : j < t.targets.length) (h : goal1 c t.targets j = false) : trOk c t = false := by
  have : (List.range t.targets.length).all (goal1 c t.targets) = false := List.all_eq_false.2 ⟨j, List.mem_range.2 hj, by simp [h]⟩
  simp [trOk, this]
theorem trOk_yes {c : DChart} {t : DTrans} (h0 : isSt c t.src = true) (h : ∀ j, j < t.targets.length → goal1 c t.targets j = true) : trOk c t = true := by
  simp only [trOk, h0, Bool.true_and]
  exact List.all_eq_true.2 fun j hj => h j (List.mem_range.1 hj)
theorem goal_at {c : DChart} {ts : List Int} {j : Nat} (hj : j < ts.length) : goal1 c ts j = (isSt c ts[j] && decide (ts[j] ≠ 0) && (ts.take j).all fun b => togB c ts[j].toNat b.toNat) := by
  simp [goal1, List.getElem?_eq_getElem hj]
theorem goal_st {c : DChart} {ts : List Int} {j : Nat} (hj : j < ts.length) (h : goal1 c ts j = true) : isSt c ts[j] = true := by
  rw [goal_at hj] at h
  simp only [Bool.and_eq_true] at h
  exact h.1.1

set_option maxRecDepth 100000 in
set_option maxHeartbeats 16000000 in
theorem transitions_any (W : World) (g : Nat) (c : DChart) (T : Tree c) (hL : Lat (fun _ => True) W g c) :
    Calls Try.prog 52 #[.pointer (some ⟨g, 0, none⟩)] W fun e w' => e = .returned (.bool (transB c)) ∧ Fr [] W w' := by
  have hL0 := hL
  obtain ⟨vs, vt, vb, vd, vi, va, vk, hblk, hS, hT, hB, hD, hI, hA, hK⟩ := hL0
  obtain ⟨As, cs, rfl, _⟩ := hS.form
  obtain ⟨At, ct, rfl, _⟩ := hT.form
  obtain ⟨Ab, cb, rfl, _⟩ := hB.form
  obtain ⟨Ad, cd, rfl, _⟩ := hD.form
  obtain ⟨Ai, ci, rfl, _⟩ := hI.form
  have c0 := hblk.cell 0
  have c1 := hblk.cell 1
  have c2 := hblk.cell 2
  have c3 := hblk.cell 3
  have c4 := hblk.cell 4
  have c5 := hblk.cell 5
  have c6 := hblk.cell 6
  have c7 := hblk.cell 7
  simp at c0 c1 c2 c3 c4 c5 c6 c7
  have hg := hblk.lt
  have lS := hS.len
  have lT := hT.len
  have HL := Lib.hid hL
  have HT := Lib.hid T
  have HSS := Lib.hid hS
  have HTT := Lib.hid hT
  have hbx := Lib.hid (Blk.new W #[.string c.name, .bool c.late, .int .i64 c.script, .slice As c.states.length cs, .slice At c.trans.length ct, .slice Ab c.blocks.length cb, .slice Ad c.data.length cd, .slice Ai c.invokes.length ci] 28)
  have hf0 := Lib.hid ((Fr.refl [] W).alloc (.cells #[.string c.name, .bool c.late, .int .i64 c.script, .slice As c.states.length cs, .slice At c.trans.length ct, .slice Ab c.blocks.length cb, .slice Ad c.data.length cd, .slice Ai c.invokes.length ci] 28))
  clear hL T hS hT hB hD hI hA hK hblk
  go_enter Try.func52, Try.ntmps52
  go_wp2
  go_loopg [21] c.trans.length (fun gg s21 wr => ∃ k : Nat, k ≤ c.trans.length ∧ c.trans.length - k ≤ gg ∧ s21 = .int .i64 k ∧ Aside (Fr [] W wr) ∧ Aside (Blk wr W.heap.size #[.string c.name, .bool c.late, .int .i64 c.script, .slice As c.states.length cs, .slice At c.trans.length ct, .slice Ab c.blocks.length cb, .slice Ad c.data.length cd, .slice Ai c.invokes.length ci] 28) ∧ Aside (∀ j (h : j < c.trans.length), j < k → trOk c c.trans[j] = true))
  case atStart => exact ⟨0, Nat.zero_le _, by omega, rfl, hf0.out, hbx.out, fun j _ h => absurd h (Nat.not_lt_zero _)⟩
  case round =>
    obtain ⟨k, hk, hgk, rfl, hfr, hbk, hok⟩ := hrel
    by_cases hlt : k < c.trans.length
    · have hltz : (k : Int) < (c.trans.length : Int) := by omega
      obtain ⟨gt, ot, A1, d1, A3, d3, rfl, _, hgt, t0, t1, t2, t3, t4, t5, hs1, hs3⟩ := HTT.out.trans_at k hlt
      have mv : ∀ o, wr.cell? ⟨gt, o, none⟩ = W.cell? ⟨gt, o, none⟩ := fun o => World.cell?_of_block (hfr.out.block gt hgt (by simp))
      rw [← mv] at t0 t1 t2 t3 t4 t5
      have b4 := hbk.out.cell 4
      simp at b4
      have hbl := hbk.out.lt
      have hgtl : gt < wr.heap.size := Nat.lt_of_lt_of_le hgt hfr.out.size
      have HS3 := Lib.hid hs3
      have l3 := hs3.len
      have hd3 := hs3.cap
      have hno := Lib.hid (trans_no1 (c := c) hlt)
      have HNO : Hid (∀ j (hj : j < c.trans[k].targets.length), goal1 c c.trans[k].targets j = false → transB c = false) := Lib.hid (fun j hj h => trans_no1 hlt (trOk_no hj h))
      have HYES : Hid (isSt c c.trans[k].src = true → (∀ j, j < c.trans[k].targets.length → goal1 c c.trans[k].targets j = true) → trOk c c.trans[k] = true) := Lib.hid (fun h0 h => trOk_yes h0 h)
      have HSRC : Hid (isSt c c.trans[k].src = false → transB c = false) := Lib.hid (fun h => trans_no1 hlt (by simp [trOk, h]))
      clear mv hs1 hs3
      have sc := fun w (f : Fr [] W w) => state_any w g c c.trans[k].src (HL.out.on f)
      obtain ⟨wo, rfl⟩ : ∃ wo : World, wo = wr := ⟨_, rfl⟩
      cases hs : isSt c c.trans[k].src with
      | false =>
        simp only [hs] at sc
        have HZ := Lib.hid (HSRC.out hs)
        clear hs
        go_wp2_with fail
        refine (sc _ (hfr.out.alloc _)).mono ?_
        rintro e w' ⟨rfl, rfl⟩
        go_wp2
        go_ret
        exact ⟨by rw [HZ.out]; rfl, hfr.out.alloc _⟩
      | true =>
        simp only [hs] at sc
        have HZ := Lib.hid (HYES.out hs)
        clear hs HYES HSRC
        go_wp2_with fail
        refine (sc _ (hfr.out.alloc _)).mono ?_
        rintro e w' ⟨rfl, rfl⟩
        have fo1 := Lib.hid ((Fr.refl [] wo).alloc (.cells #[.int .i64 c.trans[k].src, .slice A1 c.trans[k].events.length d1, .string c.trans[k].cond, .slice A3 c.trans[k].targets.length d3, .bool c.trans[k].internal, .int .i64 c.trans[k].block] 45))
        have bt1 := Lib.hid (Blk.new wo #[.int .i64 c.trans[k].src, .slice A1 c.trans[k].events.length d1, .string c.trans[k].cond, .slice A3 c.trans[k].targets.length d3, .bool c.trans[k].internal, .int .i64 c.trans[k].block] 45)
        go_wp2
        go_loopg [33] c.trans[k].targets.length (fun gg s33 wr => ∃ j : Nat, j ≤ c.trans[k].targets.length ∧ c.trans[k].targets.length - j ≤ gg ∧ s33 = .int .i64 j ∧ wr = (wo.alloc (.cells #[.int .i64 c.trans[k].src, .slice A1 c.trans[k].events.length d1, .string c.trans[k].cond, .slice A3 c.trans[k].targets.length d3, .bool c.trans[k].internal, .int .i64 c.trans[k].block] 45)) ∧ Aside (∀ q, q < j → goal1 c c.trans[k].targets q = true))
        case atStart => exact ⟨0, Nat.zero_le _, by omega, rfl, rfl, fun q h => absurd h (Nat.not_lt_zero _)⟩
        case round =>
          obtain ⟨j, hj, hgj, rfl, rfl, hgo⟩ := hrel
          by_cases hjt : j < c.trans[k].targets.length
          · have hjz : (j : Int) < (c.trans[k].targets.length : Int) := by omega
            obtain ⟨gx, ox, rfl, _, hgx, hx⟩ := HS3.out.int_at j hjt
            have hxw : wo.cell? ⟨gx, ox + j, none⟩ = some (.int .i64 c.trans[k].targets[j]) := (World.cell?_of_block (hfr.out.block gx hgx (by simp))).trans hx
            have hgxl : gx < wo.heap.size := Nat.lt_of_lt_of_le hgx hfr.out.size
            have HGA := Lib.hid (goal_at (c := c) hjt)
            have HN := Lib.hid (HNO.out j hjt)
            have sa := fun w (f : Fr [] W w) => state_any w g c c.trans[k].targets[j] (HL.out.on f)
            clear hx
            cases hsa : isSt c c.trans[k].targets[j] with
            | false =>
              simp only [hsa] at sa
              have HZ2 := Lib.hid (HN.out (by rw [HGA.out, hsa]; rfl))
              clear hsa
              go_wp2_with fail
              refine (sa _ (hfr.out.trans' fo1.out)).mono ?_
              rintro e w' ⟨rfl, rfl⟩
              go_wp2
              go_ret
              exact ⟨by rw [HZ2.out]; rfl, hfr.out.trans' fo1.out⟩
            | true =>
              simp only [hsa] at sa
              by_cases hx0 : c.trans[k].targets[j] = 0
              · have hz0 : (c.trans[k].targets[j] == 0) = true := by simp [hx0]
                have HZ2 := Lib.hid (HN.out (by rw [HGA.out, hx0]; simp))
                clear hsa hx0
                go_wp2_with fail
                refine (sa _ (hfr.out.trans' fo1.out)).mono ?_
                rintro e w' ⟨rfl, rfl⟩
                go_wp2
                go_ret
                exact ⟨by rw [HZ2.out]; rfl, hfr.out.trans' fo1.out⟩
              · have hz0 : (c.trans[k].targets[j] == 0) = false := by simpa using hx0
                have HG2 : Hid (goal1 c c.trans[k].targets j = (c.trans[k].targets.take j).all fun b => togB c c.trans[k].targets[j].toNat b.toNat) := Lib.hid (by rw [HGA.out, hsa]; simp [hx0])
                obtain ⟨a, ha, hal⟩ := isSt_true hsa
                have hlen3 : j ≤ d3 := by omega
                have hlen3z : (j : Int) ≤ (d3 : Int) := by omega
                have hj0 : (0 : Int) ≤ (j : Int) := by omega
                clear hsa hx0
                rw [ha] at hxw sa hz0
                have HA := Lib.hid ha
                clear ha
                go_wp2_with fail
                refine (sa _ (hfr.out.trans' fo1.out)).mono ?_
                rintro e w' ⟨rfl, rfl⟩
                go_wp2
                go_loopg [51] j (fun gg s51 wr => ∃ m : Nat, m ≤ j ∧ j - m ≤ gg ∧ s51 = .int .i64 m ∧ wr = (wo.alloc (.cells #[.int .i64 c.trans[k].src, .slice A1 c.trans[k].events.length d1, .string c.trans[k].cond, .slice (some ⟨gx, ox, none⟩) c.trans[k].targets.length d3, .bool c.trans[k].internal, .int .i64 c.trans[k].block] 45)) ∧ Aside (∀ q (h : q < c.trans[k].targets.length), q < m → togB c a c.trans[k].targets[q].toNat = true))
                case atStart => exact ⟨0, Nat.zero_le _, by omega, rfl, rfl, fun q _ h => absurd h (Nat.not_lt_zero _)⟩
                case round =>
                  obtain ⟨m, hm, hgm, rfl, rfl, hto⟩ := hrel
                  by_cases hmt : m < j
                  · have hmz : (m : Int) < (j : Int) := by omega
                    have hmt2 : m < c.trans[k].targets.length := by omega
                    obtain ⟨gy, oy, e9, _, hgy, hy⟩ := HS3.out.int_at m hmt2
                    injection e9 with e9
                    injection e9 with e9 e10
                    subst e9 e10
                    have hyw : wo.cell? ⟨gx, ox + m, none⟩ = some (.int .i64 c.trans[k].targets[m]) := (World.cell?_of_block (hfr.out.block gx hgy (by simp))).trans hy
                    obtain ⟨b, hb, hbl⟩ := isSt_true (goal_st hmt2 (hgo.out m hmt))
                    have HNT : Hid (togB c a b = false → transB c = false) := Lib.hid (fun h => HN.out (by
                      rw [HG2.out]
                      exact List.all_eq_false.2 ⟨c.trans[k].targets[m], by rw [List.mem_take_iff_getElem]; exact ⟨m, by omega, rfl⟩, by rw [HA.out, hb]; simpa using h⟩))
                    have HB := Lib.hid hb
                    rw [hb] at hyw
                    have st := fun w (f : Fr [] W w) => together_any w g c a b hal hbl HT.out (HL.out.on f)
                    clear hy hb
                    cases htg : togB c a b with
                    | false =>
                      simp only [htg] at st
                      have HZ2 := Lib.hid (HNT.out htg)
                      clear htg
                      go_wp2_with fail
                      refine (st _ (hfr.out.trans' fo1.out)).mono ?_
                      rintro e w' ⟨rfl, rfl⟩
                      go_wp2
                      go_ret
                      exact ⟨by rw [HZ2.out]; rfl, hfr.out.trans' fo1.out⟩
                    | true =>
                      simp only [htg] at st
                      have HTG := Lib.hid htg
                      clear htg
                      go_wp2_with fail
                      refine (st _ (hfr.out.trans' fo1.out)).mono ?_
                      rintro e w' ⟨rfl, rfl⟩
                      go_wp2
                      go_roundg (j - (m + 1))
                      case measure => omega
                      case rel =>
                        refine ⟨m + 1, by omega, by omega, by go_num, rfl, (show Aside _ from fun q h hq => ?_)⟩
                        rcases Nat.lt_succ_iff_lt_or_eq.1 hq with hq | rfl
                        · exact hto.out q h hq
                        · rw [HB.out]; exact HTG.out
                  · obtain rfl : m = j := by omega
                    have hmz : ¬ (m : Int) < (m : Int) := by omega
                    have hgood : goal1 c c.trans[k].targets m = true := by
                      rw [HG2.out]
                      refine List.all_eq_true.2 fun b hb => ?_
                      obtain ⟨q, hq, rfl⟩ := List.getElem_of_mem hb
                      rw [List.length_take] at hq
                      rw [List.getElem_take, HA.out]
                      exact hto.out q (by omega) (by omega)
                    have HGD := Lib.hid hgood
                    clear hgood
                    go_wp2
                    go_roundg (c.trans[k].targets.length - (m + 1))
                    case measure => omega
                    case rel =>
                      refine ⟨m + 1, by omega, by omega, by go_num, rfl, (show Aside _ from fun q hq => ?_)⟩
                      rcases Nat.lt_succ_iff_lt_or_eq.1 hq with hq | rfl
                      · exact hgo.out q hq
                      · exact HGD.out
          · obtain rfl : j = c.trans[k].targets.length := by omega
            have hjz : ¬ (c.trans[k].targets.length : Int) < (c.trans[k].targets.length : Int) := by omega
            have HD := Lib.hid (HZ.out hgo.out)
            go_wp2
            go_roundg (c.trans.length - (k + 1))
            case measure => omega
            case rel =>
              refine ⟨k + 1, by omega, by omega, by go_num, hfr.out.trans' fo1.out, hbk.out.fr fo1.out (by simp), (show Aside _ from fun q h hq => ?_)⟩
              rcases Nat.lt_succ_iff_lt_or_eq.1 hq with hq | rfl
              · exact hok.out q h hq
              · exact HD.out
    · obtain rfl : k = c.trans.length := by omega
      have hltz : ¬ (c.trans.length : Int) < (c.trans.length : Int) := by omega
      have b3 := hbk.out.cell 3
      simp at b3
      have hbl := hbk.out.lt
      have HV : Hid (∀ t, t ∈ c.trans → ∀ x, x ∈ t.targets → isSt c x = true) := Lib.hid (fun t ht x hx => by
        obtain ⟨j, hj, rfl⟩ := List.getElem_of_mem ht
        obtain ⟨q, hq, rfl⟩ := List.getElem_of_mem hx
        have h1 := hok.out j hj hj
        simp only [trOk, Bool.and_eq_true] at h1
        exact goal_st hq (List.all_eq_true.1 h1.2 q (List.mem_range.2 hq)))
      have HALL1 : Hid (c.trans.all (trOk c) = true) := Lib.hid (List.all_eq_true.2 fun t ht => by
        obtain ⟨j, hj, rfl⟩ := List.getElem_of_mem ht
        exact hok.out j hj hj)
      have hfrA := Lib.hid hfr.out
      have hbkA := Lib.hid hbk.out
      clear hfr hbk hok hgk hk hlt
      go_wp2
      go_loopg [66] c.states.length (fun gg s66 wr => ∃ i : Nat, i ≤ c.states.length ∧ c.states.length - i ≤ gg ∧ s66 = .int .i64 i ∧ Aside (Fr [] W wr) ∧ Aside (Blk wr W.heap.size #[.string c.name, .bool c.late, .int .i64 c.script, .slice As c.states.length cs, .slice At c.trans.length ct, .slice Ab c.blocks.length cb, .slice Ad c.data.length cd, .slice Ai c.invokes.length ci] 28) ∧ Aside (∀ j, j < i → stOk c j = true))
      case atStart => exact ⟨0, Nat.zero_le _, by omega, rfl, hfrA.out, hbkA.out, fun j h => absurd h (Nat.not_lt_zero _)⟩
      case round =>
        obtain ⟨i, hi, hgi, rfl, hfr, hbk, hok⟩ := hrel
        by_cases hit : i < c.states.length
        · have hiz : (i : Int) < (c.states.length : Int) := by omega
          obtain ⟨gs, os, A3, d3, A5, d5, A6, d6, A7, d7, A8, d8, A9, d9, A11, d11, rfl, _, hgs, s0, s1, s2, s3, s4, s5, s6, s7, s8, s9, s10, s11, s12, _, _, _, hs7, _⟩ := HSS.out.state_at i hit
          rw [st_at hit] at s0 s1 s2 s3 s4 s5 s6 s7 s8 s9 s10 s11 s12 hs7
          have mv : ∀ o, wr.cell? ⟨gs, o, none⟩ = W.cell? ⟨gs, o, none⟩ := fun o => World.cell?_of_block (hfr.out.block gs hgs (by simp))
          rw [← mv] at s0 s1 s2 s3 s4 s5 s6 s7 s8 s9 s10 s11 s12
          have hgsl : gs < wr.heap.size := Nat.lt_of_lt_of_le hgs hfr.out.size
          have s1' : wr.cell? ⟨gs, os + i * 13 + 1, none⟩ = some (.int .i64 (knd c i)) := s1
          have s2' : wr.cell? ⟨gs, os + i * 13 + 2, none⟩ = some (.int .i64 (par c i)) := s2
          have HS7 := Lib.hid hs7
          have l7 := hs7.len
          have hbl2 := hbk.out.lt
          obtain ⟨wo, rfl⟩ : ∃ wo : World, wo = wr := ⟨_, rfl⟩
          have fo1 := Lib.hid ((Fr.refl [] wo).alloc (.cells #[.string (st c i).id, .int .i64 (knd c i), .int .i64 (par c i), .slice A3 (st c i).kids.length d3, .int .i64 (st c i).init, .slice A5 (st c i).entry.length d5, .slice A6 (st c i).exit.length d6, .slice A7 (st c i).trans.length d7, .slice A8 (st c i).data.length d8, .slice A9 (st c i).invokes.length d9, .int .i64 (st c i).done.kind, .slice A11 (st c i).done.params.length d11, .string (st c i).done.body] 50))
          have bt1 := Lib.hid (Blk.new wo #[.string (st c i).id, .int .i64 (knd c i), .int .i64 (par c i), .slice A3 (st c i).kids.length d3, .int .i64 (st c i).init, .slice A5 (st c i).entry.length d5, .slice A6 (st c i).exit.length d6, .slice A7 (st c i).trans.length d7, .slice A8 (st c i).data.length d8, .slice A9 (st c i).invokes.length d9, .int .i64 (st c i).done.kind, .slice A11 (st c i).done.params.length d11, .string (st c i).done.body] 50)
          have ini := fun w (f : Fr [] W w) => initial_any w g c HT.out i hit (.string (st c i).id) (.slice A3 (st c i).kids.length d3) (.slice A5 (st c i).entry.length d5) (.slice A6 (st c i).exit.length d6) (.slice A7 (st c i).trans.length d7) (.slice A8 (st c i).data.length d8) (.slice A9 (st c i).invokes.length d9) (.int .i64 (st c i).done.kind) (.slice A11 (st c i).done.params.length d11) (.string (st c i).done.body) (HL.out.on f) HV.out
          have HNS := Lib.hid (trans_no2 (c := c) hit)
          clear mv s1 s2 hs7
          cases hin : initB c i with
          | false =>
            simp only [hin] at ini
            have HZ := Lib.hid (HNS.out (by simp [stOk, hin]))
            clear hin
            go_wp2_with fail
            refine (ini _ (hfr.out.trans' fo1.out)).mono ?_
            rintro e w' ⟨rfl, f2⟩
            go_wp2
            go_ret
            exact ⟨by rw [HZ.out]; rfl, (hfr.out.trans' fo1.out).trans' f2⟩
          | true =>
            simp only [hin] at ini
            have HIN := Lib.hid hin
            clear hin
            go_wp2_with fail
            refine (ini _ (hfr.out.trans' fo1.out)).mono ?_
            rintro e w5 ⟨rfl, f2⟩
            have HF5 := Lib.hid ((hfr.out.trans' fo1.out).trans' f2)
            have HB5 := Lib.hid ((hbk.out.fr fo1.out (by simp)).fr f2 (by simp))
            have bt2 := bt1.out.fr f2 (by simp)
            have k1 := bt2.cell 1
            have k4 := bt2.cell 4
            have k7 := bt2.cell 7
            have kb4 := HB5.out.cell 4
            simp at k1 k4 k7 kb4
            have q1 := bt2.lt
            have q2 := HB5.out.lt
            clear bt2
            go_wp2
            go_loopg [79] (st c i).trans.length (fun gg s79 wr => ∃ j : Nat, j ≤ (st c i).trans.length ∧ (st c i).trans.length - j ≤ gg ∧ s79 = .int .i64 j ∧ wr = w5 ∧ Aside (∀ q (h : q < (st c i).trans.length), q < j → tOk c i (st c i).trans[q] = true))
            case atStart => exact ⟨0, Nat.zero_le _, by omega, rfl, rfl, fun q _ h => absurd h (Nat.not_lt_zero _)⟩
            case round =>
              obtain ⟨j, hj, hgj, rfl, rfl, hto⟩ := hrel
              by_cases hjt : j < (st c i).trans.length
              · have hjz : (j : Int) < ((st c i).trans.length : Int) := by omega
                obtain ⟨gx, ox, rfl, _, hgx, hx⟩ := HS7.out.int_at j hjt
                have hxw : wr.cell? ⟨gx, ox + j, none⟩ = some (.int .i64 (st c i).trans[j]) := (World.cell?_of_block (HF5.out.block gx hgx (by simp))).trans hx
                have HNT : Hid (tOk c i (st c i).trans[j] = false → transB c = false) := Lib.hid (fun h => HNS.out (by
                  have : (st c i).trans.all (tOk c i) = false := List.all_eq_false.2 ⟨_, List.getElem_mem hjt, by simp [h]⟩
                  simp [stOk, this]))
                have HYT : Hid (tOk c i (st c i).trans[j] = true → ∀ q (h : q < (st c i).trans.length), q < j + 1 → tOk c i (st c i).trans[q] = true) := Lib.hid (fun ht q h hq => by
                  rcases Nat.lt_succ_iff_lt_or_eq.1 hq with hq | rfl
                  · exact hto.out q h hq
                  · exact ht)
                clear hx
                generalize (st c i).trans[j] = t at *
                have hcase : tOk c i t = true ∨ tOk c i t = false := by cases tOk c i t <;> simp
                have hk12 : (knd c i != 1) = false ∨ ((knd c i != 1) = true ∧ (knd c i != 2) = false) ∨ ((knd c i != 1) = true ∧ (knd c i != 2) = true ∧ tOk c i t = false) := by
                  by_cases e1 : knd c i = 1
                  · exact .inl (by simp [e1])
                  · by_cases e2 : knd c i = 2
                    · exact .inr (.inl ⟨by simp [e1], by simp [e2]⟩)
                    · exact .inr (.inr ⟨by simp [e1], by simp [e2], by simp [tOk, e1, e2]⟩)
                have hrest : t < 0 ∧ tOk c i t = false ∨ (∃ a : Nat, t = (a : Int) ∧ c.trans.length ≤ a ∧ tOk c i t = false) ∨ (∃ a : Nat, t = (a : Int) ∧ a < c.trans.length ∧ (((a : Int) == (st c i).init) = true ∧ tOk c i t = false ∨ ((a : Int) == (st c i).init) = false ∧ (((tr c a).src != (i : Int)) = true ∧ tOk c i t = false ∨ ((tr c a).src != (i : Int)) = false))) := by
                  by_cases e1 : t < 0
                  · exact .inl ⟨e1, by have : ¬ (0 ≤ t) := by omega
                                       simp [tOk, this]⟩
                  · obtain ⟨a, rfl⟩ : ∃ a : Nat, t = (a : Int) := ⟨t.toNat, by omega⟩
                    by_cases e2 : c.trans.length ≤ a
                    · exact .inr (.inl ⟨a, rfl, e2, by have : ¬ ((a : Int) < (c.trans.length : Int)) := by omega
                                                       simp only [tOk, this, decide_false, Bool.and_false, Bool.false_and]⟩)
                    · refine .inr (.inr ⟨a, rfl, by omega, ?_⟩)
                      by_cases e3 : (a : Int) = (st c i).init
                      · exact .inl ⟨by simp [e3], by simp [tOk, e3]⟩
                      · refine .inr ⟨by simp [e3], ?_⟩
                        by_cases e4 : (tr c a).src = (i : Int)
                        · exact .inr (by simp [e4])
                        · exact .inl ⟨by simp [e4], by simp [tOk, e4]⟩
                have htok : ∀ a : Nat, t = (a : Int) → a < c.trans.length → ((a : Int) == (st c i).init) = false → ((tr c a).src != (i : Int)) = false → ((knd c i != 1) = false ∨ ((knd c i != 1) = true ∧ (knd c i != 2) = false)) → tOk c i t = true := by
                  rintro a rfl h1 h2 h3 h4
                  have e1 : (0 : Int) ≤ (a : Int) := by omega
                  have e2 : (a : Int) < (c.trans.length : Int) := by omega
                  have e3 : ¬ (a : Int) = (st c i).init := by simpa using h2
                  have e4 : (tr c a).src = (i : Int) := by simpa using h3
                  have e5 : (knd c i == 1 || knd c i == 2) = true := by
                    rcases h4 with h | ⟨_, h⟩
                    · simp at h; simp [h]
                    · simp at h; simp [h]
                  simp [tOk, e5, e1, h1, e3, e4]
                have HTOK := Lib.hid htok
                clear htok hcase
                rcases hk12 with hk1 | ⟨hk1, hk2⟩ | ⟨hk1, hk2, hbad⟩
                case inr.inr =>
                  clear hrest
                  have HZ := Lib.hid (HNT.out hbad)
                  clear hbad
                  go_wp2
                  go_ret
                  exact ⟨by rw [HZ.out]; rfl, HF5.out⟩
                all_goals (rcases hrest with ⟨ht, hbad⟩ | ⟨a, rfl, ha, hbad⟩ | ⟨a, rfl, ha, ⟨hin4, hbad⟩ | ⟨hin4, hh⟩⟩)
                all_goals first
                  | (have HZ := Lib.hid (HNT.out hbad)
                     clear hbad
                     have hz1 : ¬ (t < 0) → False := fun h => h ht
                     clear hz1
                     go_wp2
                     go_ret
                     exact ⟨by rw [HZ.out]; rfl, HF5.out⟩)
                  | (have HZ := Lib.hid (HNT.out hbad)
                     clear hbad
                     have hz0 : ¬ (a : Int) < 0 := by omega
                     have hz1 : (c.trans.length : Int) ≤ (a : Int) := by omega
                     go_wp2
                     go_ret
                     exact ⟨by rw [HZ.out]; rfl, HF5.out⟩)
                  | (have HZ := Lib.hid (HNT.out hbad)
                     clear hbad
                     have hz0 : ¬ (a : Int) < 0 := by omega
                     have hz1 : ¬ (c.trans.length : Int) ≤ (a : Int) := by omega
                     go_wp2
                     go_ret
                     exact ⟨by rw [HZ.out]; rfl, HF5.out⟩)
                  | (have hz0 : ¬ (a : Int) < 0 := by omega
                     have hz1 : ¬ (c.trans.length : Int) ≤ (a : Int) := by omega
                     have hz2 : (a : Int) < (c.trans.length : Int) := by omega
                     obtain ⟨gt, ot, E1, f1, E3, f3, rfl, _, hgt, t0, t1, t2, t3, t4, t5, _, _⟩ := HTT.out.trans_at a ha
                     rw [tr_at ha] at t0
                     have u0 : wr.cell? ⟨gt, ot + a * 6, none⟩ = some (.int .i64 (tr c a).src) := (World.cell?_of_block (HF5.out.block gt hgt (by simp))).trans t0
                     have hgtl : gt < wr.heap.size := Nat.lt_of_lt_of_le hgt HF5.out.size
                     clear t0 t1 t2 t3 t4 t5
                     rcases hh with ⟨hsrc, hbad⟩ | hsrc
                     · have HZ := Lib.hid (HNT.out hbad)
                       clear hbad
                       go_wp2
                       go_ret
                       exact ⟨by rw [HZ.out]; rfl, HF5.out⟩
                     · have HD := Lib.hid (HYT.out (HTOK.out a rfl ha hin4 hsrc (by first | exact .inl hk1 | exact .inr ⟨hk1, hk2⟩)))
                       go_wp2
                       go_roundg ((st c i).trans.length - (j + 1))
                       case measure => omega
                       case rel => exact ⟨j + 1, by omega, by omega, by go_num, rfl, HD.out⟩)
              · obtain rfl : j = (st c i).trans.length := by omega
                have hjz : ¬ ((st c i).trans.length : Int) < ((st c i).trans.length : Int) := by omega
                have HD : Hid (stOk c i = true) := Lib.hid (by
                  simp only [stOk, HIN.out, Bool.true_and]
                  refine List.all_eq_true.2 fun t ht => ?_
                  obtain ⟨q, hq, rfl⟩ := List.getElem_of_mem ht
                  exact hto.out q hq hq)
                go_wp2
                go_roundg (c.states.length - (i + 1))
                case measure => omega
                case rel =>
                  refine ⟨i + 1, by omega, by omega, by go_num, HF5.out, HB5.out, (show Aside _ from fun q hq => ?_)⟩
                  rcases Nat.lt_succ_iff_lt_or_eq.1 hq with hq | rfl
                  · exact hok.out q hq
                  · exact HD.out
        · obtain rfl : i = c.states.length := by omega
          have hiz : ¬ (c.states.length : Int) < (c.states.length : Int) := by omega
          have HZ : Hid (transB c = true) := Lib.hid (by
            simp only [transB, HALL1.out, Bool.true_and]
            exact List.all_eq_true.2 fun q hq => hok.out q (List.mem_range.1 hq))
          go_wp2
          go_ret
          exact ⟨by rw [HZ.out]; rfl, hfr.out⟩
end Go.Proofs.Ytekfbafljilchaa
