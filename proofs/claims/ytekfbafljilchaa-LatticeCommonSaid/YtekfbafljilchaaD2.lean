/- (*Lattice).initial. -/
import Derived.Test.YtekfbafljilchaaD1
import Derived.Deep.RegionHeld3
set_option linter.unusedVariables false
set_option linter.unusedSimpArgs false
namespace Go.Proofs.Ytekfbafljilchaa
open Go.RowKit Go.Lib

def tr (c : DChart) (i : Nat) : DTrans := c.trans[i]?.getD default
theorem tr_at {c : DChart} {i : Nat} (h : i < c.trans.length) : c.trans[i] = tr c i := by simp [tr, h]
/-- Is state i's Initial right? -/
def initB (c : DChart) (i : Nat) : Bool :=
  if knd c i < 4 ∧ compB c i = false then decide ((st c i).init = -1)
  else if (st c i).init < 0 ∨ (c.trans.length : Int) ≤ (st c i).init then false
  else if (tr c (st c i).init.toNat).src ≠ i ∨ (tr c (st c i).init.toNat).targets.length = 0 then false
  else !(tr c (st c i).init.toNat).targets.any fun a => badInit c i a.toNat

/-- .. where it must have targets. -/
def initT (c : DChart) (i : Nat) : Bool :=
  if (st c i).init < 0 ∨ (c.trans.length : Int) ≤ (st c i).init then false
  else if (tr c (st c i).init.toNat).src ≠ i ∨ (tr c (st c i).init.toNat).targets.length = 0 then false
  else !(tr c (st c i).init.toNat).targets.any fun a => badInit c i a.toNat

set_option maxRecDepth 100000 in
set_option maxHeartbeats 8000000 in
theorem initial_any (W : World) (g : Nat) (c : DChart) (T : Tree c) (i : Nat) (hi : i < c.states.length) (y0 y3 y5 y6 y7 y8 y9 y10 y11 y12 : Value)
    (hL : Lat (fun _ => True) W g c) (ht : ∀ t, t ∈ c.trans → ∀ x, x ∈ t.targets → isSt c x = true) :
    Calls Try.prog 97 #[.pointer (some ⟨g, 0, none⟩), .int .i64 i, .agg #[y0, .int .i64 (knd c i), .int .i64 (par c i), y3, .int .i64 (st c i).init, y5, y6, y7, y8, y9, y10, y11, y12]] W
      fun e w' => e = .returned (.bool (initB c i)) ∧ Fr [] W w' := by
  obtain ⟨hb, hH⟩ : ∃ hb, decide (4 ≤ knd c i) = hb := ⟨_, rfl⟩
  obtain ⟨W4, hW4⟩ : ∃ W4, W4 = (((W.alloc (.cells #[.pointer (some ⟨g, 0, none⟩)] 36)).alloc (.cells #[.int .i64 i] 3)).alloc (.cells #[y0, .int .i64 (knd c i), .int .i64 (par c i), y3, .int .i64 (st c i).init, y5, y6, y7, y8, y9, y10, y11, y12] 50)).alloc (.cells #[.bool hb] 4) := ⟨_, rfl⟩
  have hf : Fr [] W W4 := by rw [hW4]; exact ((((Fr.refl [] W).alloc _).alloc _).alloc _).alloc _
  have bl : Blk W4 W.heap.size #[.pointer (some ⟨g, 0, none⟩)] 36 := by rw [hW4]; exact (((Blk.new W _ 36).alloc _).alloc _).alloc _
  have bi : Blk W4 (W.heap.size + 1) #[.int .i64 i] 3 := by
    rw [hW4]
    have := ((Blk.new (W.alloc (.cells #[.pointer (some ⟨g, 0, none⟩)] 36)) #[.int .i64 i] 3).alloc (.cells #[y0, .int .i64 (knd c i), .int .i64 (par c i), y3, .int .i64 (st c i).init, y5, y6, y7, y8, y9, y10, y11, y12] 50)).alloc (.cells #[.bool hb] 4)
    simpa using this
  have bs : Blk W4 (W.heap.size + 1 + 1) #[y0, .int .i64 (knd c i), .int .i64 (par c i), y3, .int .i64 (st c i).init, y5, y6, y7, y8, y9, y10, y11, y12] 50 := by
    rw [hW4]
    have := (Blk.new ((W.alloc (.cells #[.pointer (some ⟨g, 0, none⟩)] 36)).alloc (.cells #[.int .i64 i] 3)) #[y0, .int .i64 (knd c i), .int .i64 (par c i), y3, .int .i64 (st c i).init, y5, y6, y7, y8, y9, y10, y11, y12] 50).alloc (.cells #[.bool hb] 4)
    simpa using this
  have bh : Blk W4 (W.heap.size + 1 + 1 + 1) #[.bool hb] 4 := by
    rw [hW4]
    have := Blk.new (((W.alloc (.cells #[.pointer (some ⟨g, 0, none⟩)] 36)).alloc (.cells #[.int .i64 i] 3)).alloc (.cells #[y0, .int .i64 (knd c i), .int .i64 (par c i), y3, .int .i64 (st c i).init, y5, y6, y7, y8, y9, y10, y11, y12] 50)) #[.bool hb] 4
    simpa using this
  have hL4 := hL.on hf
  have hcp := compound_any W4 g c i hL4
  obtain ⟨As, cs, At, ct, Aa, ca, Ak, ck, hC⟩ := hL4.open_
  have c4 := hC.t
  have hlt := hC.T.len
  have hg4 := hL4.lt
  have hl2 := bs.lt
  have hl3 := bh.lt
  have kl := bl.cell 0
  have ki := bi.cell 0
  have kh := bh.cell 0
  have k1 := bs.cell 1
  have k4 := bs.cell 4
  simp at kl ki kh k1 k4
  rw [hW4] at hcp
  have HW := Lib.hid hW4
  have HC := Lib.hid hC
  clear hW4 hC
  -- what is the same however the Initial is come to
  have tail : (¬ (knd c i < 4 ∧ compB c i = false)) → True := fun _ => trivial
  by_cases hk : knd c i < 4
  · have hd : hb = false := by rw [← hH]; simp; omega
    subst hd
    cases hcb : compB c i with
    | false =>
      rw [hcb] at hcp
      have hres : initB c i = decide ((st c i).init = -1) := by simp [initB, hk, hcb]
      have HR := Lib.hid hres
      have HF := Lib.hid (HW.out ▸ hf)
      clear hres hcb hk hf bl bi bs bh kl ki kh k1 k4 c4 hg4 hL hL4 T ht tail
      go_enter Try.func97, Try.ntmps97
      go_wp2_with fail
      refine hcp.mono ?_
      rintro e w' ⟨rfl, rfl⟩
      go_wp2
      go_ret
      exact ⟨by rw [HR.out]; rfl, HF.out⟩
    | true =>
      rw [hcb] at hcp
      have hres : initB c i = initT c i := by simp [initB, initT, hcb]
      have HR := Lib.hid hres
      have HT := Lib.hid T
      have HBL := Lib.hid bl
      have HBI := Lib.hid bi
      have HBS := Lib.hid bs
      have HBH := Lib.hid bh
      have HHT := Lib.hid ht
      have HHH := Lib.hid hH
      clear hres hcb hk bl bi bs bh hL T ht tail
      go_enter Try.func97, Try.ntmps97
      go_wp2_with fail
      refine hcp.mono ?_
      rintro e w' ⟨rfl, rfl⟩
      rw [← HW.out]
      generalize W.heap.size + 1 + 1 + 1 = B3 at *
      generalize W.heap.size + 1 + 1 = B2 at *
      generalize W.heap.size + 1 = B1 at *
      generalize W.heap.size = B at *
      go_wp2
      by_cases hi0 : (st c i).init < 0
      · have hres : initT c i = false := by simp [initT, hi0]
        have HR2 := Lib.hid hres
        clear hres
        go_quiet (fail)
        go_wp2
        go_ret
        exact ⟨by rw [HR.out, HR2.out]; rfl, hf.drewN _⟩
      · by_cases hi1 : (c.trans.length : Int) ≤ (st c i).init
        · have hres : initT c i = false := by simp [initT, hi1]
          have HR2 := Lib.hid hres
          have hi0' : decide ((st c i).init < 0) = false := by simpa using hi0
          clear hres
          go_quiet (fail)
          go_wp2
          go_ret
          exact ⟨by rw [HR.out, HR2.out]; rfl, hf.drewN _⟩
        · have hi0' : decide ((st c i).init < 0) = false := by simpa using hi0
          have hi1' : decide ((c.trans.length : Int) ≤ (st c i).init) = false := by simpa using hi1
          obtain ⟨m, hm⟩ : ∃ m : Nat, (st c i).init = (m : Int) := ⟨(st c i).init.toNat, by omega⟩
          have hml : m < c.trans.length := by omega
          have hm0 : (0 : Int) ≤ (m : Int) := by omega
          have hmz : (m : Int) < (c.trans.length : Int) := by omega
          have hmn : (st c i).init.toNat = m := by omega
          obtain ⟨gt, ot, A1, d1, A3, d3, rfl, _, _, t0, t1, t2, t3, t4, t5, hs1, hs3⟩ := HC.out.T.trans_at m hml
          rw [tr_at hml] at t0 t1 t2 t3 t4 t5 hs1 hs3
          have HTG := Lib.hid (HHT.out (tr c m) (by rw [← tr_at hml]; exact List.getElem_mem hml))
          have HS3 := Lib.hid hs3
          have hres : initT c i = (if (tr c m).src ≠ i ∨ (tr c m).targets.length = 0 then false else !(tr c m).targets.any fun a => badInit c i a.toNat) := by
            unfold initT
            rw [if_neg (by omega), hmn]
          have HR2 := Lib.hid hres
          have HMM := Lib.hid hm
          rw [hm] at k4
          rw [hm] at hi0' hi1'
          go_quiet (fail)
          go_wp2
          obtain ⟨Wq, hWq⟩ : ∃ Wq, Wq = W4.drewN nq := ⟨_, rfl⟩
          rw [← hWq]
          have fq : Fr [] W4 Wq := by rw [hWq]; exact (Fr.refl _ _).drewN _
          have q0 : Wq.cell? ⟨B, 0, none⟩ = some (.pointer (some ⟨g, 0, none⟩)) := by rw [hWq]; exact kl
          have q1 : Wq.cell? ⟨g, 4, none⟩ = some (.slice (some ⟨gt, ot, none⟩) c.trans.length ct) := by rw [hWq]; exact c4
          have q2 : Wq.cell? ⟨B2, 4, none⟩ = some (.int .i64 m) := by rw [hWq]; exact k4
          have q3 : Wq.cell? ⟨gt, ot + m * 6, none⟩ = some (.int .i64 (tr c m).src) := by rw [hWq]; exact t0
          have q4 : Wq.cell? ⟨gt, ot + m * 6 + 1, none⟩ = some (.slice A1 (tr c m).events.length d1) := by rw [hWq]; exact t1
          have q5 : Wq.cell? ⟨gt, ot + m * 6 + 2, none⟩ = some (.string (tr c m).cond) := by rw [hWq]; exact t2
          have q6 : Wq.cell? ⟨gt, ot + m * 6 + 3, none⟩ = some (.slice A3 (tr c m).targets.length d3) := by rw [hWq]; exact t3
          have q7 : Wq.cell? ⟨gt, ot + m * 6 + 4, none⟩ = some (.bool (tr c m).internal) := by rw [hWq]; exact t4
          have q8 : Wq.cell? ⟨gt, ot + m * 6 + 5, none⟩ = some (.int .i64 (tr c m).block) := by rw [hWq]; exact t5
          have q9 : Wq.cell? ⟨B1, 0, none⟩ = some (.int .i64 i) := by rw [hWq]; exact ki
          have p0 := World.block_lt_of_cell? Wq _ q0
          have p1 := World.block_lt_of_cell? Wq _ q1
          have p2 := World.block_lt_of_cell? Wq _ q2
          have p3 := World.block_lt_of_cell? Wq _ q3
          have p4 := World.block_lt_of_cell? Wq _ q9
          dsimp only at p0 p1 p2 p3 p4
          have HF := Lib.hid hf
          have HL4 := Lib.hid hL4
          have HCC := HC
          clear hres hs1 hs3 hi0 hi1 hi0' hi1' hm hmn hWq kl ki kh k1 k4 c4 hg4 hl2 hl3 t0 t1 t2 t3 t4 t5 hf hL4 hcp
          go_region
          have F6 : Fr [] W4 (Wq.alloc (.cells #[.int .i64 (tr c m).src, .slice A1 (tr c m).events.length d1, .string (tr c m).cond, .slice A3 (tr c m).targets.length d3, .bool (tr c m).internal, .int .i64 (tr c m).block] 45)).drew := fq.trans' (((Fr.refl _ _).alloc _).drew)
          by_cases hs : (tr c m).src = (i : Int)
          · have hse : ((tr c m).src != (i : Int)) = false := by simp [hs]
            by_cases hn : (tr c m).targets.length = 0
            · have hne : (((tr c m).targets.length : Int) == 0) = true := by simpa using hn
              have hz : initT c i = false := by rw [HR2.out, if_pos (.inr hn)]
              have HZ := Lib.hid hz
              clear hs hn hz
              go_wp2
              go_ret
              exact ⟨by rw [HR.out, HZ.out]; rfl, HF.out.trans' F6⟩
            · have hne : (((tr c m).targets.length : Int) == 0) = false := by
                have : ((tr c m).targets.length : Int) ≠ 0 := by omega
                simpa using this
              have hz : initT c i = !(tr c m).targets.any fun a => badInit c i a.toNat := by rw [HR2.out, if_neg (by rintro (h | h); exact h hs; exact hn h)]
              have HZ := Lib.hid hz
              have hcf := containsFunc 120 _ _ (tr c m).targets (fun _ => True) A3 d3 _ (HS3.out.fr (fun k _ hk => ⟨trivial, F6.block k hk (by simp)⟩))
                (init_closure _ g c HT.out i hi _ _ _ _ _ _ _ _ y0 y3 y5 y6 y7 y8 y9 y10 y11 y12 (m : Int) (HL4.out.on F6) (HHH.out ▸ (HBH.out.fr F6 (by simp))) (HBL.out.fr F6 (by simp)) (HBI.out.fr F6 (by simp)) (HMM.out ▸ (HBS.out.fr F6 (by simp))) (tr c m).targets HTG.out)
              clear hs hn hz
              go_wp2_with fail
              refine hcf.mono ?_
              rintro e w' ⟨rfl, f7⟩
              go_wp2
              go_ret
              exact ⟨by rw [HR.out, HZ.out]; rfl, (HF.out.trans' F6).trans' f7⟩
          · have hse : ((tr c m).src != (i : Int)) = true := by simpa using hs
            have hz : initT c i = false := by rw [HR2.out, if_pos (.inl hs)]
            have HZ := Lib.hid hz
            clear hs hz
            go_wp2
            go_ret
            exact ⟨by rw [HR.out, HZ.out]; rfl, HF.out.trans' F6⟩
  · have hd : hb = true := by rw [← hH]; simp; omega
    subst hd
    have hres : initB c i = initT c i := by simp [initB, initT, hk]
    have HR := Lib.hid hres
    have HT := Lib.hid T
    have HBL := Lib.hid bl
    have HBI := Lib.hid bi
    have HBS := Lib.hid bs
    have HBH := Lib.hid bh
    have HHT := Lib.hid ht
    have HHH := Lib.hid hH
    clear hres hk hcp bl bi bs bh hL T ht tail
    go_enter Try.func97, Try.ntmps97
    go_wp2
    rw [← HW.out]
    generalize W.heap.size + 1 + 1 + 1 = B3 at *
    generalize W.heap.size + 1 + 1 = B2 at *
    generalize W.heap.size + 1 = B1 at *
    generalize W.heap.size = B at *
    by_cases hi0 : (st c i).init < 0
    · have hres : initT c i = false := by simp [initT, hi0]
      have HR2 := Lib.hid hres
      clear hres
      go_quiet (fail)
      go_wp2
      go_ret
      exact ⟨by rw [HR.out, HR2.out]; rfl, hf.drewN _⟩
    · by_cases hi1 : (c.trans.length : Int) ≤ (st c i).init
      · have hres : initT c i = false := by simp [initT, hi1]
        have HR2 := Lib.hid hres
        have hi0' : decide ((st c i).init < 0) = false := by simpa using hi0
        clear hres
        go_quiet (fail)
        go_wp2
        go_ret
        exact ⟨by rw [HR.out, HR2.out]; rfl, hf.drewN _⟩
      · have hi0' : decide ((st c i).init < 0) = false := by simpa using hi0
        have hi1' : decide ((c.trans.length : Int) ≤ (st c i).init) = false := by simpa using hi1
        obtain ⟨m, hm⟩ : ∃ m : Nat, (st c i).init = (m : Int) := ⟨(st c i).init.toNat, by omega⟩
        have hml : m < c.trans.length := by omega
        have hm0 : (0 : Int) ≤ (m : Int) := by omega
        have hmz : (m : Int) < (c.trans.length : Int) := by omega
        have hmn : (st c i).init.toNat = m := by omega
        obtain ⟨gt, ot, A1, d1, A3, d3, rfl, _, _, t0, t1, t2, t3, t4, t5, hs1, hs3⟩ := HC.out.T.trans_at m hml
        rw [tr_at hml] at t0 t1 t2 t3 t4 t5 hs1 hs3
        have HTG := Lib.hid (HHT.out (tr c m) (by rw [← tr_at hml]; exact List.getElem_mem hml))
        have HS3 := Lib.hid hs3
        have hres : initT c i = (if (tr c m).src ≠ i ∨ (tr c m).targets.length = 0 then false else !(tr c m).targets.any fun a => badInit c i a.toNat) := by
          unfold initT
          rw [if_neg (by omega), hmn]
        have HR2 := Lib.hid hres
        have HMM := Lib.hid hm
        rw [hm] at k4
        rw [hm] at hi0' hi1'
        go_quiet (fail)
        go_wp2
        obtain ⟨Wq, hWq⟩ : ∃ Wq, Wq = W4.drewN nq := ⟨_, rfl⟩
        rw [← hWq]
        have fq : Fr [] W4 Wq := by rw [hWq]; exact (Fr.refl _ _).drewN _
        have q0 : Wq.cell? ⟨B, 0, none⟩ = some (.pointer (some ⟨g, 0, none⟩)) := by rw [hWq]; exact kl
        have q1 : Wq.cell? ⟨g, 4, none⟩ = some (.slice (some ⟨gt, ot, none⟩) c.trans.length ct) := by rw [hWq]; exact c4
        have q2 : Wq.cell? ⟨B2, 4, none⟩ = some (.int .i64 m) := by rw [hWq]; exact k4
        have q3 : Wq.cell? ⟨gt, ot + m * 6, none⟩ = some (.int .i64 (tr c m).src) := by rw [hWq]; exact t0
        have q4 : Wq.cell? ⟨gt, ot + m * 6 + 1, none⟩ = some (.slice A1 (tr c m).events.length d1) := by rw [hWq]; exact t1
        have q5 : Wq.cell? ⟨gt, ot + m * 6 + 2, none⟩ = some (.string (tr c m).cond) := by rw [hWq]; exact t2
        have q6 : Wq.cell? ⟨gt, ot + m * 6 + 3, none⟩ = some (.slice A3 (tr c m).targets.length d3) := by rw [hWq]; exact t3
        have q7 : Wq.cell? ⟨gt, ot + m * 6 + 4, none⟩ = some (.bool (tr c m).internal) := by rw [hWq]; exact t4
        have q8 : Wq.cell? ⟨gt, ot + m * 6 + 5, none⟩ = some (.int .i64 (tr c m).block) := by rw [hWq]; exact t5
        have q9 : Wq.cell? ⟨B1, 0, none⟩ = some (.int .i64 i) := by rw [hWq]; exact ki
        have p0 := World.block_lt_of_cell? Wq _ q0
        have p1 := World.block_lt_of_cell? Wq _ q1
        have p2 := World.block_lt_of_cell? Wq _ q2
        have p3 := World.block_lt_of_cell? Wq _ q3
        have p4 := World.block_lt_of_cell? Wq _ q9
        dsimp only at p0 p1 p2 p3 p4
        have HF := Lib.hid hf
        have HL4 := Lib.hid hL4
        have HCC := HC
        clear hres hs1 hs3 hi0 hi1 hi0' hi1' hm hmn hWq kl ki kh k1 k4 c4 hg4 hl2 hl3 t0 t1 t2 t3 t4 t5 hf hL4
        go_region
        have F6 : Fr [] W4 (Wq.alloc (.cells #[.int .i64 (tr c m).src, .slice A1 (tr c m).events.length d1, .string (tr c m).cond, .slice A3 (tr c m).targets.length d3, .bool (tr c m).internal, .int .i64 (tr c m).block] 45)).drew := fq.trans' (((Fr.refl _ _).alloc _).drew)
        by_cases hs : (tr c m).src = (i : Int)
        · have hse : ((tr c m).src != (i : Int)) = false := by simp [hs]
          by_cases hn : (tr c m).targets.length = 0
          · have hne : (((tr c m).targets.length : Int) == 0) = true := by simpa using hn
            have hz : initT c i = false := by rw [HR2.out, if_pos (.inr hn)]
            have HZ := Lib.hid hz
            clear hs hn hz
            go_wp2
            go_ret
            exact ⟨by rw [HR.out, HZ.out]; rfl, HF.out.trans' F6⟩
          · have hne : (((tr c m).targets.length : Int) == 0) = false := by
              have : ((tr c m).targets.length : Int) ≠ 0 := by omega
              simpa using this
            have hz : initT c i = !(tr c m).targets.any fun a => badInit c i a.toNat := by rw [HR2.out, if_neg (by rintro (h | h); exact h hs; exact hn h)]
            have HZ := Lib.hid hz
            have hcf := containsFunc 120 _ _ (tr c m).targets (fun _ => True) A3 d3 _ (HS3.out.fr (fun k _ hk => ⟨trivial, F6.block k hk (by simp)⟩))
              (init_closure _ g c HT.out i hi _ _ _ _ _ _ _ _ y0 y3 y5 y6 y7 y8 y9 y10 y11 y12 (m : Int) (HL4.out.on F6) (HHH.out ▸ (HBH.out.fr F6 (by simp))) (HBL.out.fr F6 (by simp)) (HBI.out.fr F6 (by simp)) (HMM.out ▸ (HBS.out.fr F6 (by simp))) (tr c m).targets HTG.out)
            clear hs hn hz
            go_wp2_with fail
            refine hcf.mono ?_
            rintro e w' ⟨rfl, f7⟩
            go_wp2
            go_ret
            exact ⟨by rw [HR.out, HZ.out]; rfl, (HF.out.trans' F6).trans' f7⟩
        · have hse : ((tr c m).src != (i : Int)) = true := by simpa using hs
          have hz : initT c i = false := by rw [HR2.out, if_pos (.inl hs)]
          have HZ := Lib.hid hz
          clear hs hz
          go_wp2
          go_ret
          exact ⟨by rw [HR.out, HZ.out]; rfl, HF.out.trans' F6⟩
end Go.Proofs.Ytekfbafljilchaa
