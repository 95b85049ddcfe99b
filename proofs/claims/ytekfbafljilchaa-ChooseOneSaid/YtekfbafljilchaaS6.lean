/- sets.Domain. -/
import Derived.Test.YtekfbafljilchaaS5
import Derived.Test.YtekfbafljilchaaS7
import Derived.Test.YtekfbafljilchaaG1
set_option linter.unusedVariables false
set_option linter.unusedSimpArgs false
namespace Go.Proofs.Ytekfbafljilchaa
open Go.RowKit Go.Lib

/-- What a transition leaves all states in. -/
def domL (c : DChart) (mem : List (List Int)) (t : Int) : Option Int :=
  if (goalsL c mem t).length = 0 then none
  else if (tr c t.toNat).internal = true ∧ compB c (tr c t.toNat).src = true ∧ ((goalsL c mem t).any fun s => !inB c s (tr c t.toNat).src) = false then some (tr c t.toNat).src
  else some (max 0 (comB c ((tr c t.toNat).src :: goalsL c mem t)))
def DomPost (W : World) (o : Option Int) (e : Ending) (w' : World) : Prop := e = .returned (.tuple #[.int .i64 (o.getD 0), .bool o.isSome]) ∧ Fr [] W w'

set_option maxRecDepth 100000 in
set_option maxHeartbeats 2000000 in
theorem dom_closure (W : World) (g : Nat) (c : DChart) (bl bx : Nat) (tl tx : TypeId) (xs : Int) (v1 v2 v3 v4 v5 : Value) (hL : Lat (fun _ => True) W g c) (hbl : Blk W bl #[.pointer (some ⟨g, 0, none⟩)] tl) (hbx : Blk W bx #[.int .i64 xs, v1, v2, v3, v4, v5] tx) (l : List Int) :
    Says 62 #[.pointer (some ⟨bl, 0, none⟩), .pointer (some ⟨bx, 0, none⟩)] (fun s => !inB c s xs) l W := by
  refine ⟨enters_of Try.func62 (by kernel_rfl) rfl, fun s hx W' f => ?_⟩
  have kl := (hbl.fr f (by simp)).cell 0
  have kx := (hbx.fr f (by simp)).cell 0
  simp at kl kx
  have hin := inside_any W' g c s xs (hL.on f)
  show Calls Try.prog 62 #[.int .i64 s, .pointer (some ⟨bl, 0, none⟩), .pointer (some ⟨bx, 0, none⟩)] W' fun e w' => e = .returned (.bool (!inB c s xs)) ∧ Fr [] W' w'
  generalize inB c s xs = z at *
  clear hL hbl hbx hx
  go_enter Try.func62, Try.ntmps62
  go_wp2_with fail
  refine hin.mono ?_
  rintro e w' ⟨rfl, rfl⟩
  go_wp2
  go_ret
  exact ⟨rfl, Fr.refl _ _⟩
theorem ChartAt.tr6 {W : World} {g : Nat} {c : DChart} {As : Option Addr} {cs : Nat} {At : Option Addr} {ct : Nat} {vB vD vI : Value} (h : ChartAt W g c As cs At ct vB vD vI) {i : Nat} (hi : i < c.trans.length) :
    ∃ gt ot A1 d1 A3 d3, At = some ⟨gt, ot, none⟩ ∧ gt < W.heap.size ∧ W.cell? ⟨gt, ot + i * 6, none⟩ = some (.int .i64 c.trans[i].src) ∧ W.cell? ⟨gt, ot + i * 6 + 1, none⟩ = some (.slice A1 c.trans[i].events.length d1) ∧ W.cell? ⟨gt, ot + i * 6 + 2, none⟩ = some (.string c.trans[i].cond) ∧ W.cell? ⟨gt, ot + i * 6 + 3, none⟩ = some (.slice A3 c.trans[i].targets.length d3) ∧ W.cell? ⟨gt, ot + i * 6 + 4, none⟩ = some (.bool c.trans[i].internal) ∧ W.cell? ⟨gt, ot + i * 6 + 5, none⟩ = some (.int .i64 c.trans[i].block) := by
  obtain ⟨gt, ot, A1, d1, A3, d3, e, _, hl, h0, h1, h2, h3, h4, h5, _⟩ := h.t.trans_at i hi
  exact ⟨gt, ot, A1, d1, A3, d3, e, hl, h0, h1, h2, h3, h4, h5⟩

set_option maxRecDepth 100000 in
set_option maxHeartbeats 16000000 in
theorem domain_any (W : World) (g : Nat) (c : DChart) (mem : List (List Int)) (t : Int) (A : Option Addr) (d : Nat) (q : Nat → Prop) (G : Good c) (hM : Sl (rSl rInt) q W (.slice A mem.length d) mem) (hL : Lat (fun _ => True) W g c) :
    Calls Try.prog 21 #[.pointer (some ⟨g, 0, none⟩), .slice A mem.length d, .int .i64 t] W (DomPost W (domL c mem t)) := by
  have HL := Lib.hid hL
  have HM := Lib.hid hM
  have HG := Lib.hid G
  have hg := hL.lt
  have lM := hM.len
  have hf0 := Lib.hid ((Fr.refl [] W).alloc (.cells #[.pointer (some ⟨g, 0, none⟩)] 36))
  have hb0 := Lib.hid (Blk.new W #[.pointer (some ⟨g, 0, none⟩)] 36)
  have HL0 := Lib.hid (hL.on hf0.out)
  have hgo := goals_any _ g c mem t A d (fun _ => True) G (hM.fr (fun k _ hk => ⟨trivial, hf0.out.block k hk (by simp)⟩)) HL0.out
  clear hL hM G
  go_enter Try.func21, Try.ntmps21
  go_wp2_with fail
  refine hgo.mono ?_
  rintro e w1 ⟨A1, d1, rfl, f1, own1⟩
  have HF1 := Lib.hid (hf0.out.trans' f1)
  have HB1 := Lib.hid (hb0.out.fr f1 (by simp))
  have HO1 := Lib.hid own1
  clear f1 own1 hgo
  by_cases hn0 : (goalsL c mem t).length = 0
  · have HZ : Hid (domL c mem t = none) := Lib.hid (by simp [domL, hn0])
    have hnb : (((goalsL c mem t).length : Int) == 0) = true := by simpa using hn0
    have HN := Lib.hid hn0
    clear hn0
    go_wp2
    go_ret2
    exact ⟨by rw [HZ.out]; rfl, HF1.out⟩
  · have hnb : (((goalsL c mem t).length : Int) == 0) = false := by
      have : ((goalsL c mem t).length : Int) ≠ 0 := by omega
      simpa using this
    have hk : knownB c t = true := by
      cases h : knownB c t with
      | true => rfl
      | false => exact absurd (by simp [goalsL, h]) hn0
    obtain ⟨j, rfl, hj⟩ : ∃ j : Nat, t = (j : Int) ∧ j < c.trans.length := by
      simp [knownB] at hk
      exact ⟨t.toNat, by omega, by omega⟩
    have HZ : Hid (domL c mem (j : Int) = if c.trans[j].internal = true ∧ compB c c.trans[j].src = true ∧ ((goalsL c mem (j : Int)).any fun s => !inB c s c.trans[j].src) = false then some c.trans[j].src else some (max 0 (comB c (c.trans[j].src :: goalsL c mem (j : Int))))) := Lib.hid (by
      unfold domL
      rw [if_neg hn0, Int.toNat_natCast, tr_at hj])
    have HSG : Hid ((goalsL c mem (j : Int)).length ≤ c.states.length) := Lib.hid (states_len (goalsT_nodup c mem _ [] List.nodup_nil |> fun h => by
      have e : goalsL c mem (j : Int) = goalsT c mem (tr c j).targets := by simp [goalsL, hk]
      rw [e]; exact h) (fun x hx => by
      have e : goalsL c mem (j : Int) = goalsT c mem (tr c j).targets := by simp [goalsL, hk]
      rw [e] at hx
      exact HG.out.goals (HG.out.tg j hj) x hx))
    have hgl := HSG.out
    have hmany : c.states.length ≤ 128 := HG.out.tree.many
    have hgpos : 0 < (goalsL c mem (j : Int)).length := by omega
    obtain ⟨As, cs, At, ct, vB, vD, vI, hch⟩ := chart_open W g c HL.out
    have HCH := Lib.hid hch
    have lT := hch.t.len
    obtain ⟨gt, ot, A2, d2, A3, d3, rfl, hgt, c0, c1, c2, c3, c4, c5⟩ := hch.tr6 hj
    have hj0 : (0 : Int) ≤ (j : Int) := by omega
    have hjz : (j : Int) < (c.trans.length : Int) := by omega
    have hfd4 := fun w => run_field28_4 (.string c.name) (.bool c.late) (.int .i64 c.script) (.slice As c.states.length cs) (.slice (some ⟨gt, ot, none⟩) c.trans.length ct) vB vD vI w
    have hc1 := HCH.out.call _ HF1.out
    have hb1 := HB1.out.cell 0
    simp at hb1
    clear hk hch hn0
    generalize goalsL c mem (j : Int) = gl at *
    generalize c.trans[j] = x at *
    generalize x.internal = xi at *
    generalize x.src = xs at *
    go_wp2_with fail
    refine hc1.mono ?_
    rintro e w2 ⟨rfl, f2⟩
    have HF2 := Lib.hid (HF1.out.trans' f2)
    have HB2 := Lib.hid (HB1.out.fr f2 (by simp))
    have HO2 := Lib.hid (own_fr HO1.out f2 (by simp))
    have e0 := cell_on HF2.out c0
    have e1 := cell_on HF2.out c1
    have e2 := cell_on HF2.out c2
    have e3 := cell_on HF2.out c3
    have e4 := cell_on HF2.out c4
    have e5 := cell_on HF2.out c5
    clear f2 hc1 hb1 c0 c1 c2 c3 c4 c5
    have HF3 := Lib.hid (HF2.out.alloc (.cells #[.int .i64 xs, .slice A2 x.events.length d2, .string x.cond, .slice A3 x.targets.length d3, .bool xi, .int .i64 x.block] 45))
    have HB3 := Lib.hid (HB2.out.alloc (.cells #[.int .i64 xs, .slice A2 x.events.length d2, .string x.cond, .slice A3 x.targets.length d3, .bool xi, .int .i64 x.block] 45))
    have HX3 := Lib.hid (Blk.new w2 #[.int .i64 xs, .slice A2 x.events.length d2, .string x.cond, .slice A3 x.targets.length d3, .bool xi, .int .i64 x.block] 45)
    have HO3 := Lib.hid (own_fr HO2.out ((Fr.refl [] w2).alloc (.cells #[.int .i64 xs, .slice A2 x.events.length d2, .string x.cond, .slice A3 x.targets.length d3, .bool xi, .int .i64 x.block] 45)) (by simp))
    have hcm := compound_any _ g c xs (HL.out.on HF3.out)
    have hs3 := int_own' HO3.out (by omega)
    have hcf := containsFunc 62 #[.pointer (some ⟨W.heap.size, 0, none⟩), .pointer (some ⟨w2.heap.size, 0, none⟩)] _ gl _ A1 d1 _ hs3 (dom_closure _ g c W.heap.size w2.heap.size 36 45 xs _ _ _ _ _ (HL.out.on HF3.out) HB3.out HX3.out gl)
    have hb3 := HB3.out.cell 0
    simp at hb3
    have hbl := HB2.out.lt
    have HS3 := Lib.hid hs3
    have HCOM : Hid (∀ wz, Fr [] W wz → ∀ w A d, Fr [] wz w → Sl rInt (fun _ => True) w (.slice A (1 + gl.length) d) (xs :: gl) → Calls Try.prog 35 #[.pointer (some ⟨g, 0, none⟩), .slice A (1 + gl.length) d] w fun e w' => e = .returned (.int .i64 (comB c (xs :: gl))) ∧ Fr [] w w') := Lib.hid (fun wz F w A d f hs => by
      have e : 1 + gl.length = (xs :: gl).length := by simp; omega
      rw [e] at hs ⊢
      exact common_any w g c (xs :: gl) A d (fun _ => True) HG.out.tree hs (HL.out.on (F.trans' f)))
    clear hs3
    by_cases hcase : xi = true ∧ compB c xs = true ∧ (gl.any fun s => !inB c s xs) = false
    · have HD : Hid (domL c mem (j : Int) = some xs) := Lib.hid (by rw [HZ.out, if_pos hcase])
      obtain ⟨h1, h2, h3⟩ := hcase
      rw [h2] at hcm
      rw [h3] at hcf
      subst h1
      clear h2 h3 HZ
      go_wp2_with fail
      refine hcm.mono ?_
      rintro e w' ⟨rfl, rfl⟩
      go_wp2_with fail
      refine hcf.mono ?_
      rintro e w4 ⟨rfl, f4⟩
      have hx4 := (HX3.out.fr f4 (by simp)).cell 0
      simp at hx4
      go_wp2
      go_ret2
      exact ⟨by rw [HD.out]; rfl, HF3.out.trans' f4⟩
    · have HD : Hid (domL c mem (j : Int) = some (max 0 (comB c (xs :: gl)))) := Lib.hid (by rw [HZ.out, if_neg hcase])
      clear HZ
      cases xi with
      | false =>
        clear hcm hcf hcase
        go_wp2
        refine dom7 hb3 ((HX3.out.cell 0).trans rfl) (HS3.out.fr (fun k _ _ => ⟨trivial, rfl⟩)) hgpos (by omega) (HCOM.out _ HF3.out) ?_
        intros
        rename_i hpost
        obtain ⟨F7, rfl, rfl⟩ := hpost
        go_wp2
        go_ret2
        exact ⟨by rw [HD.out]; rfl, HF3.out.trans' F7⟩
      | true =>
        cases hcb : compB c xs with
        | false =>
          rw [hcb] at hcm
          clear hcf hcase hcb
          go_wp2_with fail
          refine hcm.mono ?_
          rintro e w' ⟨rfl, rfl⟩
          go_wp2
          refine dom7 hb3 ((HX3.out.cell 0).trans rfl) (HS3.out.fr (fun k _ _ => ⟨trivial, rfl⟩)) hgpos (by omega) (HCOM.out _ HF3.out) ?_
          intros
          rename_i hpost
          obtain ⟨F7, rfl, rfl⟩ := hpost
          go_wp2
          go_ret2
          exact ⟨by rw [HD.out]; rfl, HF3.out.trans' F7⟩
        | true =>
          have hany : (gl.any fun s => !inB c s xs) = true := by
            cases h : (gl.any fun s => !inB c s xs) with
            | true => rfl
            | false => exact absurd ⟨rfl, hcb, h⟩ hcase
          rw [hcb] at hcm
          rw [hany] at hcf
          clear hcase hcb hany
          go_wp2_with fail
          refine hcm.mono ?_
          rintro e w' ⟨rfl, rfl⟩
          go_wp2_with fail
          refine hcf.mono ?_
          rintro e w4 ⟨rfl, f4⟩
          have hb4 : w4.cell? ⟨W.heap.size, 0, none⟩ = some (.pointer (some ⟨g, 0, none⟩)) := by have := (HB3.out.fr f4 (by simp)).cell 0; simpa using this
          have hx4 : w4.cell? ⟨w2.heap.size, 0, none⟩ = some (.int .i64 xs) := by have := (HX3.out.fr f4 (by simp)).cell 0; simpa using this
          go_wp2
          refine dom7 hb4 hx4 (HS3.out.fr (fun k _ hk => ⟨trivial, f4.block k hk (by simp)⟩)) hgpos (by omega) (HCOM.out _ (HF3.out.trans' f4)) ?_
          intros
          rename_i hpost
          obtain ⟨F7, rfl, rfl⟩ := hpost
          go_wp2
          go_ret2
          exact ⟨by rw [HD.out]; rfl, (HF3.out.trans' f4).trans' F7⟩
end Go.Proofs.Ytekfbafljilchaa
