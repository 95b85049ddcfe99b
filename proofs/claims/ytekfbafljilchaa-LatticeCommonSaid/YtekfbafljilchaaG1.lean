/- Common. -/
import Derived.Test.YtekfbafljilchaaG0
import Derived.Test.YtekfbafljilchaaG2
import Derived.Test.YtekfbafljilchaaF0
import Derived.Test.YtekfbafljilchaaE6
import Derived.Deep.RegionHeld3
import Derived.Deep.RegionWith
import Derived.Deep.DrawnRows
set_option linter.unusedVariables false
set_option linter.unusedSimpArgs false
namespace Go.Proofs.Ytekfbafljilchaa
open Go.RowKit Go.Lib
attribute [local go_sem ↓] Go.wp_at_zero Go.wp_at_succ

def comOk (c : DChart) (l : List Int) (p : Int) : Bool := decide (knd c p.toNat ≤ 1) && !(l.any fun x => !ab c x.toNat p.toNat)
def comF (c : DChart) (l : List Int) : List Int → Int
  | [] => -1
  | p :: r => if comOk c l p then p else comF c l r
def comB (c : DChart) (l : List Int) : Int := if l = [] then -1 else if l.any (fun x => !isSt c x) then -1 else comF c l (abv c (l[0]?.getD 0) (-1))

theorem abvF_len (c : DChart) (top : Int) : ∀ (f : Nat) (p : Int), (abvF c top f p).length ≤ f := by
  intro f
  induction f with
  | zero => intro p; simp [abvF]
  | succ f ih =>
    intro p
    rw [abvF]
    split
    · simp
    · simpa using ih _
theorem abv_len (c : DChart) (a top : Int) : (abv c a top).length ≤ ns c := by
  unfold abv
  split
  · exact abvF_len _ _ _ _
  · simp
theorem Tree.abvF_mem {c : DChart} (T : Tree c) (top : Int) : ∀ (f : Nat) (p x : Int), (p = -1 ∨ ∃ j : Nat, p = (j : Int) ∧ j < ns c) → x ∈ abvF c top f p → ∃ b : Nat, x = (b : Int) ∧ b < ns c := by
  intro f
  induction f with
  | zero => intro p x _ h; simp [abvF] at h
  | succ f ih =>
    intro p x hp h
    rcases hp with rfl | ⟨j, rfl, hj⟩
    · rw [abvF_neg] at h; simp at h
    · by_cases e : (j : Int) = top
      · rw [e, abvF_top] at h; simp at h
      · rw [abvF_step _ _ _ _ e] at h
        rcases List.mem_cons.1 h with rfl | h
        · exact ⟨j, rfl, hj⟩
        · refine ih _ _ ?_ h
          rcases T.par_cases hj with h | ⟨i, h, hi⟩
          · exact .inl h
          · exact .inr ⟨i, h, by omega⟩
theorem Tree.abv_mem {c : DChart} (T : Tree c) {a top x : Int} (h : x ∈ abv c a top) : ∃ b : Nat, x = (b : Int) ∧ b < ns c := by
  unfold abv at h
  split at h
  · rename_i hs
    obtain ⟨b, rfl, hb⟩ := isSt_true hs
    refine T.abvF_mem top _ _ _ ?_ h
    rcases T.par_cases (j := b) hb with h | ⟨i, h, hi⟩
    · exact .inl (by simpa using h)
    · exact .inr ⟨i, by simpa using h, by have : b < ns c := hb; omega⟩
  · simp at h
theorem comF_no {c : DChart} {l : List Int} : ∀ {r : List Int}, (∀ j (h : j < r.length), comOk c l r[j] = false) → comF c l r = -1
  | [], _ => rfl
  | p :: r, h => by
    have h0 := h 0 (by simp)
    simp at h0
    rw [comF, h0]
    simp
    exact comF_no fun j hj => h (j + 1) (by simpa using hj)
theorem comF_at {c : DChart} {l : List Int} : ∀ {r : List Int} {k : Nat} (hk : k < r.length), (∀ j (h : j < r.length), j < k → comOk c l r[j] = false) → comOk c l r[k] = true → comF c l r = r[k]
  | [], k, hk, _, _ => by simp at hk
  | p :: r, 0, _, _, h => by
    simp at h
    rw [comF, h]
    simp
  | p :: r, k + 1, hk, hn, h => by
    have h0 := hn 0 (by simp) (by omega)
    simp at h0 h hk
    rw [comF, h0]
    simp
    exact comF_at hk (fun j hj hjk => hn (j + 1) (by simpa using hj) (by omega)) h

set_option maxRecDepth 100000 in
set_option maxHeartbeats 16000000 in
theorem common_any (W : World) (g : Nat) (c : DChart) (l : List Int) (A : Option Addr) (d : Nat) (q : Nat → Prop) (T : Tree c) (hC : Sl rInt q W (.slice A l.length d) l) (hL : Lat (fun _ => True) W g c) :
    Calls Try.prog 35 #[.pointer (some ⟨g, 0, none⟩), .slice A l.length d] W fun e w' => e = .returned (.int .i64 (comB c l)) ∧ Fr [] W w' := by
  have HL := Lib.hid hL
  have HC := Lib.hid hC
  have HT := Lib.hid T
  have hg := hL.lt
  have lC := hC.len
  have hbx := Lib.hid (Blk.new W #[.pointer (some ⟨g, 0, none⟩)] 36)
  have hf0 := Lib.hid ((Fr.refl [] W).alloc (.cells #[.pointer (some ⟨g, 0, none⟩)] 36))
  have hcf := containsFunc 78 #[.pointer (some ⟨W.heap.size, 0, none⟩)] (fun x => !isSt c x) l (fun _ => True) A d (W.alloc (.cells #[.pointer (some ⟨g, 0, none⟩)] 36)) (hC.fr fun k _ hk => ⟨trivial, hf0.out.block k hk (by simp)⟩) (com_state _ g c _ _ (HL.out.on hf0.out) hbx.out l)
  clear hL hC T
  by_cases hl : l = []
  · have HZ : Hid (comB c l = -1) := Lib.hid (by simp [comB, hl])
    have hl0 : l.length = 0 := by rw [hl]; rfl
    clear hl hcf
    rw [hl0]
    go_enter Try.func35, Try.ntmps35
    go_wp2
    go_ret
    exact ⟨by rw [HZ.out]; rfl, hf0.out⟩
  · have hl0 : ((l.length : Int) == 0) = false := by
      have : l.length ≠ 0 := fun h => hl (List.eq_nil_of_length_eq_zero h)
      simpa using hl
    have hlp : 0 < l.length := List.length_pos_iff.2 hl
    cases hany : l.any (fun x => !isSt c x) with
    | true =>
      have HZ : Hid (comB c l = -1) := Lib.hid (by simp only [comB, hany]; simp)
      rw [hany] at hcf
      clear hl hany
      go_enter Try.func35, Try.ntmps35
      go_wp2_with fail
      refine hcf.mono ?_
      rintro e w' ⟨rfl, f1⟩
      go_wp2
      go_ret
      exact ⟨by rw [HZ.out]; rfl, hf0.out.trans' f1⟩
    | false =>
      have HST : Hid (∀ x, x ∈ l → isSt c x = true) := Lib.hid (fun x hx => by
        have := List.any_eq_false.1 hany x hx
        simpa using this)
      have HZ : Hid (comB c l = comF c l (abv c (l[0]?.getD 0) (-1))) := Lib.hid (by simp only [comB, hany]; simp [hl])
      rw [hany] at hcf
      clear hl hany
      go_enter Try.func35, Try.ntmps35
      go_wp2_with fail
      refine hcf.mono ?_
      rintro e w1 ⟨rfl, f1⟩
      have HF1 := Lib.hid (hf0.out.trans' f1)
      have HBX1 := Lib.hid (hbx.out.fr f1 (by simp))
      obtain ⟨gx, ox, rfl, _, hgx, hx⟩ := HC.out.int_at 0 hlp
      have hx' : w1.cell? ⟨gx, ox, none⟩ = some (.int .i64 l[0]) := (World.cell?_of_block (HF1.out.block gx hgx (by simp))).trans hx
      have hb1 := HBX1.out.cell 0
      simp at hb1
      have hbl := HBX1.out.lt
      have hgxl : gx < w1.heap.size := Nat.lt_of_lt_of_le hgx HF1.out.size
      have hab := above_any w1.drew g c l[0] (-1) HT.out (HL.out.on HF1.out.drew)
      have hlz : (0 : Int) < (l.length : Int) := by omega
      clear hx
      go_wp2
      go_region_held3 (fun w' => w'.cell? ⟨W.heap.size, 0, none⟩ = some (.pointer (some ⟨g, 0, none⟩)) ∧ w'.cell? ⟨gx, ox, none⟩ = some (.int .i64 l[0])) (first | exact ⟨k1, k2⟩ | go_keep)
        ((go_at_call 41; refine hab.mono ?_; rintro e w4 ⟨v4, rfl, own4, f4⟩; have F4 := ((Fr.refl [] w1).drew).trans' f4; have k1 : w4.cell? ⟨W.heap.size, 0, none⟩ = some (.pointer (some ⟨g, 0, none⟩)) := (World.cell?_of_block (F4.block W.heap.size hbl (by simp))).trans hb1; have k2 : w4.cell? ⟨gx, ox, none⟩ = some (.int .i64 l[0]) := (World.cell?_of_block (F4.block gx hgxl (by simp))).trans hx'; obtain ⟨A4, d4, rfl⟩ := own_slice own4))
      have HM : Hid (∀ x, x ∈ abv c l[0] (-1) → ∃ b : Nat, x = (b : Int) ∧ b < c.states.length) := Lib.hid (fun x h => HT.out.abv_mem h)
      have HF4 := Lib.hid (HF1.out.trans' F4)
      have HBX4 := Lib.hid (HBX1.out.fr F4 (by simp))
      have hget : l[0]?.getD 0 = l[0] := by simp [hlp]
      have HZ2 : Hid (comB c l = comF c l (abv c l[0] (-1))) := Lib.hid (by rw [HZ.out, hget])
      have HR := Lib.hid (int_own own4 (Nat.le_trans (abv_len _ _ _) HT.out.many))
      have lR := HR.out.len
      clear own4 f4 F4 k1 k2 hget HZ hx' hb1 hab f1
      generalize abv c l[0] (-1) = r at *
      go_wp2
      go_loopg [21] r.length (fun gg s21 wr => ∃ j : Nat, j ≤ r.length ∧ r.length - j ≤ gg ∧ s21 = .int .i64 j ∧ Aside (Fr [] w4 wr) ∧ Aside (∀ k (h : k < r.length), k < j → comOk c l r[k] = false))
      case atStart => exact ⟨0, Nat.zero_le _, by omega, rfl, Fr.refl _ _, (show Aside _ from fun k _ h => absurd h (Nat.not_lt_zero _))⟩
      case round =>
        obtain ⟨j, hj, hgj, rfl, hfr, hno⟩ := hrel
        have HFW := Lib.hid (HF4.out.trans' hfr.out)
        by_cases hjt : j < r.length
        · have hjz : (j : Int) < (r.length : Int) := by omega
          obtain ⟨gy, oy, rfl, _, hgy, hy⟩ := HR.out.int_at j hjt
          have hy' : wr.cell? ⟨gy, oy + j, none⟩ = some (.int .i64 r[j]) := (World.cell?_of_block (hfr.out.block gy hgy (by simp))).trans hy
          have hgyl : gy < wr.heap.size := Nat.lt_of_lt_of_le hgy hfr.out.size
          obtain ⟨p, hpe, hpn⟩ := HM.out _ (List.getElem_mem hjt)
          have HAT : Hid (comOk c l (p : Int) = true → comB c l = (p : Int)) := Lib.hid (fun h => by rw [HZ2.out, comF_at hjt hno.out (by rw [hpe]; exact h), hpe])
          have HNX : Hid (comOk c l (p : Int) = false → ∀ k (h : k < r.length), k < j + 1 → comOk c l r[k] = false) := Lib.hid (fun h k hk hkj => by
            rcases Nat.lt_succ_iff_lt_or_eq.1 hkj with h1 | rfl
            · exact hno.out k hk h1
            · rw [hpe]; exact h)
          rw [hpe] at hy'
          obtain ⟨wo, rfl⟩ : ∃ wo : World, wo = wr := ⟨_, rfl⟩
          have F1 := Lib.hid ((Fr.refl [] wo).alloc (.cells #[.int .i64 (p : Int)] 3))
          have BP := Lib.hid (Blk.new wo #[.int .i64 (p : Int)] 3)
          have HBX6 := Lib.hid ((HBX4.out.fr hfr.out (by simp)).fr F1.out (by simp))
          have HFP := Lib.hid (HFW.out.trans' F1.out)
          have hb6 := (HBX6.out.cell 0).trans (show _ = some (Value.pointer (some ⟨g, 0, none⟩)) from rfl)
          have hb6l := HBX6.out.lt
          have hp6 := (BP.out.cell 0).trans (show _ = some (Value.int .i64 (p : Int)) from rfl)
          have hp6l := BP.out.lt
          obtain ⟨As, cs, At, ct, Aa, ca, Ak, ck, hLC⟩ := (HL.out.on HFP.out).open_
          obtain ⟨gs, os, rfl, x1, x2⟩ := hLC.st hpn
          have x3 := hLC.s
          have hpz : (p : Int) < (c.states.length : Int) := by omega
          have hp0 : (0 : Int) ≤ (p : Int) := by omega
          have hcc := containsFunc 79 #[.pointer (some ⟨W.heap.size, 0, none⟩), .pointer (some ⟨wo.heap.size, 0, none⟩)] (fun x => !ab c x.toNat p) l (fun _ => True) (some ⟨gx, ox, none⟩) d (wo.alloc (.cells #[.int .i64 (p : Int)] 3)).drew (HC.out.fr fun k _ hk => ⟨trivial, HFP.out.drew.block k hk (by simp)⟩) (com_above _ g c p hpn _ _ _ _ (HL.out.on HFP.out.drew) (HBX6.out.fr ((Fr.refl [] _).drew) (by simp)) (BP.out.fr ((Fr.refl [] _).drew) (by simp)) l HST.out)
          clear hLC hy x2 hpe
          by_cases hk1 : knd c p ≤ 1
          · cases hay : l.any (fun x => !ab c x.toNat p) with
            | true =>
              have HN := Lib.hid (HNX.out (by simp [comOk, hay]))
              rw [hay] at hcc
              clear hay
              go_wp2
              go_region_with (first
                | (go_at_call 61; refine hcc.mono ?_; rintro e w8 ⟨rfl, f8⟩))
              all_goals
                go_wp2
                go_roundg (r.length - (j + 1))
                case measure => omega
                case rel => exact ⟨j + 1, by omega, by omega, by go_num, ((hfr.out.trans' F1.out).trans' ((Fr.refl [] _).drew)).trans' f8, HN.out⟩
            | false =>
              have HV := Lib.hid (HAT.out (by simp [comOk, hay, hk1]))
              rw [hay] at hcc
              clear hay
              go_wp2
              go_region_with (first
                | (go_at_call 61; refine hcc.mono ?_; rintro e w8 ⟨rfl, f8⟩))
              all_goals
                have hp9 := ((BP.out.fr ((Fr.refl [] _).drew) (by simp)).fr f8 (by simp)).cell 0
                simp at hp9
                have HF9 := Lib.hid ((HFP.out.trans' ((Fr.refl [] _).drew)).trans' f8)
                go_wp2
                go_ret
                exact ⟨by rw [HV.out]; rfl, HF9.out⟩
          · have HN := Lib.hid (HNX.out (by simp [comOk, hk1]))
            have HK1 := Lib.hid hk1
            clear hcc hk1
            go_wp2
            refine com6 hb6 hp6 x3 x1 hpn (by have := HK1.out; omega) ?_
            rintro u25 u26 u27 u28 u29 u30 u31 u32 u33 u34 u35 u36 u37 u38 u39 u40 w9 ⟨rfl, rfl⟩
            go_wp2
            go_roundg (r.length - (j + 1))
            case measure => omega
            case rel => exact ⟨j + 1, by omega, by omega, by go_num, (hfr.out.trans' F1.out).trans' ((Fr.refl [] _).drew), HN.out⟩
        · obtain rfl : j = r.length := by omega
          have hjz : ¬ (r.length : Int) < (r.length : Int) := by omega
          have HD : Hid (comB c l = -1) := Lib.hid (by rw [HZ2.out]; exact comF_no fun k hk => hno.out k hk hk)
          go_wp2
          go_ret
          exact ⟨by rw [HD.out]; rfl, HFW.out⟩
end Go.Proofs.Ytekfbafljilchaa
