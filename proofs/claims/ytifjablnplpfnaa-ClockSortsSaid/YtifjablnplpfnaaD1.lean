/- ClockSorts: the walk. -/
import Derived.Test.YtifjablnplpfnaaD0
import Derived.Test.YtifjablnplpfnaaC4
set_option linter.unusedVariables false
set_option linter.unusedSimpArgs false
namespace Go.Proofs.Ytifjablnplpfnaa
open Go.RowKit Go.Lib

/-- A slice that came in and reads as these numbers of kind u16. -/
def RU (w : World) (v : Value) (ds : List Int) : Prop :=
  ∃ A c, v = .slice A ds.length c ∧ ds.length ≤ 9223372036854775807 ∧ ∀ j (h : j < ds.length), 0 ≤ ds[j] ∧ ds[j] ≤ 65535 ∧ ∃ g o, A = some ⟨g, o, none⟩ ∧ w.cell? ⟨g, o + j, none⟩ = some (.int .u16 ds[j])

set_option maxRecDepth 100000 in
set_option maxHeartbeats 4000000 in
theorem sorts_any (W : World) (v : Value) (ds : List Int) (hv : RU W v ds) : Calls Try.prog 6 #[v] W fun e w' => e = .returned (.bool true) ∧ Fr [] W w' := by
  obtain ⟨A, c, rfl, hl0, hread⟩ := hv
  have HR := Lib.hid hread
  clear hread
  by_cases hbig : 128 < ds.length
  · go_enter Try.func6, Try.ntmps6
    go_wp2_with fail
    refine (awake_any W).mono ?_
    rintro e w1 ⟨rfl, f1⟩
    go_wp2
    go_ret
    exact ⟨rfl, f1⟩
  · have hd : ∀ j (h : j < ds.length), 0 ≤ ds[j] ∧ ds[j] ≤ 65535 := fun j h => ⟨(HR.out j h).1, (HR.out j h).2.1⟩
    have HF := Lib.hid (fill_inv ds hd (by omega))
    have HT := Lib.hid (fill_tick ds hd (by omega))
    clear hd
    go_enter Try.func6, Try.ntmps6
    go_wp2_with fail
    refine (awake_any W).mono ?_
    rintro e w1 ⟨rfl, f1⟩
    go_wp2_with fail
    refine (new_al W w1 f1).mono ?_
    rintro e w2 ⟨gc, rfl, h2, _⟩
    go_wp2
    go_loopg [4, 5, 19] ds.length (fun gg _ _ s19 wr => ∃ k : Nat, k ≤ ds.length ∧ ds.length - k ≤ gg ∧ s19 = .int .i64 k ∧ Aside (Al W wr gc (fill ds k)))
    case atStart => exact ⟨0, by omega, by omega, rfl, h2⟩
    case round =>
      obtain ⟨k, hk, hg, rfl, hal⟩ := hrel
      by_cases hlt : k < ds.length
      · have hltz : (k : Int) < (ds.length : Int) := by omega
        obtain ⟨hb0, hb1, g, o, rfl, hcell⟩ := HR.out k hlt
        have hcw : wr.cell? ⟨g, o + k, none⟩ = some (.int .u16 ds[k]) := by
          have hlt := World.block_lt_of_cell? W _ hcell
          rw [← hcell]
          exact World.cell?_of_block (hal.frame.block g hlt (by simp))
        have hset := set_al hal ((k : Int) % 3) a120 ds[k] k (by omega) (by omega)
        have hst : (fill ds k).set ((k : Int) % 3) a120 ds[k] k = (0, fill ds (k + 1)) := by
          have := (HF.out k hk).2 hlt
          rwa [show ds[k]?.getD 0 = ds[k] by rw [List.getElem?_eq_getElem hlt]; rfl] at this
        rw [hst] at hset
        clear hst
        go_wp2_with fail
        refine hset.mono ?_
        rintro e w3 ⟨rfl, h3, _⟩
        go_wp2
        go_roundg (ds.length - (k + 1))
        case measure => omega
        case rel => exact ⟨k + 1, by omega, by omega, by go_num, h3⟩
      · have hltz : ¬ (k : Int) < (ds.length : Int) := by omega
        obtain rfl : k = ds.length := by omega
        have htick := tick_al hal 70000 (by decide) (by decide)
        rw [HT.out] at htick
        obtain ⟨l, hl⟩ : ∃ l, l = (fill ds ds.length).ts.map Tm.n := ⟨_, rfl⟩
        have HO := Lib.hid (fill_order ds (fun j h => ⟨(HR.out j h).1, (HR.out j h).2.1⟩) (by omega) l hl)
        simp only [← hl] at htick
        clear hl
        have hll := HO.out.1
        have hll1 : l.length ≤ ds.length := by omega
        have hll2 : ds.length ≤ l.length := by omega
        have hne : ((l.length : Int) != (ds.length : Int)) = false := by simp [hll]
        clear hll
        go_wp2_with fail
        refine htick.mono ?_
        rintro e w4 ⟨vr, rfl, ho, h4, _⟩
        obtain ⟨Ar, cr, rfl, hrl, hri⟩ := ho.ri
        have HI := Lib.hid hri
        clear hri ho
        go_wp2
        go_loopg [8, 9, 10] l.length (fun gg s8 _ _ wr => ∃ k : Nat, 1 ≤ k ∧ (k ≤ l.length ∨ k = 1) ∧ l.length - k ≤ gg ∧ s8 = .int .i64 k ∧ Aside (∃ q, wr = w4.drewN q))
        case atStart => exact ⟨1, by omega, .inr rfl, by omega, rfl, 0, rfl⟩
        case round =>
          obtain ⟨k, hk1, hk, hg, rfl, q, rfl⟩ := hrel
          by_cases hlt : k < l.length
          · have hltz : (k : Int) < (l.length : Int) := by omega
            obtain ⟨m, rfl⟩ : ∃ m, k = m + 1 := ⟨k - 1, by omega⟩
            obtain ⟨gr, rfl, c1⟩ := HI.out m (by omega)
            obtain ⟨gr', e', c2⟩ := HI.out (m + 1) hlt
            injection e' with e'
            injection e' with e'
            subst e'
            have ha := HO.out.2.1 m (by omega)
            have hb := HO.out.2.1 (m + 1) hlt
            have hord := HO.out.2.2 m hlt
            obtain ⟨a, hae⟩ := Int.eq_ofNat_of_zero_le ha.1
            obtain ⟨b, hbe⟩ := Int.eq_ofNat_of_zero_le hb.1
            rw [hae, hbe] at hord
            rw [hae] at c1 ha
            rw [hbe] at c2 hb
            have hal' : a < ds.length := by omega
            have hbl' : b < ds.length := by omega
            simp only [Int.toNat_natCast, List.getElem?_eq_getElem hal', List.getElem?_eq_getElem hbl', Option.getD_some] at hord
            obtain ⟨_, _, g, o, rfl, d1⟩ := HR.out a hal'
            obtain ⟨_, _, g', o', e', d2⟩ := HR.out b hbl'
            injection e' with e'
            injection e' with e1 e2
            subst e1 e2
            have hgl := World.block_lt_of_cell? W _ d1
            have k1 : w4.cell? ⟨g, o + a, none⟩ = some (.int .u16 ds[a]) := by rw [← d1]; exact World.cell?_of_block (h4.frame.block g hgl (by simp))
            have k2 : w4.cell? ⟨g, o + b, none⟩ = some (.int .u16 ds[b]) := by rw [← d2]; exact World.cell?_of_block (h4.frame.block g hgl (by simp))
            clear hae hbe d1 d2 ha hb
            generalize ds[a] = da at k1 hord
            generalize ds[b] = db at k2 hord
            have haz : (a : Int) < (ds.length : Int) := by omega
            have hbz : (b : Int) < (ds.length : Int) := by omega
            have hmz : (m : Int) < (l.length : Int) := by omega
            have hw1 : IntKind.i64.wrap (((m + 1 : Nat) : Int) - 1) = (m : Int) := by rw [IntKind.wrap_i64]; omega
            have hgt : decide (db < da) = false := by simp; omega
            by_cases heq : da = db
            · subst heq
              have hab : a < b := by omega
              have hge : decide ((b : Int) ≤ (a : Int)) = false := by simp; omega
              clear hord
              go_wp2
              go_quiet (fail)
              go_wp2
              go_quiet (fail)
              go_wp2
              go_roundg (l.length - (m + 1 + 1))
              case measure => omega
              case rel => exact ⟨m + 1 + 1, by omega, by omega, Nat.le_refl _, by go_num, _, rfl⟩
            · have hne2 : (da == db) = false := by simpa using heq
              clear hord heq
              go_wp2
              go_quiet (fail)
              go_wp2
              go_quiet (fail)
              go_wp2
              go_roundg (l.length - (m + 1 + 1))
              case measure => omega
              case rel => exact ⟨m + 1 + 1, by omega, by omega, Nat.le_refl _, by go_num, _, rfl⟩
          · have hltz : ¬ (k : Int) < (l.length : Int) := by omega
            go_wp2_with fail
            refine (timers_al (h4.fr ((Fr.refl _ _).drewN q))).mono ?_
            rintro e w5 ⟨v5, rfl, ho5, h5, _⟩
            obtain ⟨A5, c5, rfl⟩ := own_slice ho5
            go_wp2
            go_ret
            exact ⟨rfl, h5.frame⟩
end Go.Proofs.Ytifjablnplpfnaa
