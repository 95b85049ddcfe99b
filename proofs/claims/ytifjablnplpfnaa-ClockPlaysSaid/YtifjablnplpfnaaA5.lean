/- slices.DeleteFunc at timers, with take's closure: the walk. -/
import Derived.Test.YtifjablnplpfnaaA4
set_option linter.unusedVariables false
set_option linter.unusedSimpArgs false
namespace Go.Proofs.Ytifjablnplpfnaa
open Go.RowKit Go.Lib

/-- The row while DeleteFunc goes: i kept ones, a hole, the rest. -/
def DelInv (W : World) (base bo : Nat) (ns : List Int) (S : List Nat) (p : Tm → Bool) (ts : List Tm) (rest : List Value) (g : Nat) (i j : Nat) (w' : World) : Prop :=
  i = ((ts.take j).filter (fun t => !p t)).length ∧ i < j ∧ TakeInv W base bo ns S p ts j w' ∧
  ∃ cur mid, Blk w' g cur 44 ∧ cur.toList = flat ((ts.take j).filter (fun t => !p t)) ++ mid ++ flat (ts.drop j) ++ rest ∧ mid.length = (j - i) * 4

def DelPost (W : World) (base bo : Nat) (ns : List Int) (S : List Nat) (p : Tm → Bool) (ts : List Tm) (size : Nat) (g cap : Nat) (e : Ending) (w' : World) : Prop :=
  e = .returned (.slice (some ⟨g, 0, none⟩) (ts.filter (fun t => !p t)).length cap) ∧ TakeInv W base bo ns S p ts ts.length w' ∧
  ∃ cur rest', Blk w' g cur 44 ∧ cur.toList = flat (ts.filter (fun t => !p t)) ++ rest' ∧ cur.size = size

set_option maxHeartbeats 2000000 in
theorem deleteFunc (fv : Nat) (lb : Array Value) (p : Tm → Bool) (L : List (Nat × Array Value × TypeId)) (hp : GoneOK fv lb p L)
    (bg bo base : Nat) (ns : List Int) (ts : List Tm) (W : World) (S : List Nat) (hL : Blks W L) (hg : Blk W bg #[.func (.func fv) #[] lb] 67)
    (hLS : ∀ x, x ∈ L → x.1 < base ∧ x.1 ∉ S) (hgS : bg < base ∧ bg ∉ S) (hboS : bo ∈ S) (hbase : base ≤ W.heap.size) (hbo : bo < base) (hn : ns.length + ts.length ≤ 1000000)
    (g cap : Nat) (cur : Array Value) (rest : List Value) (hcur : Blk W g cur 44) (hcl : cur.toList = flat ts ++ rest) (hcap : ts.length ≤ cap) (hcm : cap ≤ maxLen) (hgb : g < base) (hgo : g ≠ bo) (hgs : g ∈ S)
    (hI0 : TakeInv W base bo ns S p ts 0 W) :
    Calls Try.prog 32 #[.slice (some ⟨g, 0, none⟩) ts.length cap, .func (.func 33) #[] #[.pointer (some ⟨bg, 0, none⟩), .pointer (some ⟨bo, 0, none⟩)]] W
      (DelPost W base bo ns S p ts cur.size g cap) := by
  have hstep := take1_inv fv lb p L hp bg bo base ns ts W S hL hg hLS hgS hboS hbase hbo hn
  have e33 : ∀ args w, (callFunc 33 args).run Try.prog w = .ok (.enter 33 args) w := enters_of Try.func33 (by kernel_rfl) rfl
  have hIF := indexFunc 33 #[.pointer (some ⟨bg, 0, none⟩), .pointer (some ⟨bo, 0, none⟩)] p ts (some ⟨g, 0, none⟩) cap W
    (fun k w' => TakeInv W base bo ns S p ts k w' ∧ Blk w' g cur 44) e33 (by omega) ⟨hI0, hcur⟩
    (fun k w1 ⟨hI, hb⟩ hk => ⟨⟨g, rfl, four_of_blk hb hcl k hk⟩, (hstep k hk w1 hI).mono fun e w' ⟨he, hI', T, hf, hT⟩ =>
      ⟨he, hI', hb.fr hf (fun hm => by rcases hT g hm with e | ⟨e, _⟩ <;> omega)⟩⟩)
  have HS := Lib.hid hstep
  clear hstep hI0 hL hLS
  go_enter Try.func32, Try.ntmps32
  go_wp2_with fail
  refine hIF.mono ?_
  rintro e w1 h1
  rcases h1 with ⟨rfl, hno, hI, hb⟩ | ⟨k, hk, rfl, hpk, hno, hI, hb⟩
  · have hfil : ts.filter (fun t => !p t) = ts := List.filter_eq_self.2 (fun t ht => by obtain ⟨i, hi, rfl⟩ := List.getElem_of_mem ht; simp [hno i hi])
    go_wp2
    go_ret
    exact ⟨by rw [hfil]; rfl, hI, cur, rest, hb, by rw [hfil]; exact hcl, rfl⟩
  · have hne : ((k : Int) == -1) = false := beq_eq_false_iff_ne.2 (by omega)
    clear hIF
    have HN := Lib.hid hno
    have HI := Lib.hid hI
    clear hno hI
    have hkl := Nat.le_of_lt hk
    have HP := Lib.hid hpk
    have HC := Lib.hid hcl
    clear hpk hcl hcur
    go_wp2
    go_loopg [5, 6, 7] ts.length (fun gg s5 s6 _ wr => ∃ i j : Nat, s5 = .int .i64 i ∧ s6 = .int .i64 j ∧ j ≤ ts.length ∧ ts.length - j ≤ gg ∧ Aside (DelInv W base bo ns S p ts rest g i j wr))
    case atStart =>
      have hkf : (ts.take (k + 1)).filter (fun t => !p t) = ts.take k := by
        rw [filter_take_snoc (fun t => !p t) ts k hk, HP.out]
        simp only [Bool.not_true, Bool.false_eq_true, if_false, List.append_nil]
        exact List.filter_eq_self.2 (fun t ht => by
          obtain ⟨i, hi, rfl⟩ := List.getElem_of_mem ht
          simp at hi
          simp [HN.out i (by omega)])
      refine ⟨k, k + 1, rfl, by go_num, by omega, by omega, ?_, by omega, HI.out, cur, (ts[k]).cells, hb, ?_, by simp [Tm.cells]⟩
      · rw [hkf]; simp; omega
      · rw [hkf, HC.out]
        have : flat ts = flat (ts.take k) ++ (ts[k]).cells ++ flat (ts.drop (k + 1)) := by
          have h1 : ts.take k ++ ts[k] :: ts.drop (k + 1) = ts := by rw [← List.drop_eq_getElem_cons hk, List.take_append_drop]
          have h2 := flat_append (ts.take k) (ts[k] :: ts.drop (k + 1))
          rw [h1, flat_cons, ← List.append_assoc] at h2
          exact h2
        rw [this]
    case round =>
      obtain ⟨i, j, rfl, rfl, hj, hgg, hI1⟩ := hrel
      obtain ⟨hi, hij, hT, cur1, mid, hb1, hcl1, hmid⟩ := hI1
      have HI1 := Lib.hid hi
      have HCL := Lib.hid hcl1
      have HM := Lib.hid hmid
      by_cases hlt : j < ts.length
      · have hltz : (j : Int) < (ts.length : Int) := by omega
        have hsz1 : (j + 1) * 4 ≤ cur1.size := by
          have := congrArg List.length hcl1
          simp at this
          omega
        have hF4 := four_mid hb1 j hlt hcl1 (by simp [hmid, ← hi]; omega)
        have hbr : base ≤ wr.heap.size := by obtain ⟨_, _, hF⟩ := hT; have := hF.size; omega
        have hcall := HS.out j hlt _ (hT.alloc hbase (.cells #[.int .i64 ts[j].o, .string ts[j].i, .int .i64 ts[j].d, .int .i64 ts[j].n] 44))
        have hi4 : i * 4 + 3 < cur1.size := by omega
        clear hi hcl1 hmid hT
        unfold Tm.val at hcall
        generalize hy : ts[j] = y at hF4 hcall
        have HY := Lib.hid hy
        clear hy
        obtain ⟨f0, f1, f2, f3⟩ := hF4
        cases hq : p y with
        | true =>
          rw [hq] at hcall
          go_wp2_with fail
          refine hcall.mono ?_
          rintro e w2 ⟨rfl, hT2, T, hfr, hTs⟩
          have hb2 := (hb1.alloc (.cells #[.int .i64 y.o, .string y.i, .int .i64 y.d, .int .i64 y.n] 44)).fr hfr (fun hm => by rcases hTs g hm with e | ⟨e, _⟩ <;> omega)
          go_wp2
          go_roundg (ts.length - (j + 1))
          case measure => omega
          case rel =>
            obtain ⟨e1, mid', e2, e3⟩ := del_skip p ts rest mid cur1 i j HI1.out hij hlt HCL.out HM.out (by rw [HY.out]; exact hq)
            exact ⟨i, j + 1, rfl, by go_num, by omega, Nat.le_refl _, e1, by omega, hT2, cur1, mid', hb2, e2, e3⟩
        | false =>
          rw [hq] at hcall
          go_wp2_with fail
          refine hcall.mono ?_
          rintro e w2 ⟨rfl, hT2, T, hfr, hTs⟩
          have hb2 := (hb1.alloc (.cells #[.int .i64 y.o, .string y.i, .int .i64 y.d, .int .i64 y.n] 44)).fr hfr (fun hm => by rcases hTs g hm with e | ⟨e, _⟩ <;> omega)
          have hsz := hb1.lt
          have hbase2 := hbr
          have hbx := (Blk.new wr #[.int .i64 y.o, .string y.i, .int .i64 y.d, .int .i64 y.n] 44).fr hfr (fun hm => by
            rcases hTs _ hm with e | ⟨_, c, e⟩
            · omega
            · exact (Blk.ne (Blk.new wr _ 44) e (by decide)) rfl)
          have x0 := hbx.cell 0
          have x1 := hbx.cell 1
          have x2 := hbx.cell 2
          have x3 := hbx.cell 3
          simp at x0 x1 x2 x3
          have hxl := hbx.lt
          have hgl := hb2.lt
          obtain ⟨c0, y0⟩ := hb2.has (i * 4) (by omega)
          obtain ⟨c1, y1⟩ := hb2.has (i * 4 + 1) (by omega)
          obtain ⟨c2, y2⟩ := hb2.has (i * 4 + 2) (by omega)
          obtain ⟨c3, y3⟩ := hb2.has (i * 4 + 3) (by omega)
          have z0 := hb2.free (i * 4)
          have z1 := hb2.free (i * 4 + 1)
          have z2 := hb2.free (i * 4 + 2)
          have z3 := hb2.free (i * 4 + 3)
          go_wp2
          go_roundg (ts.length - (j + 1))
          case measure => omega
          case rel =>
            obtain ⟨e1, mid', e2, e3⟩ := del_keep p ts rest mid cur1 i j HI1.out hij hlt HCL.out HM.out (by rw [HY.out]; exact hq)
            rw [HY.out] at e2
            exact ⟨i + 1, j + 1, by go_num, by go_num, by omega, Nat.le_refl _, e1, by omega,
              hT2.fr hbase (((((Fr.refl [g] w2).setCell (by simp) _).setCell (by simp) _).setCell (by simp) _).setCell (by simp) _) (by simp; exact ⟨hgb, hgs, hgo⟩),
              _, mid', (((hb2.set _ _).set _ _).set _ _).set _ _, e2, e3⟩
      · obtain rfl : j = ts.length := by omega
        have hltz : ¬ (ts.length : Int) < (ts.length : Int) := by omega
        simp only [List.take_length, List.drop_length, flat_nil, List.append_nil] at hi hcl1
        have hsz := congrArg List.length hcl1
        simp at hsz
        obtain ⟨zs, hzl, hclr⟩ := run_clear_row wr 27 44 0 (.agg #[.int .i64 0, .string ⟨#[]⟩, .int .i64 0, .int .i64 0]) 4 Try.underlying27 (fun _ => by kernel_rfl) rfl (by simp [Value.cells, Value.oneCell']) g (i * 4) (ts.length - i) (cap - i) cur1 hb1 (by omega) (by omega)
        have HT := Lib.hid hT
        clear hi hcl1 hmid hT
        go_wp2
        go_ret
        have hi := HI1.out
        have hcl1 := HCL.out
        have hmid := HM.out
        simp only [List.take_length, List.drop_length, flat_nil, List.append_nil] at hi hcl1
        have hA : (flat (ts.filter (fun t => !p t)) ++ mid).length = ts.length * 4 := by simp [hmid, ← hi]; omega
        refine ⟨by rw [← hi]; rfl, HT.out.fr hbase (Fr.setRow (Fr.refl [g] wr) (by simp) _) (by simp; exact ⟨hgb, hgs, hgo⟩), _, zs ++ rest, hb1.setRow, ?_, ?_⟩
        · rw [hcl1, show i * 4 + (ts.length - i) * 4 = ts.length * 4 by omega]
          have e1 : (flat (ts.filter (fun t => !p t)) ++ mid ++ rest).take (i * 4) = flat (ts.filter (fun t => !p t)) := by
            rw [List.append_assoc, List.take_left' (by simp [← hi])]
          have e2 : (flat (ts.filter (fun t => !p t)) ++ mid ++ rest).drop (ts.length * 4) = rest := List.drop_left' hA
          rw [e1, e2]
        · have e := congrArg List.length HC.out
          simp at e
          simp [hzl]
          omega
end Go.Proofs.Ytifjablnplpfnaa
