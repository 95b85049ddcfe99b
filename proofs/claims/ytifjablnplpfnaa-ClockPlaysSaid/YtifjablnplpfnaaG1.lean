/- The reference's clock: Gone, Sorted. -/
import Derived.Test.YtifjablnplpfnaaF1
import Derived.Test.YtifjablnplpfnaaG0
set_option linter.unusedVariables false
set_option linter.unusedSimpArgs false
namespace Go.Proofs.Ytifjablnplpfnaa
open Go.RowKit Go.Lib

/-- The reference's clock in memory. -/
def Rk (w : World) (gr : Nat) (rb : Option Nat) (now : Int) (ts : List Tm) : Prop :=
  ∃ v, Blk w gr #[.int .i64 now, v] 29 ∧ TRow w v rb ts
theorem Rk.fr {w w' : World} {gr : Nat} {rb : Option Nat} {now : Int} {ts : List Tm} {S : List Nat} (h : Rk w gr rb now ts) (f : Fr S w w') (hg : gr ∉ S) (hn : ∀ k, rb = some k → k ∉ S) : Rk w' gr rb now ts := by
  obtain ⟨v, hb, hr⟩ := h
  exact ⟨v, hb.fr f hg, hr.fr f hn⟩

/-- Is a timer taken away? -/
def goneP (now : Int) (how : Nat) (ow : Int) (id : ByteArray) (t : Tm) : Bool :=
  match how with
  | 2 => decide (t.d ≤ now)
  | 1 => t.o == ow
  | _ => t.o == ow && t.i.toList == id.toList

theorem gone_any (W : World) (gr : Nat) (now : Int) (v : Value) (hb : Blk W gr #[.int .i64 now, v] 29) (how : Nat) (hh : how < 3) (ow : Int) (id : ByteArray) (t : Tm) :
    Calls Try.prog 31 #[.pointer (some ⟨gr, 0, none⟩), t.val, .int .i64 how, .int .i64 ow, .string id] W fun e w' => e = .returned (.bool (goneP now how ow id t)) ∧ Fr [] W w' := by
  have hgl := hb.lt
  have hg0 := hb.cell 0
  simp at hg0
  clear hb
  unfold Tm.val
  match how, hh with
  | 0, _ =>
    by_cases e : t.o = ow
    · have e' : (t.o == ow) = true := by simp [e]
      go_enter Try.func31, Try.ntmps31
      go_wp2
      go_ret
      exact ⟨by simp [goneP, e], (Fr.refl _ _).alloc _⟩
    · have e' : (t.o == ow) = false := by simp [e]
      go_enter Try.func31, Try.ntmps31
      go_wp2
      go_ret
      exact ⟨by simp [goneP, e], (Fr.refl _ _).alloc _⟩
  | 1, _ =>
    by_cases e : t.o = ow
    · have e' : (t.o == ow) = true := by simp [e]
      go_enter Try.func31, Try.ntmps31
      go_wp2
      go_ret
      exact ⟨by simp [goneP, e], (Fr.refl _ _).alloc _⟩
    · have e' : (t.o == ow) = false := by simp [e]
      go_enter Try.func31, Try.ntmps31
      go_wp2
      go_ret
      exact ⟨by simp [goneP, e], (Fr.refl _ _).alloc _⟩
  | 2, _ =>
    go_enter Try.func31, Try.ntmps31
    go_wp2
    go_quiet (fail)
    go_wp2
    go_ret
    exact ⟨rfl, ((Fr.refl _ _).alloc _).drewN _⟩

def barr (l : List Bool) : Array Value := (l.map Value.bool).toArray
theorem barr_set (l : List Bool) (i : Nat) (v : Bool) : (barr l).setIfInBounds i (.bool v) = barr (l.set i v) := by simp [barr]
theorem barr_at (l : List Bool) (i : Nat) : (barr l)[i]? = l[i]?.map Value.bool := by simp [barr]
theorem info4 : (Try.prog.info? 4).map (fun i => (i.zero, i.size, i.bytes)) = some (some (.bool false), 1, 1) := by kernel_rfl
theorem run_make65 (w : World) (n : Nat) (hn : n ≤ 100000) : (Instr.makeSlice 65 (.int .i64 n) (.int .i64 n)).run Try.prog w = .ok (.slice (some ⟨w.heap.size, 0, none⟩) n n) (w.alloc (.cells (barr (List.replicate n false)) 4)) := by
  obtain ⟨i0, hi, hz0, hz1, hz2⟩ := info_parts info4
  have := run_make (P := Try.prog) w 65 4 i0 _ Try.underlying65 hi hz0 .i64 .i64 n n (by omega) (by omega) (by rw [hz2]; omega) (by omega)
  rw [this]
  have hz : madeCells (Value.bool false).cells n = barr (List.replicate n false) := by
    simp only [madeCells, barr, Value.cells]
    apply Array.ext
    · simp
    · intro i h1 h2; simp [Nat.mod_one]
  simp [hz1, hz]

/-- 'best' as the reference has it. -/
def encB : Option Nat → Value
  | none => .int .i64 (-1)
  | some b => .int .i64 b

def SortedPost (W : World) (ts : List Tm) (e : Ending) (w' : World) : Prop :=
  ∃ v' out, e = .returned v' ∧ Stable out ts ∧ w'.ownsRow W.heap.size 44 4 v' out.length (flat out) ∧ Fr [] W w'

theorem scan_lt (ts : List Tm) (used : List Bool) : ∀ (n b : Nat), scan ts used n = some b → b < n := by
  intro n
  induction n with
  | zero => intro b h; simp [scan] at h
  | succ n ih =>
    intro b h
    simp only [scan, better] at h
    split at h
    · have := ih b h; omega
    · split at h
      · injection h with h; omega
      · rename_i b0 hb0
        have := ih b0 hb0
        split at h <;> injection h with h <;> omega

/-- While Sorted goes: used, and what is out. -/
structure SortInv (W wr : World) (base bu : Nat) (ts : List Tm) (vo : Value) (is : List Nat) (used : List Bool) : Prop where
  sel : SelInv ts used is
  bu : Blk wr bu (barr used) 4
  own : wr.ownsRow base 44 4 vo is.length (flat (is.map fun i => ts[i]?.getD default))
  fr : Fr [] W wr

set_option maxRecDepth 100000 in
set_option maxHeartbeats 4000000 in
theorem sorted_any (W : World) (gr : Nat) (rb : Option Nat) (now : Int) (ts : List Tm) (hR : Rk W gr rb now ts) (hn : ts.length ≤ 1000) :
    Calls Try.prog 17 #[.pointer (some ⟨gr, 0, none⟩)] W (SortedPost W ts) := by
  obtain ⟨v, hgr, hr⟩ := hR
  obtain ⟨A, c, rfl, hfour⟩ := hr.slice'
  have hgl := hgr.lt
  have hg1 := hgr.cell 1
  simp at hg1
  have hmk := fun w => run_make65 w ts.length (by omega)
  have HF := Lib.hid hfour
  have HG := Lib.hid hgr
  clear hfour hr hgr
  have hst : SortInv W (W.alloc (.cells (barr (List.replicate ts.length false)) 4)) W.heap.size W.heap.size ts (.slice none 0 0) [] (List.replicate ts.length false) := ⟨SelInv.start ts, Blk.new W _ 4, World.ownsRow_nil _ _ _ _, (Fr.refl _ _).alloc _⟩
  go_enter Try.func17, Try.ntmps17
  go_wp2
  clear hmk
  go_loopg [3, 5, 6] ts.length (fun gg s3 _ _ wr => ∃ (vo : Value) (is : List Nat) (used : List Bool), ts.length - is.length ≤ gg ∧ s3 = vo ∧ Aside (SortInv W wr W.heap.size W.heap.size ts vo is used))
  case atStart => exact ⟨_, [], _, by omega, rfl, hst⟩
  case round =>
    obtain ⟨vo, is, used, hg, rfl, hinv⟩ := hrel
    obtain ⟨wo, rfl⟩ : ∃ wo : World, wo = wr := ⟨_, rfl⟩
    have hinv : SortInv _ _ _ _ _ _ _ _ := hinv
    obtain ⟨Ao, co, rfl⟩ := own_slice hinv.own
    have hgo : Blk wo gr _ 29 := HG.out.fr hinv.fr (by simp)
    have hgol := hgo.lt
    have hgo1 := hgo.cell 1
    simp at hgo1
    by_cases hlt : is.length < ts.length
    · have hltz : (is.length : Int) < (ts.length : Int) := by omega
      have hbl := hinv.bu.lt
      have hul := hinv.sel.len
      have HI := Lib.hid hinv
      go_wp2
      go_loopg [5, 6] ts.length (fun gg s5 s6 wr => ∃ k q : Nat, k ≤ ts.length ∧ ts.length - k ≤ gg ∧ s5 = encB (scan ts used k) ∧ s6 = .int .i64 k ∧ wr = wo.drewN q)
      case atStart => exact ⟨0, 0, by omega, by omega, rfl, rfl, rfl⟩
      case round =>
        obtain ⟨k, q, hk, hg2, rfl, rfl, rfl⟩ := hrel
        by_cases hk2 : k < ts.length
        · have hkz : (k : Int) < (ts.length : Int) := by omega
          have hu : used[k]? = some (used[k]'(by omega)) := List.getElem?_eq_getElem (by omega)
          have hcu := HI.out.bu.cell k
          rw [barr_at, hu] at hcu
          simp at hcu
          obtain ⟨g, rfl, f0, f1, f2, f3⟩ := HF.out k hk2
          have hgg : g < W.heap.size := World.block_lt_of_cell? W _ f0
          have hd : wo.cell? ⟨g, k * 4 + 2, none⟩ = some (.int .i64 ts[k].d) := by rw [← f2]; exact World.cell?_of_block (HI.out.fr.block g hgg (by simp))
          have hggo : g < wo.heap.size := by have := HI.out.fr.size; omega
          have hsc : scan ts used (k + 1) = better ts used (scan ts used k) k := rfl
          simp only [better, hu, Option.getD_some] at hsc
          generalize used[k]'(by omega) = uk at hcu hsc
          clear hu f0 f1 f2 f3
          cases uk with
          | true =>
            simp only [if_true] at hsc
            have HS := Lib.hid hsc
            clear hsc hd
            go_wp2
            go_quiet (fail)
            go_wp2
            go_roundg (ts.length - (k + 1))
            case measure => omega
            case rel => exact ⟨k + 1, _, by omega, Nat.le_refl _, by rw [HS.out], by go_num, rfl⟩
          | false =>
            simp only [Bool.false_eq_true, if_false] at hsc
            cases hb : scan ts used k with
            | none =>
              rw [hb] at hsc
              dsimp only at hsc
              have HS := Lib.hid hsc
              clear hsc hd hb
              unfold encB
              go_wp2
              go_quiet (fail)
              go_wp2
              go_roundg (ts.length - (k + 1))
              case measure => omega
              case rel => exact ⟨k + 1, _, by omega, Nat.le_refl _, by rw [HS.out]; rfl, by go_num, rfl⟩
            | some b =>
              have hbk := scan_lt ts used k b hb
              have hb2 : b < ts.length := by omega
              obtain ⟨g', e', f0, f1, f2, f3⟩ := HF.out b hb2
              injection e' with e'
              injection e' with e'
              subst e'
              have hdb : wo.cell? ⟨g, b * 4 + 2, none⟩ = some (.int .i64 ts[b].d) := by rw [← f2]; exact World.cell?_of_block (HI.out.fr.block g hgg (by simp))
              rw [hb] at hsc
              have ek : (ts[k]?.getD default).d = ts[k].d := by rw [List.getElem?_eq_getElem hk2]; rfl
              have eb : (ts[b]?.getD default).d = ts[b].d := by rw [List.getElem?_eq_getElem hb2]; rfl
              dsimp only at hsc
              rw [ek, eb] at hsc
              have hbz : (b : Int) < (ts.length : Int) := by omega
              clear f0 f1 f2 f3 ek eb hb
              generalize ts[k].d = dk at hd hsc
              generalize ts[b].d = db at hdb hsc
              unfold encB
              by_cases hdd : dk < db
              · rw [if_pos hdd] at hsc
                have HS := Lib.hid hsc
                have hdd' : decide (dk < db) = true := by simpa using hdd
                clear hsc
                go_wp2
                go_quiet (fail)
                go_wp2
                go_roundg (ts.length - (k + 1))
                case measure => omega
                case rel => exact ⟨k + 1, _, by omega, Nat.le_refl _, by rw [HS.out]; rfl, by go_num, rfl⟩
              · rw [if_neg hdd] at hsc
                have HS := Lib.hid hsc
                have hdd' : decide (dk < db) = false := by simpa using hdd
                clear hsc
                go_wp2
                go_quiet (fail)
                go_wp2
                go_roundg (ts.length - (k + 1))
                case measure => omega
                case rel => exact ⟨k + 1, _, by omega, Nat.le_refl _, by rw [HS.out]; rfl, by go_num, rfl⟩
        · have hkz : ¬ (k : Int) < (ts.length : Int) := by omega
          obtain rfl : k = ts.length := by omega
          obtain ⟨b, hb⟩ := HI.out.sel.more hlt
          obtain ⟨hbl2, hnb, hstep⟩ := HI.out.sel.step hb
          rw [hb]
          unfold encB
          have hbu : used[b]? = some (used[b]'(by omega)) := List.getElem?_eq_getElem (by omega)
          have hcu := HI.out.bu.cell b
          rw [barr_at, hbu] at hcu
          simp at hcu
          have hcf := HI.out.bu.free b
          obtain ⟨g, rfl, f0, f1, f2, f3⟩ := HF.out b hbl2
          have hgg : g < W.heap.size := World.block_lt_of_cell? W _ f0
          have hmv : ∀ i u, W.cell? ⟨g, i, none⟩ = some u → wo.cell? ⟨g, i, none⟩ = some u := fun i u h => by rw [← h]; exact World.cell?_of_block (HI.out.fr.block g hgg (by simp))
          have e0 := hmv _ _ f0
          have e1 := hmv _ _ f1
          have e2 := hmv _ _ f2
          have e3 := hmv _ _ f3
          have hggo : g < wo.heap.size := by have := HI.out.fr.size; omega
          have hbz : (b : Int) < (ts.length : Int) := by omega
          have hne1 : g ≠ W.heap.size := by omega
          have hne2 : gr ≠ W.heap.size := by omega
          have HST := Lib.hid hstep
          have HB := Lib.hid hb
          generalize used[b]'(by omega) = ub at hcu
          have hfs : Fr [W.heap.size] wo (((wo.drewN q).setCell ⟨W.heap.size, b, none⟩ (.bool true)).alloc (.cells #[.int .i64 ts[b].o, .string ts[b].i, .int .i64 ts[b].d, .int .i64 ts[b].n] 44)) := (((Fr.refl [W.heap.size] wo).drewN q).setCell (by simp) _).alloc _
          have hown1 := own_fr HI.out.own hfs (fun x hx => by
            obtain ⟨d, hd⟩ := own_blk HI.out.own x hx
            simp
            exact hd.ne HI.out.bu (by decide))
          have hbu1 : Blk (((wo.drewN q).setCell ⟨W.heap.size, b, none⟩ (.bool true)).alloc (.cells #[.int .i64 ts[b].o, .string ts[b].i, .int .i64 ts[b].d, .int .i64 ts[b].n] 44)) W.heap.size (barr (used.set b true)) 4 := by
            rw [← barr_set]
            exact ((show Blk (wo.drewN q) _ _ _ from HI.out.bu).set b (.bool true)).alloc _
          have hbt : Blk (((wo.drewN q).setCell ⟨W.heap.size, b, none⟩ (.bool true)).alloc (.cells #[.int .i64 ts[b].o, .string ts[b].i, .int .i64 ts[b].d, .int .i64 ts[b].n] 44)) wo.heap.size ts[b].cells.toArray 44 := by
            simpa [World.setCell, Tm.cells] using Blk.new ((wo.drewN q).setCell ⟨W.heap.size, b, none⟩ (.bool true)) #[.int .i64 ts[b].o, .string ts[b].i, .int .i64 ts[b].d, .int .i64 ts[b].n] 44
          have hcells := tm_cells_at hbt
          have honec := one_cells ts[b]
          obtain ⟨i0, hi, hz0, hz1, hz2⟩ := info_parts info44
          have HBU := Lib.hid hbu1
          have HFS := Lib.hid hfs
          clear hstep hb hbu hmv f0 f1 f2 f3 hinv hbt hfs hbu1
          go_wp2_with (at_builtin; refine wpList_append_own _ rfl _ _ 27 rfl W.heap.size 44 i0 _ 4 40 Try.underlying27 hi hz0 hz1 hz2 rfl (by decide) _ _ _ rfl hown1 ⟨wo.heap.size, 0, none⟩ 1 1 ts[b].cells rfl rfl hcells honec ?c4 ?c5 ?c6 ?_)
          case c4 => unfold maxLen; omega
          case c5 => omega
          case c6 => have := HI.out.fr.size; simp [World.setCell]; omega
          intro v' w5 hown' hgrow _
          obtain ⟨A5, c5, rfl⟩ := own_slice hown'
          have hrowb := World.ownsRow.lt hown1
          have HO := Lib.hid hown'
          have HGR := Lib.hid hgrow
          have HRB := Lib.hid hrowb
          clear hown' hgrow hrowb hown1 hcells honec
          go_wp2
          go_roundg (ts.length - (is.length + 1))
          case measure => omega
          case rel =>
            have hg5 := Fr.of_grown (S := (Value.slice Ao is.length co).ownBlock.toList) HGR.out (fun k hk _ => by simp [hk])
            refine ⟨_, is ++ [b], used.set b true, by simp, rfl, (show SortInv _ _ _ _ _ _ _ _ from ⟨HST.out, HBU.out.fr hg5 (fun hm => ?_), ?_, ?_⟩)⟩
            · obtain ⟨d, hd⟩ := own_blk HI.out.own W.heap.size (by simpa [eq_comm] using hm)
              exact (hd.ne HI.out.bu (by decide)) rfl
            · have h1 := HO.out
              have ebt : ts[b]?.getD default = ts[b] := by rw [List.getElem?_eq_getElem hbl2]; rfl
              simpa [ebt] using h1
            · refine HI.out.fr.trans ((HFS.out.wide (T := W.heap.size :: (Value.slice Ao is.length co).ownBlock.toList) (by simp)).trans hg5 (fun x hx _ => List.mem_cons_of_mem _ hx)) (fun x hx hxl => ?_)
              rcases List.mem_cons.1 hx with rfl | hx
              · omega
              · have := (HRB.out x (by simpa [eq_comm] using hx)).1; omega
    · have hltz : ¬ (is.length : Int) < (ts.length : Int) := by omega
      go_wp2
      go_ret
      exact ⟨_, _, rfl, hinv.sel.stable (by omega), by simpa using hinv.own, hinv.fr⟩
end Go.Proofs.Ytifjablnplpfnaa
