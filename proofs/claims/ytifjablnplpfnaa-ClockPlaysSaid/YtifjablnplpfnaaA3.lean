/- take's closure: what it drops goes to 'out'. -/
import Derived.Test.YtifjablnplpfnaaA2
set_option linter.unusedVariables false
set_option linter.unusedSimpArgs false
namespace Go.Proofs.Ytifjablnplpfnaa
open Go.RowKit Go.Lib

theorem info3 : (Try.prog.info? 3).map (fun i => (i.zero, i.size, i.bytes)) = some (some (.int .i64 0), 1, 8) := by kernel_rfl

/-- The variable in block bo holds the slice vo, a row of ints of its own from block 'base' on. -/
structure OutV (w : World) (base bo : Nat) (vo : Value) (ns : List Int) : Prop where
  blk : Blk w bo #[vo] 32
  own : w.ownsRow base 3 1 vo ns.length (ns.map (Value.int .i64))

/-- What a call of take's closure comes to. -/
def TakePost (base bo : Nat) (vo : Value) (ns : List Int) (W : World) (r : Bool) (n : Int) (e : Ending) (w' : World) : Prop :=
  e = .returned (.bool r) ∧ ∃ vo', OutV w' base bo vo' (if r then ns ++ [n] else ns) ∧ Fr (bo :: vo.ownBlock.toList) W w'

set_option maxHeartbeats 1000000 in
theorem take1_any (fv : Nat) (lb : Array Value) (p : Tm → Bool) (L : List (Nat × Array Value × TypeId)) (hp : GoneOK fv lb p L)
    (bg bo base : Nat) (vo : Value) (ns : List Int) (t : Tm) (W : World) (hL : Blks W L) (hg : Blk W bg #[.func (.func fv) #[] lb] 67)
    (ho : OutV W base bo vo ns) (hbase : base ≤ W.heap.size) (hbo : bo < base) (hn : ns.length ≤ 1000000) :
    Calls Try.prog 33 #[t.val, .pointer (some ⟨bg, 0, none⟩), .pointer (some ⟨bo, 0, none⟩)] W (TakePost base bo vo ns W (p t) t.n) := by
  obtain ⟨eg, hcall⟩ := hp
  have hgl : bg < W.heap.size := hg.lt
  have hol : bo < W.heap.size := ho.blk.lt
  have hgc := hg.cell 0
  have hoc := ho.blk.cell 0
  simp at hgc hoc
  have hcall1 := hcall t (W.alloc (.cells #[.int .i64 t.o, .string t.i, .int .i64 t.d, .int .i64 t.n] 44)) (hL.fr ((Fr.refl [] W).alloc _) (by simp))
  clear hcall hL hg
  obtain ⟨i0, hi, hz0, hz1, hz2⟩ := info_parts info3
  unfold Tm.val at hcall1 ⊢
  have hl := ho.own.lt
  cases hq : p t with
  | false =>
    rw [hq] at hcall1
    go_enter Try.func33, Try.ntmps33
    go_wp2_with (go_at_fn fv; refine hcall1.mono ?_; rintro e w' ⟨rfl, hf⟩)
    go_ret
    have hfr : Fr [] W w' := ((Fr.refl [] W).alloc _).trans' hf
    exact ⟨rfl, vo, ⟨ho.blk.fr hfr (by simp), own_fr ho.own hfr (by simp)⟩, hfr.nil⟩
  | true =>
    rw [hq] at hcall1
    go_enter Try.func33, Try.ntmps33
    go_wp2_with fail
    refine hcall1.mono ?_
    rintro e w' ⟨rfl, hf⟩
    have hfr : Fr [] W w' := ((Fr.refl [] W).alloc _).trans' hf
    have hown := own_fr ho.own hfr (by simp)
    have hblk := ho.blk.fr hfr (by simp)
    have hol1 := hblk.lt
    have hoc1 := hblk.cell 0
    have hof1 := hblk.free 0
    have htb := (Blk.new W #[.int .i64 t.o, .string t.i, .int .i64 t.d, .int .i64 t.n] 44).fr hf (by simp)
    have htl := htb.lt
    have ht3 := htb.cell 3
    simp at hoc1 ht3
    have hs1 := hfr.size
    go_wp2_with (at_builtin; refine wpList_append_own _ rfl _ _ 32 rfl base 3 i0 (.int .i64 0) 1 8 Try.underlying32 hi hz0 hz1 hz2 rfl (by decide) _ _ _ rfl (hown.alloc _) ⟨w'.heap.size, 0, none⟩ 1 1 [.int .i64 t.n] rfl rfl ?c1 ?c2 ?c3 ?c4 ?c5 ?_)
    case c1 => intro j u hj; match j with | 0 => simp at hj; subst hj; simp [Addr.add] | j + 1 => simp at hj
    case c2 => intro u hu; simp at hu; subst hu; rfl
    case c3 => unfold maxLen; omega
    case c4 => omega
    case c5 => simp; omega
    intro v' w1 hown' hgrow _
    obtain ⟨A', c', rfl⟩ := own_slice hown'
    have hne : some bo ≠ vo.ownBlock := fun e => by have := hl bo e.symm; omega
    have hfr1 : Fr (vo.ownBlock.toList) (w'.alloc (.cells #[.int .i64 t.n] 3)) w1 := Fr.of_grown hgrow (fun k hk _ => by simp [hk])
    have hblk1 := (hblk.alloc (.cells #[.int .i64 t.n] 3)).fr hfr1 (by simpa [eq_comm] using hne)
    have hol2 := hblk1.lt
    have hoc2 := hblk1.cell 0
    have hof2 := hblk1.free 0
    simp at hoc2
    go_wp2
    go_ret
    refine ⟨rfl, _, ⟨by simpa using hblk1.set 0 (.slice A' _ c'), ?_⟩, ?_⟩
    · have hk := own_fr hown' (Fr.setCell (Fr.refl [bo] w1) (p := ⟨bo, 0, none⟩) (by simp) (.slice A' (ns.length + 1) c')) (fun k hk => by have := (hown'.lt k hk).1; simp; omega)
      simpa using hk
    · have h1 : Fr (bo :: vo.ownBlock.toList) W w1 := (hfr.alloc (.cells #[.int .i64 t.n] 3)).nil.trans hfr1 (by simp_all)
      exact h1.setCell (by simp) _
end Go.Proofs.Ytifjablnplpfnaa
