/- Finished. -/
import Derived.Test.YtekfbafljilchaaD1
import Derived.Test.YtekfbafljilchaaB2
set_option linter.unusedVariables false
set_option linter.unusedSimpArgs false
namespace Go.Proofs.Ytekfbafljilchaa
open Go.RowKit Go.Lib

def finF (c : DChart) (cfg : List Int) : Nat → Nat → Bool
  | 0, _ => false
  | f + 1, a => if compB c (a : Int) then (kidsOf c a).any (fun x => knd c x.toNat == 3 && has cfg x) else if knd c a ≠ 2 ∨ (kidsOf c a).length = 0 then false else !((kidsOf c a).any fun x => !finF c cfg f x.toNat)
def finB (c : DChart) (cfg : List Int) (a : Int) : Bool := isSt c a && finF c cfg (ns c) a.toNat

set_option maxRecDepth 100000 in
set_option maxHeartbeats 4000000 in
theorem fin_closure1 (W : World) (g : Nat) (c : DChart) (cfg : List Int) (A : Option Addr) (d : Nat) (bl bc : Nat) (tl tc : TypeId) (hL : Lat (fun _ => True) W g c) (hC : Sl rInt (fun _ => True) W (.slice A cfg.length d) cfg)
    (hbl : Blk W bl #[.pointer (some ⟨g, 0, none⟩)] tl) (hbc : Blk W bc #[.slice A cfg.length d] tc) (l : List Int) (hl : ∀ x, x ∈ l → isSt c x = true) :
    Says 80 #[.pointer (some ⟨bl, 0, none⟩), .pointer (some ⟨bc, 0, none⟩)] (fun x => knd c x.toNat == 3 && has cfg x) l W := by
  refine ⟨enters_of Try.func80 (by kernel_rfl) rfl, fun x hx W' f => ?_⟩
  obtain ⟨a, rfl, ha⟩ := isSt_true (hl x hx)
  have hL' := hL.on f
  have hC' := hC.fr (q := fun _ => True) (fun k _ hk => ⟨trivial, f.block k hk (by simp)⟩)
  have kl := (hbl.fr f (by simp)).cell 0
  have kc := (hbc.fr f (by simp)).cell 0
  simp at kl kc
  obtain ⟨As, cs, At, ct, Aa, ca, Ak, ck, hLC⟩ := hL'.open_
  have h3 := hLC.s
  have hg := hL'.lt
  obtain ⟨gs, os, rfl, k1, _⟩ := hLC.st ha
  have ha0 : (0 : Int) ≤ (a : Int) := by omega
  have haz : (a : Int) < (c.states.length : Int) := by omega
  have hcn := contains_any cfg (a : Int) (fun _ => True) A d W' hC'
  show Calls Try.prog 80 #[.int .i64 a, .pointer (some ⟨bl, 0, none⟩), .pointer (some ⟨bc, 0, none⟩)] W' _
  show Calls Try.prog 80 _ W' fun e w' => e = .returned (.bool (knd c a == 3 && has cfg a)) ∧ Fr [] W' w'
  clear hLC hL hL' hbl hbc hx hl hC hC'
  cases h3k : (knd c a == 3) with
  | false =>
    clear hcn
    go_enter Try.func80, Try.ntmps80
    go_wp2
    go_ret
    exact ⟨rfl, Fr.refl _ _⟩
  | true =>
    simp only [Bool.true_and]
    go_enter Try.func80, Try.ntmps80
    go_wp2_with fail
    refine hcn.mono ?_
    rintro e w' ⟨rfl, rfl⟩
    go_wp2
    go_ret
    exact ⟨rfl, Fr.refl _ _⟩
end Go.Proofs.Ytekfbafljilchaa

/- Finished: by recursion over how many states lie behind a state. -/
set_option linter.unusedVariables false
set_option linter.unusedSimpArgs false
namespace Go.Proofs.Ytekfbafljilchaa
open Go.RowKit Go.Lib

theorem Blk.newAt {w : World} {n : Nat} {c : Array Value} {t : TypeId} (h : w.heap.size = n) : Blk (w.alloc (.cells c t)) n c t := h ▸ Blk.new w c t
theorem sizeAt {w : World} {n : Nat} {o : Obj} (h : w.heap.size = n) : (w.alloc o).heap.size = n + 1 := by simp [h]

/-- What Finished answers, from states that have fewer than f states behind them. -/
def FinUpto (c : DChart) (cfg : List Int) (f : Nat) : Prop :=
  ∀ (W : World) (g a : Nat) (A : Option Addr) (d : Nat), a < ns c → ns c - a ≤ f → Lat (fun _ => True) W g c → Sl rInt (fun _ => True) W (.slice A cfg.length d) cfg →
    Calls Try.prog 38 #[.pointer (some ⟨g, 0, none⟩), .slice A cfg.length d, .int .i64 a] W fun e w' => e = .returned (.bool (finF c cfg f a)) ∧ Fr [] W w'

set_option maxRecDepth 100000 in
set_option maxHeartbeats 4000000 in
theorem fin_closure2 (f : Nat) (W : World) (g : Nat) (c : DChart) (cfg : List Int) (ih : FinUpto c cfg f) (A : Option Addr) (d : Nat) (bl bc : Nat) (tl tc : TypeId) (hL : Lat (fun _ => True) W g c) (hC : Sl rInt (fun _ => True) W (.slice A cfg.length d) cfg)
    (hbl : Blk W bl #[.pointer (some ⟨g, 0, none⟩)] tl) (hbc : Blk W bc #[.slice A cfg.length d] tc) (l : List Int) (hl : ∀ x, x ∈ l → ∃ a : Nat, x = (a : Int) ∧ a < ns c ∧ ns c - a ≤ f) :
    Says 81 #[.pointer (some ⟨bl, 0, none⟩), .pointer (some ⟨bc, 0, none⟩)] (fun x => !finF c cfg f x.toNat) l W := by
  refine ⟨enters_of Try.func81 (by kernel_rfl) rfl, fun x hx W' f' => ?_⟩
  obtain ⟨a, rfl, ha, haf⟩ := hl x hx
  have hL' := hL.on f'
  have hC' := hC.fr (q := fun _ => True) (fun k _ hk => ⟨trivial, f'.block k hk (by simp)⟩)
  have kl := (hbl.fr f' (by simp)).cell 0
  have kc := (hbc.fr f' (by simp)).cell 0
  simp at kl kc
  have hcall := ih W' g a A d ha haf hL' hC'
  show Calls Try.prog 81 #[.int .i64 a, .pointer (some ⟨bl, 0, none⟩), .pointer (some ⟨bc, 0, none⟩)] W' _
  show Calls Try.prog 81 _ W' fun e w' => e = .returned (.bool (!finF c cfg f a)) ∧ Fr [] W' w'
  generalize finF c cfg f a = z at *
  clear hL hL' hbl hbc hx hl hC hC' ih haf
  go_enter Try.func81, Try.ntmps81
  go_wp2_with fail
  refine hcall.mono ?_
  rintro e w' ⟨rfl, f1⟩
  go_wp2
  go_ret
  exact ⟨rfl, f1⟩

theorem Tree.kid_far {c : DChart} (T : Tree c) {a f : Nat} (haf : ns c - a ≤ f + 1) {x : Int} (h : x ∈ kidsOf c a) : ∃ b : Nat, x = (b : Int) ∧ b < ns c ∧ ns c - b ≤ f := by
  obtain ⟨k, rfl, h1, h2, h3, _⟩ := mem_kids.1 h
  have := T.up_lt h2 h1
  exact ⟨k, rfl, h1, by omega⟩

set_option maxRecDepth 100000 in
set_option maxHeartbeats 16000000 in
theorem fin_upto (c : DChart) (cfg : List Int) (T : Tree c) : ∀ f, FinUpto c cfg f := by
  intro f
  induction f with
  | zero => intro W g a A d ha haf; omega
  | succ f ih =>
    intro W g a A d ha haf hL hC
    have IH := Lib.hid ih
    have HL := Lib.hid hL
    have HC := Lib.hid hC
    have HT := Lib.hid T
    have hg := hL.lt
    have lC := hC.len
    have hf0 := Lib.hid (((Fr.refl [] W).alloc (.cells #[.pointer (some ⟨g, 0, none⟩)] 36)).alloc (.cells #[.slice A cfg.length d] 29))
    have hL2 := Lib.hid (hL.on hf0.out)
    have hC2 := Lib.hid (hC.fr (q := fun _ => True) fun k _ hk => ⟨trivial, hf0.out.block k hk (by simp)⟩)
    have hb1 := Lib.hid ((Blk.new W #[.pointer (some ⟨g, 0, none⟩)] 36).alloc (.cells #[.slice A cfg.length d] 29))
    have hb2 : Hid (Blk ((W.alloc (.cells #[.pointer (some ⟨g, 0, none⟩)] 36)).alloc (.cells #[.slice A cfg.length d] 29)) (W.heap.size + 1) #[.slice A cfg.length d] 29) := Lib.hid (Blk.newAt (sizeAt rfl))
    have hst := state_any _ g c (a : Int) hL2.out
    have hcm := compound_any _ g c (a : Int) hL2.out
    obtain ⟨As, cs, At, ct, Aa, ca, Ak, ck, h⟩ := hL2.out.open_
    have lS := h.S.len
    have g3 := h.s
    have g9 := h.k
    obtain ⟨gs, os, rfl, ks, _⟩ := h.st ha
    obtain ⟨gk, ok, Bk, dk, rfl, kc, hks⟩ := h.kd ha
    have hkl := kids_len (c := c) a
    have HKS := Lib.hid hks
    have hfar : Hid (∀ x, x ∈ kidsOf c a → ∃ b : Nat, x = (b : Int) ∧ b < ns c ∧ ns c - b ≤ f) := Lib.hid (fun x hx => T.kid_far haf hx)
    have hst' : isSt c (a : Int) = true := isSt_nat ha
    rw [hst'] at hst
    have haz : (a : Int) < (c.states.length : Int) := by
      have : a < c.states.length := ha
      omega
    have ha0 : (0 : Int) ≤ (a : Int) := by omega
    have hs1 := containsFunc 80 #[.pointer (some ⟨W.heap.size, 0, none⟩), .pointer (some ⟨W.heap.size + 1, 0, none⟩)] _ (kidsOf c a) (fun _ => True) Bk dk _ HKS.out (fin_closure1 _ g c cfg A d W.heap.size (W.heap.size + 1) 36 29 hL2.out hC2.out hb1.out hb2.out (kidsOf c a) (fun x hx => by obtain ⟨b, rfl, hb, _⟩ := hfar.out x hx; exact isSt_nat hb))
    have hs2 := containsFunc 81 #[.pointer (some ⟨W.heap.size, 0, none⟩), .pointer (some ⟨W.heap.size + 1, 0, none⟩)] _ (kidsOf c a) (fun _ => True) Bk dk _ HKS.out (fin_closure2 f _ g c cfg IH.out A d W.heap.size (W.heap.size + 1) 36 29 hL2.out hC2.out hb1.out hb2.out (kidsOf c a) hfar.out)
    clear hL hC T ih h hks hst'
    cases hcb : compB c (a : Int) with
    | true =>
      have HZ : Hid (finF c cfg (f + 1) a = (kidsOf c a).any (fun x => knd c x.toNat == 3 && has cfg x)) := Lib.hid (by simp only [finF, hcb, if_true])
      rw [hcb] at hcm
      generalize (kidsOf c a).any (fun x => knd c x.toNat == 3 && has cfg x) = z at *
      clear hs2 hcb
      go_enter Try.func38, Try.ntmps38
      go_wp2_with fail
      refine hst.mono ?_
      rintro e w' ⟨rfl, rfl⟩
      go_wp2_with fail
      refine hcm.mono ?_
      rintro e w' ⟨rfl, rfl⟩
      go_wp2_with fail
      refine hs1.mono ?_
      rintro e w' ⟨rfl, f1⟩
      go_wp2
      go_ret
      exact ⟨by rw [HZ.out]; rfl, hf0.out.trans' f1⟩
    | false =>
      rw [hcb] at hcm
      by_cases hk2 : knd c a = 2
      · by_cases hn0 : (kidsOf c a).length = 0
        · have HZ : Hid (finF c cfg (f + 1) a = false) := Lib.hid (by simp [finF, hcb, hn0])
          have hk2b : (knd c a != 2) = false := by simp [hk2]
          have hnb : (((kidsOf c a).length : Int) == 0) = true := by simp [hn0]
          clear hs1 hs2 hcb hk2
          have HN := Lib.hid hn0
          clear hn0
          go_enter Try.func38, Try.ntmps38
          go_wp2_with fail
          refine hst.mono ?_
          rintro e w' ⟨rfl, rfl⟩
          go_wp2_with fail
          refine hcm.mono ?_
          rintro e w' ⟨rfl, rfl⟩
          go_wp2
          go_ret
          exact ⟨by rw [HZ.out]; rfl, hf0.out⟩
        · have HZ : Hid (finF c cfg (f + 1) a = !((kidsOf c a).any fun x => !finF c cfg f x.toNat)) := Lib.hid (by simp [finF, hcb, hn0, hk2])
          have hk2b : (knd c a != 2) = false := by simp [hk2]
          have hnb : (((kidsOf c a).length : Int) == 0) = false := by
            have : ((kidsOf c a).length : Int) ≠ 0 := by omega
            simpa using this
          generalize ((kidsOf c a).any fun x => !finF c cfg f x.toNat) = z at *
          clear hs1 hcb hk2 hn0
          go_enter Try.func38, Try.ntmps38
          go_wp2_with fail
          refine hst.mono ?_
          rintro e w' ⟨rfl, rfl⟩
          go_wp2_with fail
          refine hcm.mono ?_
          rintro e w' ⟨rfl, rfl⟩
          go_wp2_with fail
          refine hs2.mono ?_
          rintro e w' ⟨rfl, f1⟩
          go_wp2
          go_ret
          exact ⟨by rw [HZ.out]; rfl, hf0.out.trans' f1⟩
      · have HZ : Hid (finF c cfg (f + 1) a = false) := Lib.hid (by simp [finF, hcb, hk2])
        have hk2b : (knd c a != 2) = true := by simpa using hk2
        clear hs1 hs2 hcb hk2
        go_enter Try.func38, Try.ntmps38
        go_wp2_with fail
        refine hst.mono ?_
        rintro e w' ⟨rfl, rfl⟩
        go_wp2_with fail
        refine hcm.mono ?_
        rintro e w' ⟨rfl, rfl⟩
        go_wp2
        go_ret
        exact ⟨by rw [HZ.out]; rfl, hf0.out⟩

set_option maxRecDepth 100000 in
set_option maxHeartbeats 4000000 in
theorem finished_any (W : World) (g : Nat) (c : DChart) (cfg : List Int) (a : Int) (A : Option Addr) (d : Nat) (q : Nat → Prop) (T : Tree c) (hC : Sl rInt q W (.slice A cfg.length d) cfg) (hL : Lat (fun _ => True) W g c) :
    Calls Try.prog 38 #[.pointer (some ⟨g, 0, none⟩), .slice A cfg.length d, .int .i64 a] W fun e w' => e = .returned (.bool (finB c cfg a)) ∧ Fr [] W w' := by
  cases hs : isSt c a with
  | true =>
    obtain ⟨b, rfl, hb⟩ := isSt_true hs
    have e : finB c cfg (b : Int) = finF c cfg (ns c) b := by simp [finB, hs]
    rw [e]
    exact fin_upto c cfg T (ns c) W g b A d hb (by omega) hL (hC.fr (fun k _ hk => ⟨trivial, rfl⟩))
  | false =>
    have hf0 := Lib.hid (((Fr.refl [] W).alloc (.cells #[.pointer (some ⟨g, 0, none⟩)] 36)).alloc (.cells #[.slice A cfg.length d] 29))
    have hst := state_any _ g c a (hL.on hf0.out)
    have HZ : Hid (finB c cfg a = false) := Lib.hid (by simp [finB, hs])
    have hg := hL.lt
    rw [hs] at hst
    clear hL hC T hs
    go_enter Try.func38, Try.ntmps38
    go_wp2_with fail
    refine hst.mono ?_
    rintro e w' ⟨rfl, rfl⟩
    go_wp2
    go_ret
    exact ⟨by rw [HZ.out]; rfl, hf0.out⟩
end Go.Proofs.Ytekfbafljilchaa
