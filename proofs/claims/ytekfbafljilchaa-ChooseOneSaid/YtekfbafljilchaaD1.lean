/- slices.IndexFunc, ContainsFunc, Index, Contains, Equal at whole numbers. -/
import Derived.Test.YtekfbafljilchaaA4
import Derived.Shelf.Abstract
import Derived.Test.YtekfbafljilchaaB2
set_option linter.unusedVariables false
set_option linter.unusedSimpArgs false
namespace Go.Proofs.Ytekfbafljilchaa
open Go.RowKit Go.Lib

/-- A function value that says p of each number of l, and turns nothing old. -/
def Says (fv : Nat) (lb : Array Value) (p : Int → Bool) (l : List Int) (W : World) : Prop :=
  (∀ args w, (callFunc fv args).run Try.prog w = .ok (.enter fv args) w) ∧
  ∀ x, x ∈ l → ∀ W', Fr [] W W' → Calls Try.prog fv (#[.int .i64 x] ++ lb) W' fun e w' => e = .returned (.bool (p x)) ∧ Fr [] W' w'

/-- What IndexFunc answers. -/
def IdxPost (p : Int → Bool) (l : List Int) (W : World) (e : Ending) (w' : World) : Prop :=
  ∃ r : Int, e = .returned (.int .i64 r) ∧ (decide (0 ≤ r) = l.any p) ∧ Fr [] W w'

theorem any_take_succ {α : Type} (p : α → Bool) (l : List α) (k : Nat) (h : k < l.length) : (l.take (k + 1)).any p = ((l.take k).any p || p l[k]) := by
  rw [List.take_succ_eq_append_getElem h, List.any_append]
  simp
theorem any_of_at {α : Type} (p : α → Bool) (l : List α) (k : Nat) (h : k < l.length) (hp : p l[k] = true) : l.any p = true := List.any_eq_true.2 ⟨_, List.getElem_mem h, hp⟩

set_option maxHeartbeats 1000000 in
theorem indexFunc (fv : Nat) (lb : Array Value) (p : Int → Bool) (l : List Int) (q : Nat → Prop) (A : Option Addr) (c : Nat) (W : World) (hS : Sl rInt q W (.slice A l.length c) l) (hf : Says fv lb p l W) :
    Calls Try.prog 106 #[.slice A l.length c, .func (.func fv) #[] lb] W (IdxPost p l W) := by
  have hlen := hS.len
  have eg := hf.1
  have HF := Lib.hid hf.2
  have HS := Lib.hid hS
  clear hf hS
  go_enter Try.func106, Try.ntmps106
  go_wp2
  go_loopg [8] l.length (fun gg s8 wr => ∃ k : Nat, k ≤ l.length ∧ l.length - k ≤ gg ∧ s8 = .int .i64 k ∧ Aside (Fr [] W wr) ∧ Aside ((l.take k).any p = false))
  case atStart => exact ⟨0, Nat.zero_le _, by omega, rfl, Fr.refl _ _, (show (l.take 0).any p = false by simp)⟩
  case round =>
    obtain ⟨k, hk, hg, rfl, hfr, hno⟩ := hrel
    by_cases hlt : k < l.length
    · have hltz : (k : Int) < (l.length : Int) := by omega
      obtain ⟨g, o, rfl, _, hgl, hc⟩ := HS.out.int_at k hlt
      have hcw : wr.cell? ⟨g, o + k, none⟩ = some (.int .i64 l[k]) := (World.cell?_of_block (hfr.out.block g hgl (by simp))).trans hc
      have hcall := HF.out l[k] (List.getElem_mem hlt) wr hfr.out
      have hsn := Lib.hid (any_take_succ p l k hlt)
      have hat := Lib.hid (any_of_at p l k hlt)
      clear hc
      generalize l[k] = y at *
      cases hq : p y with
      | true =>
        rw [hq] at hcall
        have hany := Lib.hid (hat.out hq)
        clear hq
        go_wp2_with (go_at_fn fv; refine hcall.mono ?_; rintro e w' ⟨rfl, hb'⟩)
        go_ret
        exact ⟨k, rfl, by rw [hany.out]; simp, hfr.out.trans' hb'⟩
      | false =>
        rw [hq] at hcall
        have hany := Lib.hid hq
        clear hq
        go_wp2_with (go_at_fn fv; refine hcall.mono ?_; rintro e w' ⟨rfl, hb'⟩)
        go_roundg (l.length - (k + 1))
        case measure => omega
        case rel => exact ⟨k + 1, by omega, by omega, by go_num, hfr.out.trans' hb', by show Aside _; exact (by rw [hsn.out, hno.out, hany.out]; rfl : (l.take (k + 1)).any p = false)⟩
    · have hltz : ¬ (k : Int) < (l.length : Int) := by omega
      have : k = l.length := by omega
      subst this
      have hno' : l.any p = false := by have := hno.out; rwa [List.take_length] at this
      have HN := Lib.hid hno'
      clear hno'
      go_wp2
      go_ret
      exact ⟨-1, rfl, by rw [HN.out]; decide, hfr.out⟩

theorem containsFunc (fv : Nat) (lb : Array Value) (p : Int → Bool) (l : List Int) (q : Nat → Prop) (A : Option Addr) (c : Nat) (W : World) (hS : Sl rInt q W (.slice A l.length c) l) (hf : Says fv lb p l W) :
    Calls Try.prog 61 #[.slice A l.length c, .func (.func fv) #[] lb] W fun e w' => e = .returned (.bool (l.any p)) ∧ Fr [] W w' := by
  have hI := indexFunc fv lb p l q A c W hS hf
  clear hS hf
  go_enter Try.func61, Try.ntmps61
  go_wp2_with fail
  refine hI.mono ?_
  intro e w' h
  obtain ⟨r, rfl, hr, hfr⟩ := h
  have HR := Lib.hid hr
  clear hr hI
  go_wp2
  go_ret
  exact ⟨by rw [← HR.out]; rfl, hfr⟩

/-- What Index answers. -/
def IdxSame (p : Int → Bool) (l : List Int) (W : World) (e : Ending) (w' : World) : Prop :=
  ∃ r : Int, e = .returned (.int .i64 r) ∧ (decide (0 ≤ r) = l.any p) ∧ W = w'
set_option maxHeartbeats 1000000 in
theorem index_any (l : List Int) (x : Int) (q : Nat → Prop) (A : Option Addr) (c : Nat) (W : World) (hS : Sl rInt q W (.slice A l.length c) l) :
    Calls Try.prog 100 #[.slice A l.length c, .int .i64 x] W (IdxSame (fun y => x == y) l W) := by
  have hlen := hS.len
  have HS := Lib.hid hS
  clear hS
  go_enter Try.func100, Try.ntmps100
  go_wp2
  go_loopg [8] l.length (fun gg s8 wr => ∃ k : Nat, k ≤ l.length ∧ l.length - k ≤ gg ∧ s8 = .int .i64 k ∧ wr = W ∧ Aside ((l.take k).any (fun y => x == y) = false))
  case atStart => exact ⟨0, Nat.zero_le _, by omega, rfl, rfl, (show (l.take 0).any (fun y => x == y) = false by simp)⟩
  case round =>
    obtain ⟨k, hk, hg, rfl, rfl, hno⟩ := hrel
    by_cases hlt : k < l.length
    · have hltz : (k : Int) < (l.length : Int) := by omega
      obtain ⟨g, o, rfl, _, hgl, hc⟩ := HS.out.int_at k hlt
      have hsn := Lib.hid (any_take_succ (fun y => x == y) l k hlt)
      have hat := Lib.hid (any_of_at (fun y => x == y) l k hlt)
      generalize l[k] = y at *
      cases hq : (x == y) with
      | true =>
        have hany := Lib.hid (hat.out hq)
        go_wp2
        go_ret
        exact ⟨k, rfl, by rw [hany.out]; simp, rfl⟩
      | false =>
        have hany := Lib.hid hq
        go_wp2
        go_roundg (l.length - (k + 1))
        case measure => omega
        case rel => exact ⟨k + 1, by omega, by omega, by go_num, rfl, by show Aside _; exact (by rw [hsn.out, hno.out, hany.out]; rfl : (l.take (k + 1)).any (fun y => x == y) = false)⟩
    · have hltz : ¬ (k : Int) < (l.length : Int) := by omega
      have : k = l.length := by omega
      subst this
      have hno' : l.any (fun y => x == y) = false := by have := hno.out; rwa [List.take_length] at this
      have HN := Lib.hid hno'
      clear hno'
      go_wp2
      go_ret
      exact ⟨-1, rfl, by rw [HN.out]; decide, rfl⟩

/-- Is a number among these? -/
def has (l : List Int) (x : Int) : Bool := l.any (fun y => x == y)
theorem has_iff {l : List Int} {x : Int} : has l x = true ↔ x ∈ l := by
  simp [has]
theorem contains_any (l : List Int) (x : Int) (q : Nat → Prop) (A : Option Addr) (c : Nat) (W : World) (hS : Sl rInt q W (.slice A l.length c) l) :
    Calls Try.prog 56 #[.slice A l.length c, .int .i64 x] W fun e w' => e = .returned (.bool (has l x)) ∧ W = w' := by
  have hI := index_any l x q A c W hS
  clear hS
  go_enter Try.func56, Try.ntmps56
  go_wp2_with fail
  refine hI.mono ?_
  intro e w' h
  obtain ⟨r, rfl, hr, rfl⟩ := h
  have HR := Lib.hid hr
  clear hr hI
  go_wp2
  go_ret
  exact ⟨by unfold has; rw [← HR.out]; rfl, rfl⟩

/-- The first k are alike. -/
def Alike (k : Nat) (a b : List Int) : Prop := a.take k = b.take k
theorem alike_succ {a b : List Int} {k : Nat} (h : Alike k a b) (ha : k < a.length) (hb : k < b.length) (e : a[k] = b[k]) : Alike (k + 1) a b := by
  unfold Alike at *
  rw [List.take_succ_eq_append_getElem ha, List.take_succ_eq_append_getElem hb, h, e]
set_option maxHeartbeats 1000000 in
theorem equal_any (a b : List Int) (q q' : Nat → Prop) (A B : Option Addr) (c d : Nat) (W : World) (ha : Sl rInt q W (.slice A a.length c) a) (hb : Sl rInt q' W (.slice B b.length d) b) :
    Calls Try.prog 51 #[.slice A a.length c, .slice B b.length d] W fun e w' => e = .returned (.bool (decide (a = b))) ∧ Fr [] W w' := by
  have hla := ha.len
  have hlb := hb.len
  have HA := Lib.hid ha
  have HB := Lib.hid hb
  clear ha hb
  by_cases hl : a.length = b.length
  · have hne : ((a.length : Int) != (b.length : Int)) = false := by simp [hl]
    have HL := Lib.hid hl
    have hl1 : a.length ≤ b.length := by omega
    have hl2 : b.length ≤ a.length := by omega
    clear hl
    go_enter Try.func51, Try.ntmps51
    go_wp2
    go_loopg [13] a.length (fun gg s13 wr => ∃ k : Nat, k ≤ a.length ∧ a.length - k ≤ gg ∧ s13 = .int .i64 k ∧ (∃ n, wr = W.drewN n) ∧ Aside (Alike k a b))
    case atStart => exact ⟨0, Nat.zero_le _, by omega, rfl, ⟨0, rfl⟩, (show Alike 0 a b by simp [Alike])⟩
    case round =>
      obtain ⟨k, hk, hg, rfl, ⟨n, rfl⟩, hal⟩ := hrel
      by_cases hlt : k < a.length
      · have hltz : (k : Int) < (a.length : Int) := by omega
        have hkb : k < b.length := by omega
        have hltb : (k : Int) < (b.length : Int) := by omega
        obtain ⟨g, o, rfl, _, hgl, h1⟩ := HA.out.int_at k hlt
        obtain ⟨g', o', rfl, _, hgl', h2⟩ := HB.out.int_at k hkb
        have hsn := Lib.hid (alike_succ (k := k) hal.out hlt hkb)
        have hin : Hid (a[k] ≠ b[k] → a ≠ b) := Lib.hid (fun h e => h (by subst e; rfl))
        generalize a[k] = x at *
        generalize b[k] = y at *
        by_cases hxy : x = y
        · have hb2 : (x != y) = false := by simp [hxy]
          have hst := Lib.hid (hsn.out hxy)
          clear hxy
          go_wp2
          go_quiet (fail)
          go_wp2
          go_roundg (a.length - (k + 1))
          case measure => omega
          case rel => exact ⟨k + 1, by omega, by omega, by go_num, ⟨_, rfl⟩, hst.out⟩
        · have hb2 : (x != y) = true := by simpa using hxy
          have hd : decide (a = b) = false := by simpa using hin.out hxy
          have HD := Lib.hid hd
          clear hxy hd
          go_wp2
          go_quiet (fail)
          go_wp2
          go_ret
          exact ⟨by rw [HD.out]; rfl, ((Fr.refl [] W).drewN _).drewN _⟩
      · have hltz : ¬ (k : Int) < (a.length : Int) := by omega
        have : k = a.length := by omega
        subst this
        have he : a = b := by
          have := hal.out
          unfold Alike at this
          rw [List.take_length, HL.out, List.take_length] at this
          exact this
        have hd : decide (a = b) = true := by simp [he]
        have HD := Lib.hid hd
        clear he hd
        go_wp2
        go_ret
        exact ⟨by rw [HD.out]; rfl, (Fr.refl [] W).drewN _⟩
  · have hne : ((a.length : Int) != (b.length : Int)) = true := by
      have : (a.length : Int) ≠ (b.length : Int) := by omega
      simpa using this
    have hd : decide (a = b) = false := by
      have : a ≠ b := fun e => hl (by rw [e])
      simpa using this
    rw [hd]
    clear hl hd
    go_enter Try.func51, Try.ntmps51
    go_wp2
    go_ret
    exact ⟨rfl, Fr.refl _ _⟩
end Go.Proofs.Ytekfbafljilchaa

/- (*Lattice).initial: its closure. -/
set_option linter.unusedVariables false
set_option linter.unusedSimpArgs false
namespace Go.Proofs.Ytekfbafljilchaa
open Go.RowKit Go.Lib

/-- A target that an Initial of state i may not have. -/
def badInit (c : DChart) (i a : Nat) : Bool :=
  if knd c i < 4 then !ab c a i else if knd c i = 4 then !has (kidsOf c (up c i)) (a : Int) else !ab c a (up c i) || decide (4 ≤ knd c a)

set_option maxHeartbeats 2000000 in
theorem init_closure (W : World) (g : Nat) (c : DChart) (T : Tree c) (i : Nat) (hi : i < c.states.length) (bh bl bi bs : Nat) (th tl ti ts : TypeId) (y0 y3 y5 y6 y7 y8 y9 y10 y11 y12 : Value) (ini : Int)
    (hL : Lat (fun _ => True) W g c) (hbh : Blk W bh #[.bool (decide (4 ≤ knd c i))] th) (hbl : Blk W bl #[.pointer (some ⟨g, 0, none⟩)] tl) (hbi : Blk W bi #[.int .i64 i] ti)
    (hbs : Blk W bs #[y0, .int .i64 (knd c i), .int .i64 (par c i), y3, .int .i64 ini, y5, y6, y7, y8, y9, y10, y11, y12] ts) (l : List Int) (hl : ∀ x, x ∈ l → isSt c x = true) :
    Says 120 #[.pointer (some ⟨bh, 0, none⟩), .pointer (some ⟨bl, 0, none⟩), .pointer (some ⟨bi, 0, none⟩), .pointer (some ⟨bs, 0, none⟩)] (fun x => badInit c i x.toNat) l W := by
  refine ⟨enters_of Try.func120 (by kernel_rfl) rfl, fun x hx W' f => ?_⟩
  obtain ⟨a, rfl, ha⟩ := isSt_true (hl x hx)
  have hL' := hL.on f
  have kh := (hbh.fr f (by simp)).cell 0
  have kl := (hbl.fr f (by simp)).cell 0
  have ki := (hbi.fr f (by simp)).cell 0
  have k1 := (hbs.fr f (by simp)).cell 1
  have k2 := (hbs.fr f (by simp)).cell 2
  simp at kh kl ki k1 k2
  have hlh := (hbh.fr f (by simp)).lt
  obtain ⟨As, cs, At, ct, Aa, ca, Ak, ck, hC⟩ := hL'.open_
  have hlen := hC.S.len
  have h3 := hC.s
  have h8 := hC.a
  have h9 := hC.k
  have hg := hL'.lt
  have ha0 : (0 : Int) ≤ (a : Int) := by omega
  have haz : (a : Int) < (c.states.length : Int) := by omega
  have hi0 : (0 : Int) ≤ (i : Int) := by omega
  have hiz : (i : Int) < (c.states.length : Int) := by omega
  show Calls Try.prog 120 #[.int .i64 a, .pointer (some ⟨bh, 0, none⟩), .pointer (some ⟨bl, 0, none⟩), .pointer (some ⟨bi, 0, none⟩), .pointer (some ⟨bs, 0, none⟩)] W' _
  show Calls Try.prog 120 _ W' fun e w' => e = .returned (.bool (badInit c i a)) ∧ Fr [] W' w'
  by_cases hk : knd c i < 4
  · have hd : decide (4 ≤ knd c i) = false := by simp; omega
    have hb : badInit c i a = !ab c a i := by simp [badInit, hk]
    obtain ⟨ga, oa, gb, ob, db, rfl, r1, r2⟩ := hC.row ha hi
    rw [hd] at kh
    have HB := Lib.hid hb
    clear hC hL hL' hbh hbl hbi hbs hx hl hd hb hk T
    go_enter Try.func120, Try.ntmps120
    go_wp2
    go_quiet (fail)
    go_wp2
    go_ret
    exact ⟨by rw [HB.out]; rfl, (Fr.refl _ _).drewN _⟩
  · have hd : decide (4 ≤ knd c i) = true := by simp; omega
    have h0 : 0 < i := by
      rcases Nat.eq_zero_or_pos i with rfl | h
      · have := T.root; omega
      · exact h
    rw [T.par_up h0 hi] at k2
    have hu : up c i < c.states.length := T.up_ns hi
    have hu0 : (0 : Int) ≤ (up c i : Int) := by omega
    have huz : (up c i : Int) < (c.states.length : Int) := by omega
    rw [hd] at kh
    by_cases h4 : knd c i = 4
    · have hb : badInit c i a = !has (kidsOf c (up c i)) (a : Int) := by simp [badInit, h4]
      obtain ⟨gk, ok, B, d, rfl, r1, r2⟩ := hC.kd hu
      rw [h4] at k1
      have HB := Lib.hid hb
      have hct : ∀ n, Calls Try.prog 56 #[.slice B (kidsOf c (up c i)).length d, .int .i64 a] (W'.drewN n) fun e w' => e = .returned (.bool (has (kidsOf c (up c i)) (a : Int))) ∧ w' = W'.drewN n := fun n =>
        (contains_any (kidsOf c (up c i)) (a : Int) (fun _ => True) B d (W'.drewN n) (r2.fr (fun k _ hk => ⟨trivial, rfl⟩))).mono (fun e w' h => ⟨h.1, h.2.symm⟩)
      have hct0 := hct 0
      clear hC hL hL' hbh hbl hbi hbs hx hl hd hb hk T h4 r2
      go_enter Try.func120, Try.ntmps120
      go_wp2
      go_quiet ((go_at_call 56; exact Calls.quiet_of_same (hct _)))
      go_wp2
      go_ret
      exact ⟨by rw [HB.out]; rfl, (Fr.refl _ _).drewN _⟩
    · have hb : badInit c i a = (!ab c a (up c i) || decide (4 ≤ knd c a)) := by simp [badInit, h4, hk]
      have hne : (knd c i == 4) = false := by simpa using h4
      obtain ⟨ga, oa, gb, ob, db, rfl, r1, r2⟩ := hC.row ha hu
      obtain ⟨gs, os, rfl, s1, _⟩ := hC.st ha
      cases hab : ab c a (up c i) with
      | false =>
        rw [hab] at r2
        have hb' : badInit c i a = true := by rw [hb, hab]; rfl
        have HB := Lib.hid hb'
        clear hC hL hL' hbh hbl hbi hbs hx hl hd hb hb' hk T h4 hab
        go_enter Try.func120, Try.ntmps120
        go_wp2
        go_quiet (fail)
        go_wp2
        go_ret
        exact ⟨by rw [HB.out]; rfl, (Fr.refl _ _).drewN _⟩
      | true =>
        rw [hab] at r2
        have hb' : badInit c i a = decide (4 ≤ knd c a) := by rw [hb, hab]; rfl
        have HB := Lib.hid hb'
        clear hC hL hL' hbh hbl hbi hbs hx hl hd hb hb' hk T h4 hab
        go_enter Try.func120, Try.ntmps120
        go_wp2
        go_quiet (fail)
        go_wp2
        go_ret
        exact ⟨by rw [HB.out]; rfl, (Fr.refl _ _).drewN _⟩
end Go.Proofs.Ytekfbafljilchaa
