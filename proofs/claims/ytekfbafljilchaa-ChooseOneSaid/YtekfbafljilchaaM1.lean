/- choose.Match, and the document's. -/
import Derived.Test.YtekfbafljilchaaS1
import Derived.Shelf.Strings.Prefix
import Derived.Lib.Split
set_option linter.unusedVariables false
set_option linter.unusedSimpArgs false
namespace Go.Proofs.Ytekfbafljilchaa
open Go.RowKit Go.Lib

def lpre_ren : Go.Shelf.Ren := ⟨fun | 99 => 57 | 206 => 101 | n => n, fun n => n, fun n => n⟩
theorem lpre : Go.Proofs.Lays.n99 Try.prog lpre_ren := {
  mixed := by kernel_rfl
  f99 := Try.func57.trans (congrArg some (by kernel_rfl))
  f206 := Try.func101.trans (congrArg some (by kernel_rfl))
  t3 := Try.underlying3
  a3 := Try.isAgg3
  z3 := Try.sizeOf3
  v3 := Try.zeroValue3
  t4 := Try.underlying4
  a4 := Try.isAgg4
  z4 := Try.sizeOf4
  v4 := Try.zeroValue4
  t9 := Try.underlying9
  a9 := Try.isAgg9
  z9 := Try.sizeOf9
  v9 := Try.zeroValue9 }
theorem prefix_any (s p : ByteArray) (w : World) : Calls Try.prog 57 #[.string s, .string p] w fun e w' => e = .returned (.bool (Lib.hasPrefix s.data.toList p.data.toList)) ∧ w' = w := Any.strings_HasPrefix lpre s p w

/-- Does a descriptor match a name? -/
def matchB (d n : List UInt8) : Bool := d == [42] || d == n || (d ++ [46]).isPrefixOf n
set_option maxHeartbeats 2000000 in
theorem match_any (d n : ByteArray) (w : World) (hd : d.size ≤ 140737488351232) : Calls Try.prog 18 #[.string d, .string n] w fun e w' => e = .returned (.bool (matchB d.toList n.toList)) ∧ w = w' := by
  have hp := prefix_any n (d ++ { data := #[46] }) w
  cases e1 : d.toList == [42] with
  | true =>
    have e : matchB d.toList n.toList = true := by simp [matchB, e1]
    rw [e]
    clear hp e
    go_enter Try.func18, Try.ntmps18
    go_wp2
    go_ret
    exact ⟨rfl, rfl⟩
  | false =>
    cases e2 : d.toList == n.toList with
    | true =>
      have e : matchB d.toList n.toList = true := by simp [matchB, e2]
      rw [e]
      clear hp e
      go_enter Try.func18, Try.ntmps18
      go_wp2
      go_ret
      exact ⟨rfl, rfl⟩
    | false =>
      have e : matchB d.toList n.toList = Lib.hasPrefix n.data.toList (d ++ { data := #[46] }).data.toList := by
        simp only [matchB, e1, e2, Bool.false_or, Lib.hasPrefix]
        rw [toList_data, toList_data]
        simp
      rw [e]
      generalize Lib.hasPrefix n.data.toList (d ++ { data := #[46] }).data.toList = z at *
      clear e
      go_enter Try.func18, Try.ntmps18
      go_wp2_with fail
      refine hp.mono ?_
      rintro e w' ⟨rfl, rfl⟩
      go_wp2
      go_ret
      exact ⟨rfl, rfl⟩

theorem pre_iff (d n : List UInt8) : (d ++ [46]).isPrefixOf n = true ↔ n.take d.length = d ∧ n[d.length]? = some 46 := by
  rw [List.isPrefixOf_iff_prefix]
  constructor
  · rintro ⟨t, rfl⟩
    simp
  · rintro ⟨h1, h2⟩
    obtain ⟨hl, h2⟩ := List.getElem?_eq_some_iff.1 h2
    refine ⟨n.drop (d.length + 1), ?_⟩
    have := List.take_append_drop d.length n
    rw [h1, List.drop_eq_getElem_cons hl, h2] at this
    rw [← this]
    simp
theorem pre_of (d n : ByteArray) (hl : d.size < n.size) : (d.toList ++ [46]).isPrefixOf n.toList = ((n.extract 0 d.size).toList == d.toList && ((n[d.size].toNat : Int) == 46)) := by
  have hd : d.toList.length = d.size := by rw [toList_data]; simp
  have h0 : (n.extract 0 d.size).toList = n.toList.take d.size := by rw [toList_data, toList_data, extract_from_zero]
  have h1 : n.toList[d.size]? = some n[d.size] := by
    rw [toList_data, Array.getElem?_toList, Array.getElem?_eq_getElem hl]
    rfl
  rw [Bool.eq_iff_iff, pre_iff, hd, h1, h0, Bool.and_eq_true, beq_iff_eq, beq_iff_eq]
  refine and_congr Iff.rfl ?_
  constructor
  · intro h
    have : n[d.size] = 46 := Option.some.inj h
    rw [this]
    rfl
  · intro h
    have h2 : n[d.size].toNat = (46 : UInt8).toNat := by
      have : n[d.size].toNat = 46 := by omega
      rw [this]; rfl
    rw [UInt8.toNat_inj.1 h2]
theorem pre_no (d n : ByteArray) (hl : ¬ d.size < n.size) : (d.toList ++ [46]).isPrefixOf n.toList = false := by
  cases h : (d.toList ++ [46]).isPrefixOf n.toList with
  | false => rfl
  | true =>
    have hd : d.toList.length = d.size := by rw [toList_data]; simp
    have hn : n.toList.length = n.size := by rw [toList_data]; simp
    have := (pre_iff _ _).1 h
    rw [hd] at this
    have := (List.getElem?_eq_some_iff.1 this.2).1
    omega
set_option maxHeartbeats 2000000 in
theorem refmatch_any (d n : ByteArray) (w : World) (hd : d.size ≤ 140737488351232) (hn : n.size ≤ 140737488351232) : Calls Try.prog 47 #[.string d, .string n] w fun e w' => e = .returned (.bool (matchB d.toList n.toList)) ∧ w = w' := by
  cases e1 : d.toList == [42] with
  | true =>
    have e : matchB d.toList n.toList = true := by simp [matchB, e1]
    rw [e]
    clear e
    go_enter Try.func47, Try.ntmps47
    go_wp2
    go_ret
    exact ⟨rfl, rfl⟩
  | false =>
    cases e2 : d.toList == n.toList with
    | true =>
      have e : matchB d.toList n.toList = true := by simp [matchB, e2]
      rw [e]
      clear e
      go_enter Try.func47, Try.ntmps47
      go_wp2
      go_ret
      exact ⟨rfl, rfl⟩
    | false =>
      have e : matchB d.toList n.toList = (d.toList ++ [46]).isPrefixOf n.toList := by
        simp only [matchB, e1, e2, Bool.false_or]
      rw [e]
      clear e
      by_cases hl : d.size < n.size
      · have hlz : (d.size : Int) < (n.size : Int) := by omega
        have hd0 : (0 : Int) ≤ (d.size : Int) := by omega
        cases e3 : (n.extract 0 d.size).toList == d.toList with
        | false =>
          have hz : (d.toList ++ [46]).isPrefixOf n.toList = false := by rw [pre_of d n hl, e3]; rfl
          rw [hz]
          clear hz
          go_enter Try.func47, Try.ntmps47
          go_wp2
          go_ret
          exact ⟨rfl, rfl⟩
        | true =>
          have HZ : Hid ((d.toList ++ [46]).isPrefixOf n.toList = ((n[d.size].toNat : Int) == 46)) := Lib.hid (by rw [pre_of d n hl, e3]; rfl)
          go_enter Try.func47, Try.ntmps47
          go_wp2
          go_ret
          exact ⟨by rw [HZ.out]; rfl, rfl⟩
      · have hlz : ¬ (d.size : Int) < (n.size : Int) := by omega
        have hld : decide ((d.size : Int) < (n.size : Int)) = false := by simpa using hl
        have hz : (d.toList ++ [46]).isPrefixOf n.toList = false := pre_no d n hl
        rw [hz]
        clear hz
        go_enter Try.func47, Try.ntmps47
        go_wp2
        go_ret
        exact ⟨rfl, rfl⟩
end Go.Proofs.Ytekfbafljilchaa

/- choose.selected. -/
set_option linter.unusedVariables false
set_option linter.unusedSimpArgs false
namespace Go.Proofs.Ytekfbafljilchaa
open Go.RowKit Go.Lib

set_option maxHeartbeats 1000000 in
theorem match_closure (W : World) (bn : Nat) (tn : TypeId) (n : ByteArray) (hb : Blk W bn #[.string n] tn) (d : ByteArray) (hd : d.size ≤ 140737488351232) :
    Calls Try.prog 99 #[.string d, .pointer (some ⟨bn, 0, none⟩)] W fun e w' => e = .returned (.bool (matchB d.toList n.toList)) ∧ W = w' := by
  have k := hb.cell 0
  simp at k
  have hm := match_any d n W hd
  generalize matchB d.toList n.toList = z at *
  clear hb
  go_enter Try.func99, Try.ntmps99
  go_wp2_with fail
  refine hm.mono ?_
  rintro e w' ⟨rfl, rfl⟩
  go_wp2
  go_ret
  exact ⟨rfl, rfl⟩
set_option maxHeartbeats 1000000 in
theorem indexFuncS (W : World) (bn : Nat) (tn : TypeId) (n : ByteArray) (hb : Blk W bn #[.string n] tn) (l : List ByteArray) (q : Nat → Prop) (A : Option Addr) (c : Nat) (hS : Sl rStr q W (.slice A l.length c) l) :
    Calls Try.prog 121 #[.slice A l.length c, .func (.func 99) #[] #[.pointer (some ⟨bn, 0, none⟩)]] W fun e w' => ∃ r : Int, e = .returned (.int .i64 r) ∧ Aside (decide (0 ≤ r) = l.any (fun d => matchB d.toList n.toList)) ∧ W = w' := by
  have hlen := hS.len
  have HB := Lib.hid hb
  have HS := Lib.hid hS
  clear hb hS
  suffices h : Calls Try.prog 121 #[.slice A l.length c, .func (.func 99) #[] #[.pointer (some ⟨bn, 0, none⟩)]] W (fun e w' => Hid (∃ r : Int, e = .returned (.int .i64 r) ∧ Aside (decide (0 ≤ r) = l.any (fun d => matchB d.toList n.toList)) ∧ W = w')) from h.mono fun e w' h => h.out
  go_enter Try.func121, Try.ntmps121
  go_wp2
  go_loopg [8] l.length (fun gg s8 wr => ∃ k : Nat, k ≤ l.length ∧ l.length - k ≤ gg ∧ s8 = .int .i64 k ∧ wr = W ∧ Aside ((l.take k).any (fun d => matchB d.toList n.toList) = false))
  case atStart => exact ⟨0, Nat.zero_le _, by omega, rfl, rfl, (show (l.take 0).any (fun d => matchB d.toList n.toList) = false by simp)⟩
  case round =>
    obtain ⟨k, hk, hg, rfl, hw, hno⟩ := hrel
    subst hw
    by_cases hlt : k < l.length
    · have hltz : (k : Int) < (l.length : Int) := by omega
      obtain ⟨g, o, rfl, _, hgl, hz, hc⟩ := HS.out.str_at k hlt
      have hcall := match_closure wr bn _ n HB.out l[k] hz
      have hsn := Lib.hid (List.take_succ_eq_append_getElem hlt)
      have hat : Hid (matchB l[k].toList n.toList = true → l.any (fun d => matchB d.toList n.toList) = true) := Lib.hid (fun h => List.any_eq_true.2 ⟨_, List.getElem_mem hlt, h⟩)
      generalize l[k] = y at *
      cases hq : matchB y.toList n.toList with
      | true =>
        rw [hq] at hcall
        have hany := Lib.hid (hat.out hq)
        clear hq
        go_wp2_with (with_reducible refine hcall.mono ?_; rintro e w' ⟨rfl, rfl⟩)
        go_ret
        exact Lib.hid ⟨k, rfl, (show _ = _ from by rw [hany.out]; simp), rfl⟩
      | false =>
        rw [hq] at hcall
        have hany := Lib.hid hq
        clear hq
        go_wp2_with (with_reducible refine hcall.mono ?_; rintro e w' ⟨rfl, rfl⟩)
        go_roundg (l.length - (k + 1))
        case measure => omega
        case rel => exact ⟨k + 1, by omega, by omega, by go_num, rfl, by show Aside _; exact (by rw [hsn.out, List.any_append, hno.out]; simp [hany.out] : (l.take (k + 1)).any (fun d => matchB d.toList n.toList) = false)⟩
    · have hltz : ¬ (k : Int) < (l.length : Int) := by omega
      have : k = l.length := by omega
      subst this
      have hno' : l.any (fun d => matchB d.toList n.toList) = false := by have := hno.out; rwa [List.take_length] at this
      have HN := Lib.hid hno'
      clear hno'
      go_wp2
      go_ret
      exact Lib.hid ⟨-1, rfl, (show _ = _ from by rw [HN.out]; decide), rfl⟩

def selB (ev : List ByteArray) (n : ByteArray) (event : Bool) : Bool := if event then ev.any (fun d => matchB d.toList n.toList) else ev.length == 0
set_option maxHeartbeats 1000000 in
theorem contFuncS (W : World) (bn : Nat) (tn : TypeId) (n : ByteArray) (hb : Blk W bn #[.string n] tn) (l : List ByteArray) (q : Nat → Prop) (A : Option Addr) (c : Nat) (hS : Sl rStr q W (.slice A l.length c) l) :
    Calls Try.prog 98 #[.slice A l.length c, .func (.func 99) #[] #[.pointer (some ⟨bn, 0, none⟩)]] W fun e w' => e = .returned (.bool (l.any (fun d => matchB d.toList n.toList))) ∧ W = w' := by
  have hI := indexFuncS W bn tn n hb l q A c hS
  clear hS hb
  go_enter Try.func98, Try.ntmps98
  go_wp2_with fail
  refine hI.mono ?_
  rintro e w' ⟨r, rfl, hr, rfl⟩
  clear hI
  go_wp2
  go_ret
  exact ⟨by rw [← hr.out]; rfl, rfl⟩
set_option maxHeartbeats 1000000 in
theorem selected_any (W : World) (ev : List ByteArray) (n : ByteArray) (event : Bool) (q : Nat → Prop) (A : Option Addr) (c : Nat) (hS : Sl rStr q W (.slice A ev.length c) ev) :
    Calls Try.prog 55 #[.slice A ev.length c, .string n, .bool event] W fun e w' => e = .returned (.bool (selB ev n event)) ∧ Fr [] W w' := by
  have hlen := hS.len
  have hf := Lib.hid ((Fr.refl [] W).alloc (.cells #[.string n] 9))
  have hC := contFuncS (W.alloc (.cells #[.string n] 9)) W.heap.size 9 n (Blk.new W _ 9) ev (fun _ => True) A c (hS.fr fun k _ hk => ⟨trivial, hf.out.block k hk (by simp)⟩)
  clear hS
  cases event with
  | false =>
    have HZ : Hid (selB ev n false = (ev.length == 0)) := Lib.hid rfl
    have hb : (((ev.length : Nat) : Int) == 0) = (ev.length == 0) := by rw [Bool.eq_iff_iff]; simp
    go_enter Try.func55, Try.ntmps55
    go_wp2
    go_ret
    exact ⟨by rw [HZ.out]; first | rfl | simp, hf.out⟩
  | true =>
    have HZ : Hid (selB ev n true = ev.any (fun d => matchB d.toList n.toList)) := Lib.hid rfl
    generalize ev.any (fun d => matchB d.toList n.toList) = z at *
    go_enter Try.func55, Try.ntmps55
    go_wp2_with fail
    refine hC.mono ?_
    rintro e w' ⟨rfl, rfl⟩
    go_wp2
    go_ret
    exact ⟨by rw [HZ.out]; rfl, hf.out⟩
end Go.Proofs.Ytekfbafljilchaa
