/- choose.Resolve: plain words, and what stays true from transition to transition. -/
import Derived.Test.YtekfbafljilchaaS9
import Derived.Test.YtekfbafljilchaaSA
import Derived.Deep.QuietTactic
import Derived.BigQuiet
set_option linter.unusedVariables false
set_option linter.unusedSimpArgs false
namespace Go.Proofs.Ytekfbafljilchaa
open Go.RowKit Go.Lib

/-- Do two transitions leave a state together? -/
def confB (c : DChart) (cfg : List Int) (mem : List (List Int)) (a b : Int) : Bool := (exitL c cfg mem [a]).any fun s => has (exitL c cfg mem [b]) s
def srcOf (c : DChart) (t : Int) : Int := (tr c t.toNat).src
def stopB (c : DChart) (cfg : List Int) (mem : List (List Int)) (t k : Int) : Bool := confB c cfg mem t k && !inB c (srcOf c t) (srcOf c k)
def resStep (c : DChart) (cfg : List Int) (mem : List (List Int)) (kept : List Int) (t : Int) : List Int :=
  if kept.any (stopB c cfg mem t) then kept else kept.filter (fun k => !confB c cfg mem t k) ++ [t]
def res1 (c : DChart) (cfg : List Int) (mem : List (List Int)) (s : List Int × List Int) (t : Int) : List Int × List Int :=
  if has s.1 t || !knownB c t then s else (add1 s.1 t, resStep c cfg mem s.2 t)
def resF (c : DChart) (cfg : List Int) (mem : List (List Int)) (ts : List Int) : List Int × List Int := ts.foldl (res1 c cfg mem) ([], [])
/-- Which transitions are taken. -/
def resL (c : DChart) (cfg : List Int) (mem : List (List Int)) (ts : List Int) : List Int := (resF c cfg mem ts).2
theorem resF_take (c : DChart) (cfg : List Int) (mem : List (List Int)) (ts : List Int) (k : Nat) (h : k < ts.length) : resF c cfg mem (ts.take (k + 1)) = res1 c cfg mem (resF c cfg mem (ts.take k)) ts[k] := by
  unfold resF
  rw [List.take_succ_eq_append_getElem h, List.foldl_append]
  rfl

theorem vm_not {w : World} {b : Nat} {S : List Int} {f : Int → Value} (h : VM w b S f) {k : Nat} {c : Array Value} {t : TypeId} (hb : Blk w k c t) : b ≠ k := by
  rintro rfl
  obtain ⟨D, ⟨es, clock, hg, _⟩, _⟩ := h
  have := (Eq.symm hg).trans hb
  injection this with this
  cases this
theorem vm_own {w : World} {b : Nat} {S : List Int} {f : Int → Value} (h : VM w b S f) {B n : Nat} {e : TypeId} {size : Nat} {v : Value} {xs : List Value} (ho : w.ownsRow B e size v n xs) : b ∉ v.ownBlock.toList := fun hm => by
  obtain ⟨cc, hcc⟩ := own_blk ho b (by simpa using hm)
  exact vm_not h hcc rfl
theorem blk_own {w : World} {b : Nat} {c : Array Value} {t : TypeId} (h : Blk w b c t) {B n : Nat} {e : TypeId} {size : Nat} {v : Value} {xs : List Value} (ho : w.ownsRow B e size v n xs) (ht : t ≠ e) : b ∉ v.ownBlock.toList := fun hm => by
  obtain ⟨cc, hcc⟩ := own_blk ho b (by simpa using hm)
  exact Blk.ne h hcc ht rfl

/-- What is true ahead of each transition. -/
structure RInv (W w : World) (c : DChart) (cfg : List Int) (mem : List (List Int)) (b9 b11 bm : Nat) (cc : Array Value) (v : Value) (S kept : List Int) (f : Int → Value) : Prop where
  fr : Fr [] W w
  own : w.ownsRow W.heap.size 3 1 v kept.length (I64s kept)
  vm : VM w bm S f
  rows : ∀ t, t ∈ S → Sl rInt (fun q => v.ownBlock ≠ some q ∧ q ≠ bm) w (f t) (exitL c cfg mem [t])
  b9 : Blk w b9 cc 28
  b11 : Blk w b11 #[.map (some bm)] 131
  sub : ∀ t, t ∈ kept → t ∈ S
  kn : ∀ t, t ∈ S → knownB c t = true
  nd : kept.Nodup
  low : W.heap.size ≤ bm

theorem RInv.step {W w w3 wx : World} {c : DChart} {cfg : List Int} {mem : List (List Int)} {b9 b11 bm : Nat} {cc : Array Value} {v v9 : Value} {S kept kept9 : List Int} {f : Int → Value} {t : Int} {A9 : Option Addr} {d9 : Nat}
    (h : RInv W w c cfg mem b9 b11 bm cc v S kept f) (ht : t ∉ S) (hk : knownB c t = true) (f3 : Fr [bm] w w3) (hV : VM w3 bm (add1 S t) (fun y => if y = t then .slice A9 (exitL c cfg mem [t]).length d9 else f y))
    (ho : w3.ownsRow w.heap.size 3 1 (.slice A9 (exitL c cfg mem [t]).length d9) (exitL c cfg mem [t]).length (I64s (exitL c cfg mem [t]))) (hlen : (exitL c cfg mem [t]).length ≤ 1000)
    (fx : Fr v.ownBlock.toList w3 wx) (own9 : wx.ownsRow W.heap.size 3 1 v9 kept9.length (I64s kept9)) (hb : v9.ownBlock = v.ownBlock ∨ ∀ q, v9.ownBlock = some q → w3.heap.size ≤ q) (hs : ∀ x, x ∈ kept9 → x ∈ add1 S t) (hn9 : kept9.Nodup) :
    RInv W wx c cfg mem b9 b11 bm cc v9 (add1 S t) kept9 (fun y => if y = t then .slice A9 (exitL c cfg mem [t]).length d9 else f y) := by
  have hvm3 := vm_own h.vm h.own
  have hb9 : b9 ≠ bm := fun e => vm_not h.vm h.b9 e.symm
  have hb11 : b11 ≠ bm := fun e => vm_not h.vm h.b11 e.symm
  have hnew := own_new h.own
  have hlt : ∀ q, v.ownBlock = some q → q < w.heap.size := fun q hq => (h.own.lt q hq).2
  have hlow : W.heap.size ≤ bm := h.low
  have f13 : Fr (bm :: v.ownBlock.toList) w wx := (f3.wide (T := bm :: v.ownBlock.toList) (fun x hx => by simp at hx; simp [hx])).trans fx (fun x hx _ => List.mem_cons_of_mem _ hx)
  refine ⟨h.fr.trans f13 (fun x hx hlt => ?_), own9, hV.fr fx (by have := own_fr h.own f3 (fun k hk => by simp; rintro rfl; exact hvm3 (by simp [hk])); exact vm_own hV this), fun x hx => ?_, h.b9.fr f13 ?_, h.b11.fr f13 ?_, hs, fun x hx => ?_, hn9, hlow⟩
  · rcases List.mem_cons.1 hx with rfl | hx
    · omega
    · have := hnew x hx; omega
  · by_cases e : x = t
    · subst e
      simp only [if_true]
      have hs3 := int_own' ho (by omega)
      refine hs3.fr (fun q hq hq3 => ?_)
      have hq1 := (ho.lt q hq).1
      have hqb := h.vm.lt
      have hnv : q ∉ v.ownBlock.toList := fun hm => by have := hlt q (by simpa using hm); omega
      refine ⟨⟨fun e9 => ?_, by omega⟩, fx.block q hq3 hnv⟩
      rcases hb with e2 | e2
      · rw [e2] at e9
        exact hnv (by simp [e9])
      · have := e2 q e9; omega
    · simp only [if_neg e]
      have hxS : x ∈ S := by
        rcases mem_add1.1 hx with h | h
        · exact h
        · exact absurd h e
      refine (h.rows x hxS).fr (fun q hq hqw => ?_)
      refine ⟨⟨fun e9 => ?_, hq.2⟩, f13.block q hqw (fun hm => ?_)⟩
      · rcases hb with e2 | e2
        · rw [e2] at e9; exact hq.1 e9
        · have := e2 q e9
          have := f3.size
          omega
      · rcases List.mem_cons.1 hm with h1 | h1
        · exact hq.2 h1
        · exact hq.1 (by simpa using h1)
  · intro hm
    rcases List.mem_cons.1 hm with h1 | h1
    · exact hb9 h1
    · exact blk_own h.b9 h.own (by decide) h1
  · intro hm
    rcases List.mem_cons.1 hm with h1 | h1
    · exact hb11 h1
    · exact blk_own h.b11 h.own (by decide) h1
  · rcases mem_add1.1 hx with h1 | rfl
    · exact h.kn x h1
    · exact hk
end Go.Proofs.Ytekfbafljilchaa

/- choose.Resolve: the walk. -/
set_option linter.unusedVariables false
set_option linter.unusedSimpArgs false
namespace Go.Proofs.Ytekfbafljilchaa
open Go.RowKit Go.Lib

set_option maxRecDepth 100000 in
set_option maxHeartbeats 4000000 in
theorem chart_open2 (W : World) (g : Nat) (c : DChart) (hL : Lat (fun _ => True) W g c) : ∃ As cs At ct Ab nb cb Ad nd cd Ai ni ci, ChartAt W g c As cs At ct (.slice Ab nb cb) (.slice Ad nd cd) (.slice Ai ni ci) := by
  obtain ⟨vs, vt, vb, vd, vi, va, vk, hblk, hS, hT, hB, hD, hI, hA, hK⟩ := hL
  obtain ⟨As, cs, rfl, _⟩ := hS.form
  obtain ⟨At, ct, rfl, _⟩ := hT.form
  obtain ⟨Ab, cb, rfl, _⟩ := hB.form
  obtain ⟨Ad, cd, rfl, _⟩ := hD.form
  obtain ⟨Ai, ci, rfl, _⟩ := hI.form
  refine ⟨As, cs, At, ct, Ab, c.blocks.length, cb, Ad, c.data.length, cd, Ai, c.invokes.length, ci, hS, hT, fun W' f => ?_⟩
  have hb2 := hblk.fr f (by simp)
  have hg := hb2.lt
  have c0 := hb2.cell 0
  have c1 := hb2.cell 1
  have c2 := hb2.cell 2
  have c3 := hb2.cell 3
  have c4 := hb2.cell 4
  have c5 := hb2.cell 5
  have c6 := hb2.cell 6
  have c7 := hb2.cell 7
  simp at c0 c1 c2 c3 c4 c5 c6 c7
  clear hS hT hB hD hI hA hK hblk hb2 f
  go_enter Try.func28, Try.ntmps28
  go_wp2
  refine bodyPost_ret (v := .agg #[.string c.name, .bool c.late, .int .i64 c.script, .slice As c.states.length cs, .slice At c.trans.length ct, .slice Ab c.blocks.length cb, .slice Ad c.data.length cd, .slice Ai c.invokes.length ci]) (by simp [results, Try.results28, go_sem]) rfl ?_
  exact ⟨rfl, (Fr.refl [] W').alloc (.cells #[.string c.name, .bool c.late, .int .i64 c.script, .slice As c.states.length cs, .slice At c.trans.length ct, .slice Ab c.blocks.length cb, .slice Ad c.data.length cd, .slice Ai c.invokes.length ci] 28)⟩
theorem add1_len (S : List Int) (x : Int) : (add1 S x).length ≤ S.length + 1 := by
  unfold add1
  split <;> simp
/-- One more for the variable. -/
theorem OutV.push {w w9 : World} {B bo : Nat} {v : Value} {acc : List Int} {x : Int} {g9 cap9 : Nat} (h : OutV w B bo v acc) (hgrow : (w.alloc (.cells #[.int .i64 x] 3)).grownBy w9 v.ownBlock)
    (hown9 : w9.ownsRow B 3 1 (.slice (some ⟨g9, 0, none⟩) (acc.length + 1) cap9) (acc.length + 1) (I64s acc ++ [.int .i64 x])) :
    OutV (w9.setCell ⟨bo, 0, none⟩ (.slice (some ⟨g9, 0, none⟩) (acc.length + 1) cap9)) B bo (.slice (some ⟨g9, 0, none⟩) (acc.length + 1) cap9) (acc ++ [x]) ∧ Fr (bo :: v.ownBlock.toList) w (w9.setCell ⟨bo, 0, none⟩ (.slice (some ⟨g9, 0, none⟩) (acc.length + 1) cap9)) ∧ Blk w9 bo #[v] 29 := by
  have hF : Fr v.ownBlock.toList w w9 := ((Fr.refl _ w).alloc (.cells #[.int .i64 x] 3)).trans (Fr.of_grown (S := v.ownBlock.toList) hgrow (fun b hb _ => by simp [hb])) (fun b hb _ => hb)
  have hB : Blk w9 bo #[v] 29 := h.blk.fr hF (blk_own h.blk h.own (by decide))
  have hO : w9.ownsRow B 3 1 (.slice (some ⟨g9, 0, none⟩) (acc.length + 1) cap9) (acc ++ [x]).length (I64s (acc ++ [x])) := by simpa using hown9
  have hn9 : g9 ≠ bo := fun e => by
    obtain ⟨cc, hcc⟩ := own_blk hO g9 rfl
    exact (Blk.ne hcc hB (by decide)) e
  refine ⟨⟨by simpa using hB.set 0 _, own_fr hO ((Fr.refl [bo] w9).setCell (p := ⟨bo, 0, none⟩) (by simp) _) (fun q hq => ?_)⟩, (hF.wide (T := bo :: v.ownBlock.toList) (fun _ h => List.mem_cons_of_mem _ h)).setCell (by simp) _, hB⟩
  simp [Value.ownBlock] at hq
  subst hq
  simpa using hn9
theorem exit_len {c : DChart} (hn : c.states.length ≤ 128) (cfg : List Int) (mem : List (List Int)) (ts : List Int) : (exitL c cfg mem ts).length ≤ 128 := by
  unfold exitL
  rw [List.length_reverse]
  refine Nat.le_trans (List.length_filter_le _ _) ?_
  simpa using hn
theorem knownB_nat {c : DChart} {t : Int} (h : knownB c t = true) : ∃ j : Nat, t = (j : Int) ∧ j < c.trans.length := by
  simp [knownB] at h
  exact ⟨t.toNat, by omega, by omega⟩
theorem known_wf {c : DChart} {t : Int} (h : knownB c t = true) (hl : c.trans.length ≤ 140737488351232) : (Lit.int .i64 t).wf = true := by
  obtain ⟨j, rfl, hj⟩ := knownB_nat h
  exact WalkArith.wf_i64 (by omega)

set_option maxRecDepth 100000 in
set_option maxHeartbeats 32000000 in
theorem resolve_any (W : World) (g : Nat) (c : DChart) (cfg : List Int) (mem : List (List Int)) (ts : List Int) (A1 A2 A3 : Option Addr) (d1 d2 d3 : Nat) (q1 q2 q3 : Nat → Prop) (G : Good c) (hwf : ∀ t, t ∈ ts → (Lit.int .i64 t).wf = true) (hts : ts.length ≤ 1000)
    (hC : Sl rInt q1 W (.slice A1 cfg.length d1) cfg) (hM : Sl (rSl rInt) q2 W (.slice A2 mem.length d2) mem) (hT : Sl rInt q3 W (.slice A3 ts.length d3) ts) (hL : Lat (fun _ => True) W g c) :
    Calls Try.prog 48 #[.pointer (some ⟨g, 0, none⟩), .slice A1 cfg.length d1, .slice A2 mem.length d2, .slice A3 ts.length d3] W (NewInts W (resL c cfg mem ts)) := by
  have HL := Lib.hid hL
  have HC := Lib.hid hC
  have HM := Lib.hid hM
  have HT := Lib.hid hT
  have HG := Lib.hid G
  have HWF := Lib.hid hwf
  have hg := hL.lt
  have lC := hC.len
  have lM := hM.len
  have lT := hT.len
  have hmm := @run_makeMap Try.prog
  have hmany : c.states.length ≤ 128 := G.tree.many
  obtain ⟨As, cs, At, ct, Ab, nb, cb, Ad, nd, cd, Ai, ni, ci, hch⟩ := chart_open2 W g c hL
  have HCH := Lib.hid hch
  have ltr := hch.t.len
  have hc0 := hch.call W (Fr.refl _ _)
  clear hL hC hM hT G hwf hch
  go_enter Try.func48, Try.ntmps48
  go_wp2_with fail
  refine hc0.mono ?_
  rintro e w1 ⟨rfl, f1⟩
  have HR0 : Hid (RInv W (((w1.alloc (.cells #[.string c.name, .bool c.late, .int .i64 c.script, .slice As c.states.length cs, .slice At c.trans.length ct, (.slice Ab nb cb), (.slice Ad nd cd), (.slice Ai ni ci)] 28)).alloc (.map #[] 0)).alloc (.cells #[.map (some (w1.heap.size + 1))] 131)) c cfg mem w1.heap.size (w1.heap.size + 1 + 1) (w1.heap.size + 1) #[.string c.name, .bool c.late, .int .i64 c.script, .slice As c.states.length cs, .slice At c.trans.length ct, (.slice Ab nb cb), (.slice Ad nd cd), (.slice Ai ni ci)] (.slice none 0 0) [] [] (fun _ => nilSl)) := Lib.hid (by
    have hz := f1.size
    have hm := VM.new (w1.alloc (.cells #[.string c.name, .bool c.late, .int .i64 c.script, .slice As c.states.length cs, .slice At c.trans.length ct, (.slice Ab nb cb), (.slice Ad nd cd), (.slice Ai ni ci)] 28)) (fun _ => nilSl)
    rw [sizeAt rfl] at hm
    exact ⟨((f1.alloc _).alloc _).alloc _, World.ownsRow_nil _ _ _ _, hm.fr ((Fr.refl [] _).alloc _) (by simp), (fun t h => by cases h), ((Blk.newAt rfl).alloc _).alloc _, Blk.newAt (sizeAt (sizeAt rfl)), (fun t h => by cases h), (fun t h => by cases h), List.nodup_nil, by omega⟩)
  clear f1 hc0
  go_wp2
  go_loopg [10, 25] ts.length (fun gg s10 s25 wr => ∃ (k : Nat) (S kept : List Int) (f : Int → Value) (v : Value), v = s10 ∧ k ≤ ts.length ∧ ts.length - k ≤ gg ∧ s25 = .int .i64 k ∧ Aside (RInv W wr c cfg mem w1.heap.size (w1.heap.size + 1 + 1) (w1.heap.size + 1) #[.string c.name, .bool c.late, .int .i64 c.script, .slice As c.states.length cs, .slice At c.trans.length ct, .slice Ab nb cb, .slice Ad nd cd, .slice Ai ni ci] v S kept f) ∧ Aside (resF c cfg mem (ts.take k) = (S, kept)) ∧ S.length ≤ k ∧ kept.length ≤ k)
  case atStart => exact ⟨0, [], [], fun _ => nilSl, _, rfl, Nat.zero_le _, by omega, rfl, HR0.out, (show resF c cfg mem (ts.take 0) = ([], []) from rfl), by simp, by simp⟩
  case round =>
    obtain ⟨k, S, kept, f, v, rfl, hk, hgg, rfl, hR, hres, hSl, hKl⟩ := hrel
    by_cases hlt : k < ts.length
    · have hltz : (k : Int) < (ts.length : Int) := by omega
      have hk0 : (0 : Int) ≤ (k : Int) := by omega
      obtain ⟨gx, ox, rfl, _, hgx, hcx⟩ := HT.out.int_at k hlt
      have hcw := cell_on hR.out.fr hcx
      have HTK := Lib.hid (resF_take c cfg mem ts k hlt)
      have HWT := Lib.hid (HWF.out ts[k] (List.getElem_mem hlt))
      have hb9 := hR.out.b9.cell 4
      have hb11 := hR.out.b11.cell 0
      simp at hb9 hb11
      clear hcx
      generalize ts[k] = t at *
      have HTK2 : Hid (resF c cfg mem (ts.take (k + 1)) = res1 c cfg mem (S, kept) t) := Lib.hid (by rw [HTK.out, hres.out])
      clear HTK
      by_cases htS : t ∈ S
      · have HS2 : Hid (resF c cfg mem (ts.take (k + 1)) = (S, kept)) := Lib.hid (by rw [HTK2.out, res1]; simp [has_iff.2 htS])
        have hlk := hR.out.vm.look_yes htS HWT.out
        clear htS
        generalize f t = ft at *
        go_wp2
        go_roundg (ts.length - (k + 1))
        case measure => omega
        case rel => exact ⟨k + 1, S, kept, f, _, rfl, by omega, by omega, by go_num, hR, HS2.out, by omega, by omega⟩
      · obtain ⟨v0, hlk⟩ := hR.out.vm.look_no htS HWT.out
        have hhas : has S t = false := by
          cases h : has S t with
          | false => rfl
          | true => exact absurd (has_iff.1 h) htS
        by_cases ht0 : t < 0
        · have HS2 : Hid (resF c cfg mem (ts.take (k + 1)) = (S, kept)) := Lib.hid (by
            have : knownB c t = false := by simp [knownB]; omega
            rw [HTK2.out, res1]; simp [this])
          clear htS hhas
          go_wp2
          go_roundg (ts.length - (k + 1))
          case measure => omega
          case rel => exact ⟨k + 1, S, kept, f, _, rfl, by omega, by omega, by go_num, hR, HS2.out, by omega, by omega⟩
        · by_cases htn : (c.trans.length : Int) ≤ t
          · have HS2 : Hid (resF c cfg mem (ts.take (k + 1)) = (S, kept)) := Lib.hid (by
              have : knownB c t = false := by simp [knownB]; omega
              rw [HTK2.out, res1]; simp [this])
            have hd0 : decide (t < 0) = false := by simpa using ht0
            clear htS hhas
            go_wp2
            go_roundg (ts.length - (k + 1))
            case measure => omega
            case rel => exact ⟨k + 1, S, kept, f, _, rfl, by omega, by omega, by go_num, hR, HS2.out, by omega, by omega⟩
          · have HKN : Hid (knownB c t = true) := Lib.hid (by simp [knownB]; omega)
            have HS2 : Hid (resF c cfg mem (ts.take (k + 1)) = (add1 S t, resStep c cfg mem kept t)) := Lib.hid (by
              rw [HTK2.out, res1]; simp [hhas, HKN.out])
            have HNS := Lib.hid htS
            clear htS hhas HTK2
            have hd0 : decide (t < 0) = false := by simpa using ht0
            have hd1 : decide ((c.trans.length : Int) ≤ t) = false := by simpa using htn
            have HCALL : Hid (∀ w v, Fr [] wr w → Sl rInt (fun _ => True) w v [t] → Calls Try.prog 23 #[.pointer (some ⟨g, 0, none⟩), .slice A1 cfg.length d1, .slice A2 mem.length d2, v] w (NewInts w (exitL c cfg mem [t]))) := Lib.hid (fun w v F hs => by
              obtain ⟨A, d, rfl, _⟩ := hs.form
              have F' := hR.out.fr.trans' F
              exact exit_any w g c cfg mem [t] A1 A2 A d1 d2 d (fun _ => True) (fun _ => True) (fun _ => True) HG.out (HC.out.fr (fun k _ hk => ⟨trivial, F'.block k hk (by simp)⟩)) (HM.out.fr (fun k _ hk => ⟨trivial, F'.block k hk (by simp)⟩)) hs (HL.out.on F'))
            go_wp2
            refine res9 hb11 hR.out.vm (by omega) HWT.out HCALL.out ?_
            intros
            rename_i w3 hpost
            obtain ⟨A9, d9, f3, hV3, ho3⟩ := hpost
            obtain ⟨jt, rfl, hjt⟩ := knownB_nat HKN.out
            have hxl := exit_len hmany cfg mem [(jt : Int)]
            have HF3 := Lib.hid f3
            have HV3 := Lib.hid hV3
            have HO3 := Lib.hid ho3
            have HFW3 : Hid (Fr [] W w3) := Lib.hid (hR.out.fr.trans f3 (fun x hx hlt => by have := hR.out.low; simp at hx; omega))
            have HOWN3 := Lib.hid (own_fr hR.out.own f3 (fun q hq => by
              have := vm_own hR.out.vm hR.out.own
              simp
              rintro rfl
              exact this (by simp [hq])))
            have HB9 := Lib.hid (hR.out.b9.fr f3 (by simp))
            have HB11 := Lib.hid (hR.out.b11.fr f3 (by simp))
            have HSX3 := Lib.hid (int_own' ho3 (by omega))
            have HK3 := Lib.hid (int_own' HOWN3.out (by omega))
            obtain ⟨Av, dv, rfl⟩ := own_slice HOWN3.out
            have HROWS : Hid (∀ x, x ∈ kept → x ≠ (jt : Int) ∧ knownB c x = true ∧ x ∈ add1 S (jt : Int) ∧ Sl rInt (fun _ => True) w3 (f x) (exitL c cfg mem [x])) := Lib.hid (fun x hx => by
              have hxS := hR.out.sub x hx
              refine ⟨fun e => HNS.out (e ▸ hxS), hR.out.kn x hxS, mem_add1.2 (.inl hxS), (hR.out.rows x hxS).fr (fun q hq hlt => ⟨trivial, HF3.out.block q hlt (by simp; exact hq.2)⟩)⟩)
            have HOUT0 : Hid (OutV (w3.alloc (.cells #[.slice none 0 0] 29)) w3.heap.size w3.heap.size (.slice none 0 0) []) := Lib.hid ⟨Blk.new w3 _ 29, World.ownsRow_nil _ _ _ _⟩
            clear f3 hV3 ho3 hb9 hb11 hcw hlk
            obtain ⟨gt, ot, At', dt', rfl, hgt, kt0, _⟩ := HCH.out.tr hjt
            have hjt0 : (0 : Int) ≤ (jt : Int) := by omega
            have hjtz : (jt : Int) < (c.trans.length : Int) := by omega
            have HSRC : Hid (srcOf c (jt : Int) = c.trans[jt].src) := Lib.hid (by simp [srcOf, tr_at hjt])
            go_wp2
            obtain ⟨wo, rfl⟩ : ∃ wo : World, wo = wr := ⟨_, rfl⟩
            go_loopg [17, 57] kept.length (fun gg s17 s57 wi => ∃ (j : Nat) (gone : List Int) (vg : Value), j ≤ kept.length ∧ kept.length - j ≤ gg ∧ s17 = .bool false ∧ s57 = .int .i64 j ∧ Aside (OutV wi w3.heap.size w3.heap.size vg gone) ∧ Aside (Fr [] w3 wi) ∧ Aside (gone = (kept.take j).filter (confB c cfg mem (jt : Int))) ∧ Aside (∀ x, x ∈ kept.take j → stopB c cfg mem (jt : Int) x = false))
            case atStart => exact ⟨0, [], _, Nat.zero_le _, by omega, rfl, rfl, HOUT0.out, (show Aside _ from (Fr.refl [] w3).alloc _), (show ([] : List Int) = _ from by simp), (show Aside _ from fun x hx => by simp at hx)⟩
            case round =>
              obtain ⟨j, gone, vg, hj, hgj, rfl, rfl, hOut, hfr, hgone, hstop⟩ := hrel
              by_cases hjl : j < kept.length
              · have hjz : (j : Int) < (kept.length : Int) := by omega
                have hj0 : (0 : Int) ≤ (j : Int) := by omega
                obtain ⟨gk, ok, rfl, _, hgk, hck⟩ := HK3.out.int_at j hjl
                have hck2 := cell_on hfr.out hck
                have HMEM := Lib.hid (List.getElem_mem hjl)
                have HRX := Lib.hid (HROWS.out _ HMEM.out)
                have HFT := Lib.hid (filter_take_snoc (confB c cfg mem (jt : Int)) kept j hjl)
                have HTS := Lib.hid (List.take_succ_eq_append_getElem hjl)
                have hmem9 := (HB9.out.fr hfr.out (by simp)).cell 4
                have hmem11 := (HB11.out.fr hfr.out (by simp)).cell 0
                simp at hmem9 hmem11
                clear hck
                generalize kept[j] = x at *
                obtain ⟨jx, rfl, hjx⟩ := knownB_nat HRX.out.2.1
                have HW4 : Hid (Fr [] w3 (wr.alloc (.cells #[.int .i64 (jx : Int)] 3))) := Lib.hid (hfr.out.alloc _)
                have HV4 := Lib.hid (HV3.out.fr HW4.out (by simp))
                have hlk := HV4.out.look (x := (jt : Int)) (mem_add1.2 (.inr rfl)) (known_wf HKN.out ltr)
                simp only [if_true] at hlk
                have hsays := res_closure1 (wr.alloc (.cells #[.int .i64 (jx : Int)] 3)) (w1.heap.size + 1 + 1) wr.heap.size (w1.heap.size + 1) 131 3 _ _ (jx : Int) (exitL c cfg mem [(jx : Int)]) (HB11.out.fr HW4.out (by simp)) (Blk.new wr _ 3) HV4.out HRX.out.2.2.1 (known_wf HRX.out.2.1 ltr) (by
                  simp only [if_neg HRX.out.1]
                  exact HRX.out.2.2.2.fr (fun k _ hk => ⟨trivial, HW4.out.block k hk (by simp)⟩)) (exitL c cfg mem [(jt : Int)])
                have hcf := containsFunc 92 _ _ _ (fun _ => True) A9 d9 _ (HSX3.out.fr (fun k _ hk => ⟨trivial, HW4.out.block k hk (by simp)⟩)) hsays
                have hO4 := Lib.hid (hOut.out.fr ((Fr.refl [] wr).alloc (.cells #[.int .i64 (jx : Int)] 3)) (by simp) (by simp))
                have hcz : (exitL c cfg mem [(jt : Int)]).any (fun s => has (exitL c cfg mem [(jx : Int)]) s) = confB c cfg mem (jt : Int) (jx : Int) := rfl
                rw [hcz] at hcf
                clear hcz hsays
                have hlt11 : w1.heap.size + 1 + 1 < wr.heap.size := (HB11.out.fr hfr.out (by simp)).lt
                have hlt9 : w1.heap.size < wr.heap.size := (HB9.out.fr hfr.out (by simp)).lt
                have hlt16 : w3.heap.size < wr.heap.size := hOut.out.blk.lt
                cases hcb : confB c cfg mem (jt : Int) (jx : Int) with
                | false =>
                  rw [hcb] at hcf
                  have HG2 : Hid (gone = (kept.take (j + 1)).filter (confB c cfg mem (jt : Int))) := Lib.hid (by rw [HFT.out, hcb, hgone.out]; simp)
                  have HST2 : Hid (∀ x, x ∈ kept.take (j + 1) → stopB c cfg mem (jt : Int) x = false) := Lib.hid (fun x hx => by
                    rw [HTS.out] at hx
                    rcases List.mem_append.1 hx with h | h
                    · exact hstop.out x h
                    · rw [List.mem_singleton.1 h, stopB, hcb]; rfl)
                  clear hcb
                  go_wp2_with fail
                  refine hcf.mono ?_
                  rintro e w5 ⟨rfl, f5⟩
                  have HF5 := Lib.hid (HW4.out.trans' f5)
                  have HO5 := Lib.hid (hO4.out.fr f5 (by simp) (by simp))
                  clear f5 hcf
                  go_wp2
                  go_roundg (kept.length - (j + 1))
                  case measure => omega
                  case rel => exact ⟨j + 1, gone, vg, by omega, by omega, rfl, by go_num, HO5.out, HF5.out, HG2.out, HST2.out⟩
                | true =>
                  rw [hcb] at hcf
                  have HCB := Lib.hid hcb
                  clear hcb
                  go_wp2_with fail
                  refine hcf.mono ?_
                  rintro e w5 ⟨rfl, f5⟩
                  have HF5 := Lib.hid (HW4.out.trans' f5)
                  have HO5 := Lib.hid (hO4.out.fr f5 (by simp) (by simp))
                  have hx19 := ((Blk.new wr #[.int .i64 (jx : Int)] 3).fr f5 (by simp)).cell 0
                  simp at hx19
                  have h95 := (HB9.out.fr HF5.out (by simp)).cell 4
                  simp at h95
                  obtain ⟨gt2, ot2, _, _, e2, _, kx0, _⟩ := HCH.out.tr hjx
                  injection e2 with e2
                  injection e2 with e2 e3
                  subst e2 e3
                  have HFW5 := Lib.hid (HFW3.out.trans' HF5.out)
                  have kt5 := cell_on HFW5.out kt0
                  have kx5 := cell_on HFW5.out kx0
                  have HSRX : Hid (srcOf c (jx : Int) = c.trans[jx].src) := Lib.hid (by simp [srcOf, tr_at hjx])
                  have hjx0 : (0 : Int) ≤ (jx : Int) := by omega
                  have hjxz : (jx : Int) < (c.trans.length : Int) := by omega
                  have HIN : Hid (∀ w, Fr [] W w → Calls Try.prog 29 #[.pointer (some ⟨g, 0, none⟩), .int .i64 c.trans[jt].src, .int .i64 c.trans[jx].src] w fun e w' => e = .returned (.bool (inB c (srcOf c (jt : Int)) (srcOf c (jx : Int)))) ∧ w = w') := Lib.hid (fun w F => by
                    rw [HSRC.out, HSRX.out]
                    exact inside_any w g c _ _ (HL.out.on F))
                  obtain ⟨zi, hzi⟩ : ∃ zi, zi = inB c (srcOf c (jt : Int)) (srcOf c (jx : Int)) := ⟨_, rfl⟩
                  rw [← hzi] at HIN
                  have HZI := Lib.hid hzi
                  clear f5 hcf hzi kx0 hlk
                  generalize c.trans[jt].src = srcT at *
                  generalize c.trans[jx].src = srcX at *
                  go_wp2
                  go_quiet ((go_at_call 29; exact Calls.quiet_of_same ((HIN.out _ (by first | exact HFW5.out | exact HFW5.out.drew | exact HFW5.out.drewN _)).mono fun e w' ⟨a, b⟩ => ⟨a, b.symm⟩)))
                  have HF6 := Lib.hid (HF5.out.drewN nq)
                  have HO6 := Lib.hid (HO5.out.fr ((Fr.refl [] w5).drewN nq) (by simp) (by simp))
                  cases zi with
                  | false =>
                    have HS3 : Hid (resStep c cfg mem kept (jt : Int) = kept) := Lib.hid (by
                      unfold resStep
                      rw [if_pos (List.any_eq_true.2 ⟨_, HMEM.out, by rw [stopB, HCB.out, ← HZI.out]; rfl⟩)])
                    have HRN := Lib.hid (hR.out.step HNS.out HKN.out HF3.out HV3.out HO3.out (by omega) HF6.out.nil (own_fr HOWN3.out HF6.out (by simp)) (.inl rfl) (fun x hx => (HROWS.out x hx).2.2.1) hR.out.nd)
                    have HSZ : Hid ((add1 S (jt : Int)).length ≤ k + 1) := Lib.hid (by have := add1_len S (jt : Int); omega)
                    go_wp2
                    go_roundg (ts.length - (k + 1))
                    case measure => omega
                    case rel => exact ⟨k + 1, add1 S (jt : Int), kept, _, _, rfl, by omega, by omega, by go_num, HRN.out, (show Aside _ from by rw [HS2.out, HS3.out]; rfl), HSZ.out, by omega⟩
                  | true =>
                    have HG2 : Hid (gone ++ [(jx : Int)] = (kept.take (j + 1)).filter (confB c cfg mem (jt : Int))) := Lib.hid (by rw [HFT.out, HCB.out, hgone.out]; simp)
                    have HST2 : Hid (∀ x, x ∈ kept.take (j + 1) → stopB c cfg mem (jt : Int) x = false) := Lib.hid (fun x hx => by
                      rw [HTS.out] at hx
                      rcases List.mem_append.1 hx with h | h
                      · exact hstop.out x h
                      · rw [List.mem_singleton.1 h, stopB, HCB.out, ← HZI.out]; rfl)
                    have hgl : gone.length ≤ kept.length := by
                      rw [hgone.out]
                      exact Nat.le_trans (List.length_filter_le _ _) (by simp; omega)
                    have hvb := HO6.out.blk.cell 0
                    simp at hvb
                    obtain ⟨Ag, dg, rfl⟩ := own_slice HO6.out.own
                    have hnb := Lib.hid (heap_alloc_new (w5.drewN nq) (.cells #[.int .i64 (jx : Int)] 3))
                    have HAP := Lib.hid (HO6.out.own.alloc (.cells #[.int .i64 (jx : Int)] 3))
                    have hBw : w3.heap.size ≤ ((w5.drewN nq).alloc (.cells #[.int .i64 (jx : Int)] 3)).heap.size := by have := HF6.out.size; simp at this ⊢; omega
                    obtain ⟨i0, hi0, hz0, hz1, hz2⟩ := info_parts info3
                    go_wp2_with (at_builtin; refine wpList_append_lies _ rfl _ _ 29 rfl w3.heap.size 3 i0 _ 1 8 Try.underlying29 hi0 hz0 hz1 hz2 rfl (by decide) _ gone.length (gone.map (.int .i64)) rfl HAP.out ⟨_, 0, none⟩ 1 1 [.int .i64 (jx : Int)] rfl rfl (World.news_of_block hnb.out) (by simp [Value.oneCell']) (by decide) (by simp only [maxLen]; omega) (by omega) hBw _ rfl ?_)
                    intro g9 cap9 w9 hown9 hgrow hat hlt9
                    obtain ⟨hP1, hP2, hP3⟩ := HO6.out.push hgrow hown9
                    have HP1 := Lib.hid hP1
                    have HP2 : Hid (Fr [] w3 _) := Lib.hid (HF6.out.trans hP2 (fun x hx hlt => by
                      rcases List.mem_cons.1 hx with rfl | hx
                      · omega
                      · have := own_new HO6.out.own x hx; omega))
                    have hb9 := hP3.cell 0
                    have hf9 := hP3.free 0
                    have hbl9 := hP3.lt
                    simp at hb9
                    clear hP1 hP2 hP3 hown9 hgrow hat
                    go_wp2
                    go_roundg (kept.length - (j + 1))
                    case measure => omega
                    case rel => exact ⟨j + 1, gone ++ [(jx : Int)], _, by omega, by omega, rfl, by go_num, HP1.out, HP2.out, HG2.out, HST2.out⟩
              · obtain rfl : j = kept.length := by omega
                have hjz : ¬ (kept.length : Int) < (kept.length : Int) := by omega
                rw [List.take_length] at hgone hstop
                have HS3 : Hid (resStep c cfg mem kept (jt : Int) = kept.filter (fun k => !confB c cfg mem (jt : Int) k) ++ [(jt : Int)]) := Lib.hid (by
                  unfold resStep
                  rw [if_neg]
                  intro h
                  obtain ⟨x, hx, hs⟩ := List.any_eq_true.1 h
                  rw [hstop.out x hx] at hs
                  cases hs)
                have HFIL : Hid (kept.filter (fun x => !has gone x) = kept.filter (fun k => !confB c cfg mem (jt : Int) k)) := Lib.hid (List.filter_congr (fun x hx => by
                  have e : has gone x = confB c cfg mem (jt : Int) x := by
                    rw [Bool.eq_iff_iff, has_iff, hgone.out, List.mem_filter]
                    exact ⟨fun h => h.2, fun h => ⟨hx, h⟩⟩
                  rw [e]))
                have hgl : gone.length ≤ kept.length := by
                  rw [hgone.out]
                  exact List.length_filter_le _ _
                have HOWNr := Lib.hid (own_fr HOWN3.out hfr.out (by simp))
                obtain ⟨Ag, dg, rfl⟩ := own_slice hOut.out.own
                have hvlt : ∀ q, (Value.slice Av kept.length dv).ownBlock = some q → q < w3.heap.size := fun q hq => (HOWN3.out.lt q hq).2
                have hdel := deleteFunc 94 #[.pointer (some ⟨w3.heap.size, 0, none⟩)] (fun s => has gone s) kept wr W.heap.size _ HOWNr.out (by omega) (res_closure2 _ wr w3.heap.size 29 Ag dg gone _ hOut.out.blk (fun hm => by have := hvlt _ (by simpa using hm); omega) (int_own' hOut.out.own (by omega)) (fun q hq hm => by
                  have h1 := (hOut.out.own.lt q hq).1
                  have h2 := hvlt q (by simpa using hm)
                  omega) kept)
                have HVLT := Lib.hid hvlt
                clear hvlt
                go_wp2_with fail
                refine hdel.mono ?_
                rintro e w5 ⟨v5, rfl, own5, f5, hob5⟩
                have HO5 : Hid (w5.ownsRow W.heap.size 3 1 v5 (kept.filter (fun k => !confB c cfg mem (jt : Int) k)).length (I64s (kept.filter (fun k => !confB c cfg mem (jt : Int) k)))) := Lib.hid (by rw [← HFIL.out]; exact own5)
                have HF5 : Hid (Fr (Value.slice Av kept.length dv).ownBlock.toList w3 w5) := Lib.hid (hfr.out.nil.trans f5 (fun _ h _ => h))
                have HOB := Lib.hid hob5
                have hfl : (kept.filter (fun k => !confB c cfg mem (jt : Int) k)).length ≤ kept.length := List.length_filter_le _ _
                have HKN9 : Hid ((kept.filter (fun k => !confB c cfg mem (jt : Int) k) ++ [(jt : Int)]).Nodup) := Lib.hid (by
                  rw [List.nodup_append]
                  refine ⟨hR.out.nd.filter _, by simp, fun a ha b hb => ?_⟩
                  rw [List.mem_singleton.1 hb]
                  exact (HROWS.out a (List.mem_filter.1 ha).1).1)
                have HSUB9 : Hid (∀ x, x ∈ kept.filter (fun k => !confB c cfg mem (jt : Int) k) ++ [(jt : Int)] → x ∈ add1 S (jt : Int)) := Lib.hid (fun x hx => by
                  rcases List.mem_append.1 hx with h | h
                  · exact (HROWS.out x (List.mem_filter.1 h).1).2.2.1
                  · rw [List.mem_singleton.1 h]; exact mem_add1.2 (.inr rfl))
                clear own5 f5 hob5 hdel
                generalize kept.filter (fun k => !confB c cfg mem (jt : Int) k) = K at *
                have hnb := Lib.hid (heap_alloc_new w5 (.cells #[.int .i64 (jt : Int)] 3))
                have HAP := Lib.hid (HO5.out.alloc (.cells #[.int .i64 (jt : Int)] 3))
                have hBw : W.heap.size ≤ (w5.alloc (.cells #[.int .i64 (jt : Int)] 3)).heap.size := by have h1 := HF5.out.size; have h2 := HFW3.out.size; simp; omega
                obtain ⟨i0, hi0, hz0, hz1, hz2⟩ := info_parts info3
                have hSZ5 := Lib.hid HF5.out.size
                go_wp2_with (at_builtin; refine wpList_append_lies _ rfl _ _ 29 rfl W.heap.size 3 i0 _ 1 8 Try.underlying29 hi0 hz0 hz1 hz2 rfl (by decide) v5 K.length (K.map (.int .i64)) rfl HAP.out ⟨_, 0, none⟩ 1 1 [.int .i64 (jt : Int)] rfl rfl (World.news_of_block hnb.out) (by simp [Value.oneCell']) (by decide) (by simp only [maxLen]; omega) (by omega) hBw _ rfl ?_)
                intro g9 cap9 w9 hown9 hgrow hat hlt9
                have HO9 : Hid (w9.ownsRow W.heap.size 3 1 (.slice (some ⟨g9, 0, none⟩) (K.length + 1) cap9) (K ++ [(jt : Int)]).length (I64s (K ++ [(jt : Int)]))) := Lib.hid (by simpa using hown9)
                have HF9 : Hid (Fr (Value.slice Av kept.length dv).ownBlock.toList w3 w9) := Lib.hid (HF5.out.trans (((Fr.refl _ w5).alloc (.cells #[.int .i64 (jt : Int)] 3)).trans (Fr.of_grown (S := v5.ownBlock.toList) hgrow (fun b hb _ => by simp [hb])) (fun b hb _ => hb)) (fun b hb _ => by rw [← HOB.out]; exact hb))
                have HRN := Lib.hid (hR.out.step HNS.out HKN.out HF3.out HV3.out HO3.out (by omega) HF9.out HO9.out (by
                  rcases hat with e | e
                  · left; rw [← HOB.out, e]; rfl
                  · right
                    intro q hq
                    simp [Value.ownBlock] at hq
                    subst hq
                    have e3 : g9 = w5.heap.size + 1 := by simpa using e
                    have := hSZ5.out
                    omega) HSUB9.out HKN9.out)
                have HSZ : Hid ((add1 S (jt : Int)).length ≤ k + 1) := Lib.hid (by have := add1_len S (jt : Int); omega)
                have HKL : Hid ((K ++ [(jt : Int)]).length ≤ k + 1) := Lib.hid (by simp; omega)
                clear hown9 hgrow hat
                go_wp2
                go_roundg (ts.length - (k + 1))
                case measure => omega
                case rel => exact ⟨k + 1, add1 S (jt : Int), K ++ [(jt : Int)], _, _, rfl, by omega, by omega, by go_num, HRN.out, (show Aside _ from by rw [HS2.out, HS3.out]; rfl), HSZ.out, HKL.out⟩
    · obtain rfl : k = ts.length := by omega
      have hltz : ¬ (ts.length : Int) < (ts.length : Int) := by omega
      have HRES : Hid (resL c cfg mem ts = kept) := Lib.hid (by
        have h := hres.out
        rw [List.take_length] at h
        rw [resL, h])
      have HOW := Lib.hid hR.out.own
      obtain ⟨A8, d8, rfl⟩ := own_slice HOW.out
      go_wp2
      go_ret
      rw [HRES.out]
      exact ⟨_, _, rfl, hR.out.fr, HOW.out⟩
end Go.Proofs.Ytekfbafljilchaa
