/- (*Clock).take. -/
import Derived.Test.YtifjablnplpfnaaA5
set_option linter.unusedVariables false
set_option linter.unusedSimpArgs false
namespace Go.Proofs.Ytifjablnplpfnaa
open Go.RowKit Go.Lib

/-- A row of timers: nil, or the head of a block. -/
def TRow (w : World) (v : Value) (rb : Option Nat) (ts : List Tm) : Prop :=
  (v = .slice none 0 0 ∧ rb = none ∧ ts = []) ∨
  ∃ g cap cur rest, v = .slice (some ⟨g, 0, none⟩) ts.length cap ∧ rb = some g ∧ Blk w g cur 44 ∧ cur.toList = flat ts ++ rest ∧ ts.length ≤ cap ∧ cap ≤ maxLen ∧ cur.size = cap * 4

/-- A clock in memory. -/
def Clk (w : World) (gc : Nat) (rb : Option Nat) (now : Int) (ts : List Tm) : Prop :=
  ∃ v, Blk w gc #[.int .i64 now, v] 59 ∧ TRow w v rb ts

theorem TRow.fr {w w' : World} {v : Value} {rb : Option Nat} {ts : List Tm} {S : List Nat} (h : TRow w v rb ts) (f : Fr S w w') (hn : ∀ k, rb = some k → k ∉ S) : TRow w' v rb ts := by
  rcases h with h | ⟨g, cap, cur, rest, hv, rfl, hb, hr⟩
  · exact .inl h
  · exact .inr ⟨g, cap, cur, rest, hv, rfl, hb.fr f (hn g rfl), hr⟩
theorem TRow.lt {w : World} {v : Value} {rb : Option Nat} {ts : List Tm} (h : TRow w v rb ts) : ∀ k, rb = some k → k < w.heap.size ∧ ∃ c, Blk w k c 44 := by
  rintro k rfl
  rcases h with ⟨_, h, _⟩ | ⟨g, cap, cur, rest, hv, h, hb, hr⟩
  · cases h
  · injection h with h; subst h; exact ⟨hb.lt, cur, hb⟩
theorem Clk.fr {w w' : World} {gc : Nat} {rb : Option Nat} {now : Int} {ts : List Tm} {S : List Nat} (h : Clk w gc rb now ts) (f : Fr S w w') (hg : gc ∉ S) (hn : ∀ k, rb = some k → k ∉ S) : Clk w' gc rb now ts := by
  obtain ⟨v, hb, hr⟩ := h
  exact ⟨v, hb.fr f hg, hr.fr f hn⟩

theorem deleteFunc_nil (fv : Nat) (lb : Array Value) (eg : ∀ args w, (callFunc fv args).run Try.prog w = .ok (.enter fv args) w) (W : World) :
    Calls Try.prog 32 #[.slice none 0 0, .func (.func fv) #[] lb] W fun e w' => e = .returned (.slice none 0 0) ∧ w' = W := by
  have hIF := indexFunc fv lb (fun _ => false) [] none 0 W (fun _ w' => w' = W) eg (by simp) rfl (fun k W hI hk => absurd hk (by simp))
  go_enter Try.func32, Try.ntmps32
  go_wp2_with fail
  refine hIF.mono ?_
  rintro e w1 h1
  rcases h1 with ⟨rfl, hno, rfl⟩ | ⟨k, hk, _⟩
  · go_wp2
    go_ret
    exact ⟨rfl, rfl⟩
  · exact absurd hk (by simp)

/-- What take comes to. -/
def TookPost (W : World) (gc : Nat) (rb : Option Nat) (now : Int) (ts : List Tm) (p : Tm → Bool) (e : Ending) (w' : World) : Prop :=
  ∃ vr, e = .returned vr ∧ w'.ownsRow W.heap.size 3 1 vr (ts.filter p).length (((ts.filter p).map Tm.n).map (Value.int .i64)) ∧ Clk w' gc rb now (ts.filter (fun t => !p t)) ∧ Fr (gc :: rb.toList) W w'

theorem own_low {w : World} {base base' n : Nat} {e : TypeId} {size : Nat} {v : Value} {xs : List Value} (h : w.ownsRow base e size v n xs) (hb : base' ≤ base) : w.ownsRow base' e size v n xs := by
  refine ⟨h.1, ?_⟩
  rcases h.2 with hl | ⟨g, cap, cur, rfl, hb', rest⟩
  · exact .inl hl
  · exact .inr ⟨g, cap, cur, rfl, by omega, rest⟩

theorem TRow.slice {w : World} {v : Value} {rb : Option Nat} {ts : List Tm} (h : TRow w v rb ts) : ∃ A n c, v = .slice A n c := by
  rcases h with ⟨rfl, _⟩ | ⟨g, cap, cur, rest, rfl, _⟩ <;> exact ⟨_, _, _, rfl⟩

/-- DeleteFunc at a row of timers, nil or not. -/
theorem delete_row (fv : Nat) (lb : Array Value) (p : Tm → Bool) (L : List (Nat × Array Value × TypeId)) (hp : GoneOK fv lb p L)
    (bg bo base : Nat) (ts : List Tm) (W : World) (v : Value) (rb : Option Nat) (hL : Blks W L) (hg : Blk W bg #[.func (.func fv) #[] lb] 67)
    (hLS : ∀ x, x ∈ L → x.1 < base ∧ x.1 ≠ bo ∧ ∀ k, rb = some k → x.1 ≠ k) (hgS : bg < base ∧ bg ≠ bo ∧ ∀ k, rb = some k → bg ≠ k) (hbase : base ≤ W.heap.size) (hbo : bo < base) (hn : ts.length ≤ 100000)
    (hr : TRow W v rb ts) (hrb : ∀ k, rb = some k → k < base ∧ k ≠ bo) (hout : Blk W bo #[.slice none 0 0] 32) :
    Calls Try.prog 32 #[v, .func (.func 33) #[] #[.pointer (some ⟨bg, 0, none⟩), .pointer (some ⟨bo, 0, none⟩)]] W fun e w' =>
      ∃ v', e = .returned v' ∧ TRow w' v' rb (ts.filter (fun t => !p t)) ∧ TakeInv W base bo [] (bo :: rb.toList) p ts ts.length w' := by
  have h0 : TakeInv W base bo [] (bo :: rb.toList) p ts 0 W := ⟨.slice none 0 0, ⟨hout, by simpa using World.ownsRow_nil W base 3 1⟩, Fb.refl _ _ _⟩
  rcases hr with ⟨rfl, rfl, rfl⟩ | ⟨g, cap, cur, rest, rfl, rfl, hcur, hcl, hcap, hcm, hcs⟩
  · refine (deleteFunc_nil 33 _ (enters_of Try.func33 (by kernel_rfl) rfl) W).mono ?_
    rintro e w' ⟨rfl, rfl⟩
    exact ⟨_, rfl, .inl ⟨rfl, rfl, rfl⟩, h0⟩
  · have hgb := hrb g rfl
    refine (deleteFunc fv lb p L hp bg bo base [] ts W (bo :: (some g).toList) hL hg (fun x hx => ⟨(hLS x hx).1, by have h1 := (hLS x hx).2; simp; exact ⟨h1.1, h1.2 g rfl⟩⟩) ⟨hgS.1, by simp; exact ⟨hgS.2.1, hgS.2.2 g rfl⟩⟩
      (by simp) hbase hbo (by simp; omega) g cap cur rest hcur hcl hcap hcm hgb.1 hgb.2 (by simp) h0).mono ?_
    rintro e w' ⟨rfl, hI, cur', rest', hb', hl', hs'⟩
    exact ⟨_, rfl, .inr ⟨g, cap, cur', rest', rfl, rfl, hb', hl', Nat.le_trans (List.length_filter_le _ _) hcap, hcm, by omega⟩, hI⟩

set_option maxHeartbeats 1000000 in
theorem take_any (fv : Nat) (lb : Array Value) (p : Tm → Bool) (L : List (Nat × Array Value × TypeId)) (hp : GoneOK fv lb p L)
    (W : World) (gc : Nat) (rb : Option Nat) (now : Int) (ts : List Tm) (hC : Clk W gc rb now ts) (hL : Blks W L) (hLS : ∀ x, x ∈ L → ∀ k, rb = some k → x.1 ≠ k) (hn : ts.length ≤ 100000) :
    Calls Try.prog 26 #[.pointer (some ⟨gc, 0, none⟩), .func (.func fv) #[] lb] W (TookPost W gc rb now ts p) := by
  obtain ⟨v, hgc, hr⟩ := hC
  have hfr : Fr [] W ((W.alloc (.cells #[.func (.func fv) #[] lb] 67)).alloc (.cells #[.slice none 0 0] 32)) := ((Fr.refl [] W).alloc _).alloc _
  have hgl := hgc.lt
  have hg1 := hgc.cell 1
  simp at hg1
  have hrl := hr.lt
  have hD := delete_row fv lb p L hp W.heap.size (W.heap.size + 1) (W.heap.size + 2) ts ((W.alloc (.cells #[.func (.func fv) #[] lb] 67)).alloc (.cells #[.slice none 0 0] 32)) v rb (hL.fr hfr (by simp))
    ((Blk.new W _ 67).alloc _) (fun x hx => ⟨by have := (hL x hx).lt; omega, by have := (hL x hx).lt; omega, hLS x hx⟩) ⟨by omega, by omega, fun k hk => by have := (hrl k hk).1; omega⟩ (by simp) (by omega) hn
    (hr.fr hfr (by simp)) (fun k hk => by have := (hrl k hk).1; omega) (by simpa using Blk.new (W.alloc (.cells #[.func (.func fv) #[] lb] 67)) #[.slice none 0 0] 32)
  obtain ⟨A, n, c, rfl⟩ := hr.slice
  go_enter Try.func26, Try.ntmps26
  go_wp2_with fail
  refine hD.mono ?_
  rintro e w1 ⟨v', rfl, hr', vo, ho, hF⟩
  obtain ⟨A', n', c', rfl⟩ := hr'.slice
  have hgc0 : Blk ((W.alloc (.cells #[.func (.func fv) #[] lb] 67)).alloc (.cells #[.slice none 0 0] 32)) gc _ 59 := hgc.fr hfr (by simp)
  have hgc1 := hgc0.fb hF (by omega) (by simp; exact ⟨by omega, fun h => by obtain ⟨_, c, e⟩ := hrl gc h; exact hgc.ne e (by decide) rfl⟩)
  have hl1 := hgc1.lt
  have hcell := hgc1.cell 1
  have hfree := hgc1.free 1
  simp at hcell
  have hob := ho.blk.lt
  have hoc := ho.blk.cell 0
  simp at hoc
  obtain ⟨Ao, co, rfl⟩ := own_slice ho.own
  clear hD hL hgc hr hrl
  go_wp2
  go_ret
  refine ⟨_, rfl, ?_, ⟨_, by simpa using hgc1.set 1 (.slice A' n' c'), ?_⟩, ?_⟩
  · have h1 := own_fr ho.own (Fr.setCell (Fr.refl [gc] w1) (p := ⟨gc, 1, none⟩) (by simp) (.slice A' n' c')) (fun k hk => by have := (ho.own.lt k hk).1; simp; omega)
    have h2 := own_low (base' := W.heap.size) h1 (by omega)
    simpa using h2
  · exact hr'.fr (Fr.setCell (Fr.refl [gc] w1) (p := ⟨gc, 1, none⟩) (by simp) (.slice A' n' c')) (fun k hk => by
      obtain ⟨_, c, e⟩ := hr'.lt k hk
      simp
      exact e.ne hgc1 (by decide))
  · have h1 := hfr.nil.trans (S := gc :: rb.toList) (hF.fr (by simp)) (fun x hx hxl => by
      rcases List.mem_cons.1 hx with rfl | hx
      · omega
      · exact List.mem_cons_of_mem _ hx)
    exact h1.setCell (by simp) _
end Go.Proofs.Ytifjablnplpfnaa
