/- slices.Clone at each of its instances. (The instances are printed by clones.py.) -/
import Derived.Test.YtekfbafljilchaaA1
set_option linter.unusedVariables false
set_option linter.unusedSimpArgs false
namespace Go.Proofs.Ytekfbafljilchaa
open Go.RowKit Go.Lib

/-- Rows of cells that say the elements of l. -/
def Rows_ {α : Type} (K : Rk α) (p : Nat → Prop) (w : World) (css : List (List Value)) (l : List α) : Prop :=
  css.length = l.length ∧ ∀ (j : Nat) (cs : List Value) (x : α), css[j]? = some cs → l[j]? = some x → K.ok p w cs x
theorem Rows_.fr {α : Type} {K : Rk α} {p q : Nat → Prop} {w w' : World} {css : List (List Value)} {l : List α} (hp : ∀ k, p k → k < w.heap.size → q k ∧ w'.heap[k]? = w.heap[k]?) (h : Rows_ K p w css l) : Rows_ K q w' css l :=
  ⟨h.1, fun j cs x h1 h2 => K.fr hp (h.2 j cs x h1 h2)⟩
theorem Rows_.lens {α : Type} {K : Rk α} {p : Nat → Prop} {w : World} {css : List (List Value)} {l : List α} (h : Rows_ K p w css l) : ∀ cs ∈ css, cs.length = K.n := fun cs hc => by
  obtain ⟨j, hj, rfl⟩ := List.getElem_of_mem hc
  exact K.len (h.2 j _ (l[j]'(by rw [← h.1]; exact hj)) (List.getElem?_eq_getElem hj) (List.getElem?_eq_getElem _))
theorem Rows_.one {α : Type} {K : Rk α} {p : Nat → Prop} {w : World} {css : List (List Value)} {l : List α} (h : Rows_ K p w css l) : ∀ u ∈ css.flatten, u.oneCell' = true := fun u hu => by
  obtain ⟨cs, hc, hu⟩ := List.mem_flatten.1 hu
  obtain ⟨j, hj, rfl⟩ := List.getElem_of_mem hc
  exact K.one (h.2 j _ (l[j]'(by rw [← h.1]; exact hj)) (List.getElem?_eq_getElem hj) (List.getElem?_eq_getElem _)) u hu

theorem flat_len {n : Nat} : ∀ {css : List (List Value)}, (∀ cs ∈ css, cs.length = n) → css.flatten.length = css.length * n
  | [], _ => by simp
  | c :: css, h => by
    rw [List.flatten_cons, List.length_append, h c (List.mem_cons_self ..), flat_len (fun cs hc => h cs (List.mem_cons_of_mem _ hc)), List.length_cons, Nat.add_mul, Nat.one_mul, Nat.add_comm]
theorem flat_get {n : Nat} : ∀ {css : List (List Value)}, (∀ cs ∈ css, cs.length = n) → ∀ j i, i < n → css.flatten[j * n + i]? = css[j]?.bind (fun cs => cs[i]?)
  | [], _, j, i, _ => by simp
  | c :: css, h, 0, i, hi => by
    have hc := h c (List.mem_cons_self ..)
    rw [List.flatten_cons, Nat.zero_mul, Nat.zero_add, List.getElem?_append_left (by omega)]
    rfl
  | c :: css, h, j + 1, i, hi => by
    have hc := h c (List.mem_cons_self ..)
    rw [List.flatten_cons, List.getElem?_append_right (by rw [hc, Nat.add_mul]; omega), show (j + 1) * n + i - c.length = j * n + i by rw [hc, Nat.add_mul]; omega, flat_get (fun cs hc => h cs (List.mem_cons_of_mem _ hc)) j i hi]
    rfl
theorem flat_set {n : Nat} : ∀ {css : List (List Value)}, (∀ cs ∈ css, cs.length = n) → ∀ j i v, i < n → css.flatten.set (j * n + i) v = (css.modify j (fun cs => cs.set i v)).flatten
  | [], _, j, i, v, _ => by cases j <;> simp
  | c :: css, h, 0, i, v, hi => by
    have hc := h c (List.mem_cons_self ..)
    rw [List.flatten_cons, Nat.zero_mul, Nat.zero_add, List.set_append_left _ _ (by omega)]
    simp
  | c :: css, h, j + 1, i, v, hi => by
    have hc := h c (List.mem_cons_self ..)
    rw [List.flatten_cons, List.set_append_right _ _ (by rw [hc, Nat.add_mul]; omega), show (j + 1) * n + i - c.length = j * n + i by rw [hc, Nat.add_mul]; omega, flat_set (fun cs hc => h cs (List.mem_cons_of_mem _ hc)) j i v hi]
    simp

/-- A slice's cells, in one line. -/
theorem Sl.flat {α : Type} {K : Rk α} {p : Nat → Prop} {w : World} {ad : Addr} {n c : Nat} {l : List α} (h : Sl K p w (.slice (some ad) n c) l) :
    ∃ css, Rows_ K p w css l ∧ css.flatten.length = l.length * K.n ∧ ∀ i u, css.flatten[i]? = some u → w.cell? (ad.add i) = some u := by
  obtain ⟨A', c', e, _, _, hr⟩ := h
  injection e with e1 e2 e3
  subst e1
  have each : ∀ j : Fin l.length, ∃ cs, K.ok p w cs l[j.1] ∧ ∀ i u, cs[i]? = some u → w.cell? (ad.add (j.1 * K.n + i)) = some u := by
    intro j
    obtain ⟨g, o, cs, hA, _, _, hok, hcell⟩ := hr j.1 _ (List.getElem?_eq_getElem j.2)
    injection hA with hA
    subst hA
    refine ⟨cs, hok, fun i u hu => ?_⟩
    have := hcell i u hu
    rw [← this]
    congr 1
    unfold Addr.add
    split
    · rename_i h0
      simp [h0, Nat.add_assoc]
    · simp [Nat.add_assoc]
  obtain ⟨f, hf⟩ := Classical.axiomOfChoice each
  have hR : Rows_ K p w (List.ofFn f) l := ⟨by simp, fun j cs x h1 h2 => by
    have hj : j < l.length := (List.getElem?_eq_some_iff.1 h2).1
    have e1 : f ⟨j, hj⟩ = cs := by
      rw [List.getElem?_eq_getElem (by simpa using hj)] at h1
      simpa using h1
    have e2 : l[j] = x := by
      rw [List.getElem?_eq_getElem hj] at h2
      simpa using h2
    subst e1 e2
    exact (hf ⟨j, hj⟩).1⟩
  refine ⟨List.ofFn f, hR, ?_, fun i u hu => ?_⟩
  · rw [flat_len hR.lens, hR.1]
  · have hi : i < l.length * K.n := by
      have := (List.getElem?_eq_some_iff.1 hu).1
      rwa [flat_len hR.lens, hR.1] at this
    have hpos := K.pos
    have e : i = i / K.n * K.n + i % K.n := by rw [Nat.mul_comm]; exact (Nat.div_add_mod i K.n).symm
    have hm : i % K.n < K.n := Nat.mod_lt _ hpos
    have hj : i / K.n < l.length := by
      rw [Nat.div_lt_iff_lt_mul hpos]; exact hi
    rw [e, flat_get hR.lens _ _ hm, List.getElem?_eq_getElem (by simpa using hj)] at hu
    have := (hf ⟨i / K.n, hj⟩).2 (i % K.n) u (by simpa using hu)
    rwa [← e] at this

/-- What Clone comes to. -/
def ClonePost {α : Type} (K : Rk α) (t : Nat) (p : Nat → Prop) (w : World) (l : List α) (e : Ending) (w' : World) : Prop :=
  ∃ v' css, e = .returned v' ∧ Fr [] w w' ∧ w'.ownsRow w.heap.size t K.n v' l.length css.flatten ∧ Rows_ K p w css l

/-- A block that the call may write. -/
def Free (w : World) (k : Nat) : Prop := ∃ c t, Blk w k c t
theorem Free.fr {w w' : World} {S : List Nat} {k : Nat} (h : Free w k) (f : Fr S w w') (hn : k ∉ S) : Free w' k := by
  obtain ⟨c, t, h⟩ := h
  exact ⟨c, t, h.fr f hn⟩

/-- A row of one's own reads as its elements. -/
theorem sl_of_own {α : Type} {K : Rk α} {t base : Nat} {p : Nat → Prop} {w : World} {v : Value} {l : List α} {css : List (List Value)} (h : w.ownsRow base t K.n v l.length css.flatten) (hR : Rows_ K p w css l) (hr : l.length * K.by_ ≤ 140737488351232)
    (hp : ∀ k, base ≤ k → k < w.heap.size → v.ownBlock = some k → p k) : Sl K p w v l := by
  rcases h.2 with ⟨rfl, h0⟩ | ⟨g, cap, cur, rfl, hb, hg, hc, hm, hs, ht⟩
  · obtain rfl : l = [] := List.eq_nil_of_length_eq_zero h0
    exact Sl.nil K p w
  · have hgl : g < w.heap.size := (Array.getElem?_eq_some_iff.1 hg).1
    refine ⟨_, cap, rfl, hc, hr, fun j x hj => ?_⟩
    have hjl : j < l.length := (List.getElem?_eq_some_iff.1 hj).1
    have hjc : j < css.length := by rw [hR.1]; exact hjl
    have hok := hR.2 j _ x (List.getElem?_eq_getElem hjc) hj
    refine ⟨g, 0, css[j], rfl, hp g hb hgl rfl, hgl, hok, fun i u hu => ?_⟩
    have hi : i < K.n := by have := (List.getElem?_eq_some_iff.1 hu).1; rwa [K.len hok] at this
    have := h.cells (g := g) rfl (j * K.n + i) u (by rw [flat_get hR.lens _ _ hi, List.getElem?_eq_getElem hjc]; exact hu)
    have e : (⟨g, 0, none⟩ : Addr).add (j * K.n + i) = ⟨g, 0 + j * K.n + i, none⟩ := by
      unfold Addr.add
      split
      · rename_i h0; simp only [Addr.mk.injEq, true_and, and_true]; omega
      · simp
    rwa [e] at this
theorem Sl.nil_of {α : Type} {K : Rk α} {p : Nat → Prop} {w : World} {n c : Nat} {l : List α} (h : Sl K p w (.slice none n c) l) : l = [] := by
  obtain ⟨A', c', e, _, _, hr⟩ := h
  injection e with e1
  subst e1
  apply List.eq_nil_of_length_eq_zero
  rcases Nat.eq_zero_or_pos l.length with h0 | h0
  · exact h0
  · obtain ⟨g, o, cs, hA, _⟩ := hr 0 _ (List.getElem?_eq_getElem h0)
    cases hA
theorem own_free {w : World} {base n : Nat} {e : TypeId} {size : Nat} {v : Value} {xs : List Value} (h : w.ownsRow base e size v n xs) (k : Nat) (hk : v.ownBlock = some k) : Free w k := by
  rcases h.2 with ⟨rfl, _⟩ | ⟨g, cap, cur, rfl, hb, hg, _⟩
  · simp [Value.ownBlock] at hk
  · simp [Value.ownBlock] at hk
    subst hk
    exact ⟨cur, e, hg⟩

set_option maxRecDepth 100000 in
theorem info3 : (Try.prog.info? 3).map (fun i => (i.zero, i.size, i.bytes)) = some (some (.int .i64 0), 1, 8) := by kernel_rfl
set_option maxRecDepth 100000 in
set_option maxHeartbeats 1000000 in
theorem clone_int (w : World) (p : Nat → Prop) (v : Value) (l : List Int) (h : Sl rInt p w v l) : Calls Try.prog 82 #[v] w (ClonePost rInt 3 p w l) := by
  obtain ⟨A, c, rfl, hc⟩ := h.form
  have hreach := h.reach
  obtain ⟨i0, hi, hz0, hz1, hz2⟩ := info_parts info3
  cases A with
  | none =>
    obtain rfl := h.nil_of
    have heq : ∀ w', (binOp .eql 29 (.slice none 0 c) (.slice none 0 0)).run Try.prog w' = .ok (.bool true) w' := fun w' => by
      exact Go.Lib.run_eql_slice_nil (P := Try.prog) w' 29 3 none 0 c 0 0 Try.underlying29
    go_enter Try.func82, Try.ntmps82
    go_wp2
    go_ret
    exact ⟨_, [], rfl, Fr.refl _ _, World.ownsRow_nil _ _ _ _, rfl, fun j cs x h1 => by simp at h1⟩
  | some ad =>
    obtain ⟨css, hR, hfl, hcell⟩ := h.flat
    have hcell' : ∀ i u, css.flatten[i]? = some u → (w.alloc (.cells #[] 3)).cell? (ad.add i) = some u := fun i u hu => by
      have hh := hcell i u hu
      rw [← hh]
      exact World.cell?_of_block (((Fr.refl [] w).alloc _).block _ (World.block_lt_of_cell? w _ hh) (by simp))
    have hmade := World.ownsRow_made (base := w.heap.size) (e := 3) (size := 1) w #[] 0 (Nat.le_refl _) (by simp [maxLen]) (by simp)
    have hone := hR.one
    have heq : ∀ w', (binOp .eql 29 (.slice (some ad) l.length c) (.slice none 0 0)).run Try.prog w' = .ok (.bool false) w' := fun w' => by
      exact Go.Lib.run_eql_slice_nil (P := Try.prog) w' 29 3 (some ad) l.length c 0 0 Try.underlying29
    have HR := Lib.hid hR
    have hlen : l.length * 8 ≤ 140737488351232 := hreach
    clear hR hcell h hreach
    go_enter Try.func82, Try.ntmps82
    go_wp2_with (at_builtin; refine wpList_append_own _ rfl _ _ 29 rfl w.heap.size 3 i0 _ 1 8 Try.underlying29 hi hz0 hz1 hz2 rfl (by decide) _ _ _ rfl hmade ad l.length c css.flatten rfl hfl hcell' hone ?c4 ?c5 ?c6 ?_)
    case c4 => unfold maxLen; omega
    case c5 => omega
    case c6 => simp
    intro v' w1 hown' hgrow _
    have hown2 : w1.ownsRow w.heap.size 3 1 v' l.length css.flatten := by simpa using hown'
    have hf : Fr [] w w1 := ((Fr.refl [] w).alloc _).trans (Fr.of_grown (S := [w.heap.size]) hgrow (fun k hk _ => by simp [Value.ownBlock] at hk; simp [hk])) (fun x hx hxl => by simp at hx; omega)
    obtain ⟨A', c', rfl⟩ := own_slice hown'
    clear hown' hgrow
    go_wp2
    go_ret
    exact ⟨_, css, rfl, hf, hown2, HR.out⟩

set_option maxRecDepth 100000 in
theorem info9 : (Try.prog.info? 9).map (fun i => (i.zero, i.size, i.bytes)) = some (some (.string ⟨#[]⟩), 1, 16) := by kernel_rfl
set_option maxRecDepth 100000 in
set_option maxHeartbeats 1000000 in
theorem clone_str (w : World) (p : Nat → Prop) (v : Value) (l : List ByteArray) (h : Sl rStr p w v l) : Calls Try.prog 86 #[v] w (ClonePost rStr 9 p w l) := by
  obtain ⟨A, c, rfl, hc⟩ := h.form
  have hreach := h.reach
  obtain ⟨i0, hi, hz0, hz1, hz2⟩ := info_parts info9
  cases A with
  | none =>
    obtain rfl := h.nil_of
    have heq : ∀ w', (binOp .eql 43 (.slice none 0 c) (.slice none 0 0)).run Try.prog w' = .ok (.bool true) w' := fun w' => by
      exact Go.Lib.run_eql_slice_nil (P := Try.prog) w' 43 9 none 0 c 0 0 Try.underlying43
    go_enter Try.func86, Try.ntmps86
    go_wp2
    go_ret
    exact ⟨_, [], rfl, Fr.refl _ _, World.ownsRow_nil _ _ _ _, rfl, fun j cs x h1 => by simp at h1⟩
  | some ad =>
    obtain ⟨css, hR, hfl, hcell⟩ := h.flat
    have hcell' : ∀ i u, css.flatten[i]? = some u → (w.alloc (.cells #[] 9)).cell? (ad.add i) = some u := fun i u hu => by
      have hh := hcell i u hu
      rw [← hh]
      exact World.cell?_of_block (((Fr.refl [] w).alloc _).block _ (World.block_lt_of_cell? w _ hh) (by simp))
    have hmade := World.ownsRow_made (base := w.heap.size) (e := 9) (size := 1) w #[] 0 (Nat.le_refl _) (by simp [maxLen]) (by simp)
    have hone := hR.one
    have heq : ∀ w', (binOp .eql 43 (.slice (some ad) l.length c) (.slice none 0 0)).run Try.prog w' = .ok (.bool false) w' := fun w' => by
      exact Go.Lib.run_eql_slice_nil (P := Try.prog) w' 43 9 (some ad) l.length c 0 0 Try.underlying43
    have HR := Lib.hid hR
    have hlen : l.length * 16 ≤ 140737488351232 := hreach
    clear hR hcell h hreach
    go_enter Try.func86, Try.ntmps86
    go_wp2_with (at_builtin; refine wpList_append_own _ rfl _ _ 43 rfl w.heap.size 9 i0 _ 1 16 Try.underlying43 hi hz0 hz1 hz2 rfl (by decide) _ _ _ rfl hmade ad l.length c css.flatten rfl hfl hcell' hone ?c4 ?c5 ?c6 ?_)
    case c4 => unfold maxLen; omega
    case c5 => omega
    case c6 => simp
    intro v' w1 hown' hgrow _
    have hown2 : w1.ownsRow w.heap.size 9 1 v' l.length css.flatten := by simpa using hown'
    have hf : Fr [] w w1 := ((Fr.refl [] w).alloc _).trans (Fr.of_grown (S := [w.heap.size]) hgrow (fun k hk _ => by simp [Value.ownBlock] at hk; simp [hk])) (fun x hx hxl => by simp at hx; omega)
    obtain ⟨A', c', rfl⟩ := own_slice hown'
    clear hown' hgrow
    go_wp2
    go_ret
    exact ⟨_, css, rfl, hf, hown2, HR.out⟩

set_option maxRecDepth 100000 in
theorem info130 : (Try.prog.info? 130).map (fun i => (i.zero, i.size, i.bytes)) = some (some (.agg #[(.string ⟨#[]⟩), (.string ⟨#[]⟩)]), 2, 32) := by kernel_rfl
set_option maxRecDepth 100000 in
set_option maxHeartbeats 1000000 in
theorem clone_par (w : World) (p : Nat → Prop) (v : Value) (l : List DPar) (h : Sl rPar p w v l) : Calls Try.prog 117 #[v] w (ClonePost rPar 130 p w l) := by
  obtain ⟨A, c, rfl, hc⟩ := h.form
  have hreach := h.reach
  obtain ⟨i0, hi, hz0, hz1, hz2⟩ := info_parts info130
  cases A with
  | none =>
    obtain rfl := h.nil_of
    have heq : ∀ w', (binOp .eql 46 (.slice none 0 c) (.slice none 0 0)).run Try.prog w' = .ok (.bool true) w' := fun w' => by
      exact Go.Lib.run_eql_slice_nil (P := Try.prog) w' 46 130 none 0 c 0 0 Try.underlying46
    go_enter Try.func117, Try.ntmps117
    go_wp2
    go_ret
    exact ⟨_, [], rfl, Fr.refl _ _, World.ownsRow_nil _ _ _ _, rfl, fun j cs x h1 => by simp at h1⟩
  | some ad =>
    obtain ⟨css, hR, hfl, hcell⟩ := h.flat
    have hcell' : ∀ i u, css.flatten[i]? = some u → (w.alloc (.cells #[] 130)).cell? (ad.add i) = some u := fun i u hu => by
      have hh := hcell i u hu
      rw [← hh]
      exact World.cell?_of_block (((Fr.refl [] w).alloc _).block _ (World.block_lt_of_cell? w _ hh) (by simp))
    have hmade := World.ownsRow_made (base := w.heap.size) (e := 130) (size := 2) w #[] 0 (Nat.le_refl _) (by simp [maxLen]) (by simp)
    have hone := hR.one
    have heq : ∀ w', (binOp .eql 46 (.slice (some ad) l.length c) (.slice none 0 0)).run Try.prog w' = .ok (.bool false) w' := fun w' => by
      exact Go.Lib.run_eql_slice_nil (P := Try.prog) w' 46 130 (some ad) l.length c 0 0 Try.underlying46
    have HR := Lib.hid hR
    have hlen : l.length * 32 ≤ 140737488351232 := hreach
    clear hR hcell h hreach
    go_enter Try.func117, Try.ntmps117
    go_wp2_with (at_builtin; refine wpList_append_own _ rfl _ _ 46 rfl w.heap.size 130 i0 _ 2 32 Try.underlying46 hi hz0 hz1 hz2 rfl (by decide) _ _ _ rfl hmade ad l.length c css.flatten rfl hfl hcell' hone ?c4 ?c5 ?c6 ?_)
    case c4 => unfold maxLen; omega
    case c5 => omega
    case c6 => simp
    intro v' w1 hown' hgrow _
    have hown2 : w1.ownsRow w.heap.size 130 2 v' l.length css.flatten := by simpa using hown'
    have hf : Fr [] w w1 := ((Fr.refl [] w).alloc _).trans (Fr.of_grown (S := [w.heap.size]) hgrow (fun k hk _ => by simp [Value.ownBlock] at hk; simp [hk])) (fun x hx hxl => by simp at hx; omega)
    obtain ⟨A', c', rfl⟩ := own_slice hown'
    clear hown' hgrow
    go_wp2
    go_ret
    exact ⟨_, css, rfl, hf, hown2, HR.out⟩

set_option maxRecDepth 100000 in
theorem info50 : (Try.prog.info? 50).map (fun i => (i.zero, i.size, i.bytes)) = some (some (.agg #[(.string ⟨#[]⟩), (.int .i64 0), (.int .i64 0), (.slice none 0 0), (.int .i64 0), (.slice none 0 0), (.slice none 0 0), (.slice none 0 0), (.slice none 0 0), (.slice none 0 0), (.int .i64 0), (.slice none 0 0), (.string ⟨#[]⟩)]), 13, 232) := by kernel_rfl
set_option maxRecDepth 100000 in
set_option maxHeartbeats 1000000 in
theorem clone_state (w : World) (p : Nat → Prop) (v : Value) (l : List DState) (h : Sl rState p w v l) : Calls Try.prog 83 #[v] w (ClonePost rState 50 p w l) := by
  obtain ⟨A, c, rfl, hc⟩ := h.form
  have hreach := h.reach
  obtain ⟨i0, hi, hz0, hz1, hz2⟩ := info_parts info50
  cases A with
  | none =>
    obtain rfl := h.nil_of
    have heq : ∀ w', (binOp .eql 22 (.slice none 0 c) (.slice none 0 0)).run Try.prog w' = .ok (.bool true) w' := fun w' => by
      exact Go.Lib.run_eql_slice_nil (P := Try.prog) w' 22 50 none 0 c 0 0 Try.underlying22
    go_enter Try.func83, Try.ntmps83
    go_wp2
    go_ret
    exact ⟨_, [], rfl, Fr.refl _ _, World.ownsRow_nil _ _ _ _, rfl, fun j cs x h1 => by simp at h1⟩
  | some ad =>
    obtain ⟨css, hR, hfl, hcell⟩ := h.flat
    have hcell' : ∀ i u, css.flatten[i]? = some u → (w.alloc (.cells #[] 50)).cell? (ad.add i) = some u := fun i u hu => by
      have hh := hcell i u hu
      rw [← hh]
      exact World.cell?_of_block (((Fr.refl [] w).alloc _).block _ (World.block_lt_of_cell? w _ hh) (by simp))
    have hmade := World.ownsRow_made (base := w.heap.size) (e := 50) (size := 13) w #[] 0 (Nat.le_refl _) (by simp [maxLen]) (by simp)
    have hone := hR.one
    have heq : ∀ w', (binOp .eql 22 (.slice (some ad) l.length c) (.slice none 0 0)).run Try.prog w' = .ok (.bool false) w' := fun w' => by
      exact Go.Lib.run_eql_slice_nil (P := Try.prog) w' 22 50 (some ad) l.length c 0 0 Try.underlying22
    have HR := Lib.hid hR
    have hlen : l.length * 232 ≤ 140737488351232 := hreach
    clear hR hcell h hreach
    go_enter Try.func83, Try.ntmps83
    go_wp2_with (at_builtin; refine wpList_append_own _ rfl _ _ 22 rfl w.heap.size 50 i0 _ 13 232 Try.underlying22 hi hz0 hz1 hz2 rfl (by decide) _ _ _ rfl hmade ad l.length c css.flatten rfl hfl hcell' hone ?c4 ?c5 ?c6 ?_)
    case c4 => unfold maxLen; omega
    case c5 => omega
    case c6 => simp
    intro v' w1 hown' hgrow _
    have hown2 : w1.ownsRow w.heap.size 50 13 v' l.length css.flatten := by simpa using hown'
    have hf : Fr [] w w1 := ((Fr.refl [] w).alloc _).trans (Fr.of_grown (S := [w.heap.size]) hgrow (fun k hk _ => by simp [Value.ownBlock] at hk; simp [hk])) (fun x hx hxl => by simp at hx; omega)
    obtain ⟨A', c', rfl⟩ := own_slice hown'
    clear hown' hgrow
    go_wp2
    go_ret
    exact ⟨_, css, rfl, hf, hown2, HR.out⟩

set_option maxRecDepth 100000 in
theorem info45 : (Try.prog.info? 45).map (fun i => (i.zero, i.size, i.bytes)) = some (some (.agg #[(.int .i64 0), (.slice none 0 0), (.string ⟨#[]⟩), (.slice none 0 0), (.bool false), (.int .i64 0)]), 6, 88) := by kernel_rfl
set_option maxRecDepth 100000 in
set_option maxHeartbeats 1000000 in
theorem clone_trans (w : World) (p : Nat → Prop) (v : Value) (l : List DTrans) (h : Sl rTrans p w v l) : Calls Try.prog 85 #[v] w (ClonePost rTrans 45 p w l) := by
  obtain ⟨A, c, rfl, hc⟩ := h.form
  have hreach := h.reach
  obtain ⟨i0, hi, hz0, hz1, hz2⟩ := info_parts info45
  cases A with
  | none =>
    obtain rfl := h.nil_of
    have heq : ∀ w', (binOp .eql 23 (.slice none 0 c) (.slice none 0 0)).run Try.prog w' = .ok (.bool true) w' := fun w' => by
      exact Go.Lib.run_eql_slice_nil (P := Try.prog) w' 23 45 none 0 c 0 0 Try.underlying23
    go_enter Try.func85, Try.ntmps85
    go_wp2
    go_ret
    exact ⟨_, [], rfl, Fr.refl _ _, World.ownsRow_nil _ _ _ _, rfl, fun j cs x h1 => by simp at h1⟩
  | some ad =>
    obtain ⟨css, hR, hfl, hcell⟩ := h.flat
    have hcell' : ∀ i u, css.flatten[i]? = some u → (w.alloc (.cells #[] 45)).cell? (ad.add i) = some u := fun i u hu => by
      have hh := hcell i u hu
      rw [← hh]
      exact World.cell?_of_block (((Fr.refl [] w).alloc _).block _ (World.block_lt_of_cell? w _ hh) (by simp))
    have hmade := World.ownsRow_made (base := w.heap.size) (e := 45) (size := 6) w #[] 0 (Nat.le_refl _) (by simp [maxLen]) (by simp)
    have hone := hR.one
    have heq : ∀ w', (binOp .eql 23 (.slice (some ad) l.length c) (.slice none 0 0)).run Try.prog w' = .ok (.bool false) w' := fun w' => by
      exact Go.Lib.run_eql_slice_nil (P := Try.prog) w' 23 45 (some ad) l.length c 0 0 Try.underlying23
    have HR := Lib.hid hR
    have hlen : l.length * 88 ≤ 140737488351232 := hreach
    clear hR hcell h hreach
    go_enter Try.func85, Try.ntmps85
    go_wp2_with (at_builtin; refine wpList_append_own _ rfl _ _ 23 rfl w.heap.size 45 i0 _ 6 88 Try.underlying23 hi hz0 hz1 hz2 rfl (by decide) _ _ _ rfl hmade ad l.length c css.flatten rfl hfl hcell' hone ?c4 ?c5 ?c6 ?_)
    case c4 => unfold maxLen; omega
    case c5 => omega
    case c6 => simp
    intro v' w1 hown' hgrow _
    have hown2 : w1.ownsRow w.heap.size 45 6 v' l.length css.flatten := by simpa using hown'
    have hf : Fr [] w w1 := ((Fr.refl [] w).alloc _).trans (Fr.of_grown (S := [w.heap.size]) hgrow (fun k hk _ => by simp [Value.ownBlock] at hk; simp [hk])) (fun x hx hxl => by simp at hx; omega)
    obtain ⟨A', c', rfl⟩ := own_slice hown'
    clear hown' hgrow
    go_wp2
    go_ret
    exact ⟨_, css, rfl, hf, hown2, HR.out⟩

set_option maxRecDepth 100000 in
theorem info113 : (Try.prog.info? 113).map (fun i => (i.zero, i.size, i.bytes)) = some (some (.agg #[(.int .i64 0), (.string ⟨#[]⟩), (.string ⟨#[]⟩), (.string ⟨#[]⟩), (.string ⟨#[]⟩), (.string ⟨#[]⟩), (.string ⟨#[]⟩), (.string ⟨#[]⟩), (.int .i64 0), (.string ⟨#[]⟩), (.string ⟨#[]⟩), (.string ⟨#[]⟩), (.string ⟨#[]⟩), (.string ⟨#[]⟩), (.slice none 0 0), (.slice none 0 0), (.int .i64 0), (.slice none 0 0), (.string ⟨#[]⟩)]), 19, 304) := by kernel_rfl
set_option maxRecDepth 100000 in
set_option maxHeartbeats 1000000 in
theorem clone_act (w : World) (p : Nat → Prop) (v : Value) (l : List DAct) (h : Sl rAct p w v l) : Calls Try.prog 88 #[v] w (ClonePost rAct 113 p w l) := by
  obtain ⟨A, c, rfl, hc⟩ := h.form
  have hreach := h.reach
  obtain ⟨i0, hi, hz0, hz1, hz2⟩ := info_parts info113
  cases A with
  | none =>
    obtain rfl := h.nil_of
    have heq : ∀ w', (binOp .eql 108 (.slice none 0 c) (.slice none 0 0)).run Try.prog w' = .ok (.bool true) w' := fun w' => by
      exact Go.Lib.run_eql_slice_nil (P := Try.prog) w' 108 113 none 0 c 0 0 Try.underlying108
    go_enter Try.func88, Try.ntmps88
    go_wp2
    go_ret
    exact ⟨_, [], rfl, Fr.refl _ _, World.ownsRow_nil _ _ _ _, rfl, fun j cs x h1 => by simp at h1⟩
  | some ad =>
    obtain ⟨css, hR, hfl, hcell⟩ := h.flat
    have hcell' : ∀ i u, css.flatten[i]? = some u → (w.alloc (.cells #[] 113)).cell? (ad.add i) = some u := fun i u hu => by
      have hh := hcell i u hu
      rw [← hh]
      exact World.cell?_of_block (((Fr.refl [] w).alloc _).block _ (World.block_lt_of_cell? w _ hh) (by simp))
    have hmade := World.ownsRow_made (base := w.heap.size) (e := 113) (size := 19) w #[] 0 (Nat.le_refl _) (by simp [maxLen]) (by simp)
    have hone := hR.one
    have heq : ∀ w', (binOp .eql 108 (.slice (some ad) l.length c) (.slice none 0 0)).run Try.prog w' = .ok (.bool false) w' := fun w' => by
      exact Go.Lib.run_eql_slice_nil (P := Try.prog) w' 108 113 (some ad) l.length c 0 0 Try.underlying108
    have HR := Lib.hid hR
    have hlen : l.length * 304 ≤ 140737488351232 := hreach
    clear hR hcell h hreach
    go_enter Try.func88, Try.ntmps88
    go_wp2_with (at_builtin; refine wpList_append_own _ rfl _ _ 108 rfl w.heap.size 113 i0 _ 19 304 Try.underlying108 hi hz0 hz1 hz2 rfl (by decide) _ _ _ rfl hmade ad l.length c css.flatten rfl hfl hcell' hone ?c4 ?c5 ?c6 ?_)
    case c4 => unfold maxLen; omega
    case c5 => omega
    case c6 => simp
    intro v' w1 hown' hgrow _
    have hown2 : w1.ownsRow w.heap.size 113 19 v' l.length css.flatten := by simpa using hown'
    have hf : Fr [] w w1 := ((Fr.refl [] w).alloc _).trans (Fr.of_grown (S := [w.heap.size]) hgrow (fun k hk _ => by simp [Value.ownBlock] at hk; simp [hk])) (fun x hx hxl => by simp at hx; omega)
    obtain ⟨A', c', rfl⟩ := own_slice hown'
    clear hown' hgrow
    go_wp2
    go_ret
    exact ⟨_, css, rfl, hf, hown2, HR.out⟩

set_option maxRecDepth 100000 in
theorem info110 : (Try.prog.info? 110).map (fun i => (i.zero, i.size, i.bytes)) = some (some (.agg #[(.slice none 0 0)]), 1, 24) := by kernel_rfl
set_option maxRecDepth 100000 in
set_option maxHeartbeats 1000000 in
theorem clone_block (w : World) (p : Nat → Prop) (v : Value) (l : List DBlock) (h : Sl rBlock p w v l) : Calls Try.prog 87 #[v] w (ClonePost rBlock 110 p w l) := by
  obtain ⟨A, c, rfl, hc⟩ := h.form
  have hreach := h.reach
  obtain ⟨i0, hi, hz0, hz1, hz2⟩ := info_parts info110
  cases A with
  | none =>
    obtain rfl := h.nil_of
    have heq : ∀ w', (binOp .eql 24 (.slice none 0 c) (.slice none 0 0)).run Try.prog w' = .ok (.bool true) w' := fun w' => by
      exact Go.Lib.run_eql_slice_nil (P := Try.prog) w' 24 110 none 0 c 0 0 Try.underlying24
    go_enter Try.func87, Try.ntmps87
    go_wp2
    go_ret
    exact ⟨_, [], rfl, Fr.refl _ _, World.ownsRow_nil _ _ _ _, rfl, fun j cs x h1 => by simp at h1⟩
  | some ad =>
    obtain ⟨css, hR, hfl, hcell⟩ := h.flat
    have hcell' : ∀ i u, css.flatten[i]? = some u → (w.alloc (.cells #[] 110)).cell? (ad.add i) = some u := fun i u hu => by
      have hh := hcell i u hu
      rw [← hh]
      exact World.cell?_of_block (((Fr.refl [] w).alloc _).block _ (World.block_lt_of_cell? w _ hh) (by simp))
    have hmade := World.ownsRow_made (base := w.heap.size) (e := 110) (size := 1) w #[] 0 (Nat.le_refl _) (by simp [maxLen]) (by simp)
    have hone := hR.one
    have heq : ∀ w', (binOp .eql 24 (.slice (some ad) l.length c) (.slice none 0 0)).run Try.prog w' = .ok (.bool false) w' := fun w' => by
      exact Go.Lib.run_eql_slice_nil (P := Try.prog) w' 24 110 (some ad) l.length c 0 0 Try.underlying24
    have HR := Lib.hid hR
    have hlen : l.length * 24 ≤ 140737488351232 := hreach
    clear hR hcell h hreach
    go_enter Try.func87, Try.ntmps87
    go_wp2_with (at_builtin; refine wpList_append_own _ rfl _ _ 24 rfl w.heap.size 110 i0 _ 1 24 Try.underlying24 hi hz0 hz1 hz2 rfl (by decide) _ _ _ rfl hmade ad l.length c css.flatten rfl hfl hcell' hone ?c4 ?c5 ?c6 ?_)
    case c4 => unfold maxLen; omega
    case c5 => omega
    case c6 => simp
    intro v' w1 hown' hgrow _
    have hown2 : w1.ownsRow w.heap.size 110 1 v' l.length css.flatten := by simpa using hown'
    have hf : Fr [] w w1 := ((Fr.refl [] w).alloc _).trans (Fr.of_grown (S := [w.heap.size]) hgrow (fun k hk _ => by simp [Value.ownBlock] at hk; simp [hk])) (fun x hx hxl => by simp at hx; omega)
    obtain ⟨A', c', rfl⟩ := own_slice hown'
    clear hown' hgrow
    go_wp2
    go_ret
    exact ⟨_, css, rfl, hf, hown2, HR.out⟩

set_option maxRecDepth 100000 in
theorem info115 : (Try.prog.info? 115).map (fun i => (i.zero, i.size, i.bytes)) = some (some (.agg #[(.string ⟨#[]⟩), (.string ⟨#[]⟩), (.string ⟨#[]⟩)]), 3, 48) := by kernel_rfl
set_option maxRecDepth 100000 in
set_option maxHeartbeats 1000000 in
theorem clone_datum (w : World) (p : Nat → Prop) (v : Value) (l : List DDatum) (h : Sl rDatum p w v l) : Calls Try.prog 89 #[v] w (ClonePost rDatum 115 p w l) := by
  obtain ⟨A, c, rfl, hc⟩ := h.form
  have hreach := h.reach
  obtain ⟨i0, hi, hz0, hz1, hz2⟩ := info_parts info115
  cases A with
  | none =>
    obtain rfl := h.nil_of
    have heq : ∀ w', (binOp .eql 25 (.slice none 0 c) (.slice none 0 0)).run Try.prog w' = .ok (.bool true) w' := fun w' => by
      exact Go.Lib.run_eql_slice_nil (P := Try.prog) w' 25 115 none 0 c 0 0 Try.underlying25
    go_enter Try.func89, Try.ntmps89
    go_wp2
    go_ret
    exact ⟨_, [], rfl, Fr.refl _ _, World.ownsRow_nil _ _ _ _, rfl, fun j cs x h1 => by simp at h1⟩
  | some ad =>
    obtain ⟨css, hR, hfl, hcell⟩ := h.flat
    have hcell' : ∀ i u, css.flatten[i]? = some u → (w.alloc (.cells #[] 115)).cell? (ad.add i) = some u := fun i u hu => by
      have hh := hcell i u hu
      rw [← hh]
      exact World.cell?_of_block (((Fr.refl [] w).alloc _).block _ (World.block_lt_of_cell? w _ hh) (by simp))
    have hmade := World.ownsRow_made (base := w.heap.size) (e := 115) (size := 3) w #[] 0 (Nat.le_refl _) (by simp [maxLen]) (by simp)
    have hone := hR.one
    have heq : ∀ w', (binOp .eql 25 (.slice (some ad) l.length c) (.slice none 0 0)).run Try.prog w' = .ok (.bool false) w' := fun w' => by
      exact Go.Lib.run_eql_slice_nil (P := Try.prog) w' 25 115 (some ad) l.length c 0 0 Try.underlying25
    have HR := Lib.hid hR
    have hlen : l.length * 48 ≤ 140737488351232 := hreach
    clear hR hcell h hreach
    go_enter Try.func89, Try.ntmps89
    go_wp2_with (at_builtin; refine wpList_append_own _ rfl _ _ 25 rfl w.heap.size 115 i0 _ 3 48 Try.underlying25 hi hz0 hz1 hz2 rfl (by decide) _ _ _ rfl hmade ad l.length c css.flatten rfl hfl hcell' hone ?c4 ?c5 ?c6 ?_)
    case c4 => unfold maxLen; omega
    case c5 => omega
    case c6 => simp
    intro v' w1 hown' hgrow _
    have hown2 : w1.ownsRow w.heap.size 115 3 v' l.length css.flatten := by simpa using hown'
    have hf : Fr [] w w1 := ((Fr.refl [] w).alloc _).trans (Fr.of_grown (S := [w.heap.size]) hgrow (fun k hk _ => by simp [Value.ownBlock] at hk; simp [hk])) (fun x hx hxl => by simp at hx; omega)
    obtain ⟨A', c', rfl⟩ := own_slice hown'
    clear hown' hgrow
    go_wp2
    go_ret
    exact ⟨_, css, rfl, hf, hown2, HR.out⟩

set_option maxRecDepth 100000 in
theorem info118 : (Try.prog.info? 118).map (fun i => (i.zero, i.size, i.bytes)) = some (some (.agg #[(.string ⟨#[]⟩), (.string ⟨#[]⟩), (.int .i64 0), (.bool false), (.int .i64 0), (.slice none 0 0), (.string ⟨#[]⟩), (.int .i64 0)]), 8, 104) := by kernel_rfl
set_option maxRecDepth 100000 in
set_option maxHeartbeats 1000000 in
theorem clone_invoke (w : World) (p : Nat → Prop) (v : Value) (l : List DInvoke) (h : Sl rInvoke p w v l) : Calls Try.prog 90 #[v] w (ClonePost rInvoke 118 p w l) := by
  obtain ⟨A, c, rfl, hc⟩ := h.form
  have hreach := h.reach
  obtain ⟨i0, hi, hz0, hz1, hz2⟩ := info_parts info118
  cases A with
  | none =>
    obtain rfl := h.nil_of
    have heq : ∀ w', (binOp .eql 26 (.slice none 0 c) (.slice none 0 0)).run Try.prog w' = .ok (.bool true) w' := fun w' => by
      exact Go.Lib.run_eql_slice_nil (P := Try.prog) w' 26 118 none 0 c 0 0 Try.underlying26
    go_enter Try.func90, Try.ntmps90
    go_wp2
    go_ret
    exact ⟨_, [], rfl, Fr.refl _ _, World.ownsRow_nil _ _ _ _, rfl, fun j cs x h1 => by simp at h1⟩
  | some ad =>
    obtain ⟨css, hR, hfl, hcell⟩ := h.flat
    have hcell' : ∀ i u, css.flatten[i]? = some u → (w.alloc (.cells #[] 118)).cell? (ad.add i) = some u := fun i u hu => by
      have hh := hcell i u hu
      rw [← hh]
      exact World.cell?_of_block (((Fr.refl [] w).alloc _).block _ (World.block_lt_of_cell? w _ hh) (by simp))
    have hmade := World.ownsRow_made (base := w.heap.size) (e := 118) (size := 8) w #[] 0 (Nat.le_refl _) (by simp [maxLen]) (by simp)
    have hone := hR.one
    have heq : ∀ w', (binOp .eql 26 (.slice (some ad) l.length c) (.slice none 0 0)).run Try.prog w' = .ok (.bool false) w' := fun w' => by
      exact Go.Lib.run_eql_slice_nil (P := Try.prog) w' 26 118 (some ad) l.length c 0 0 Try.underlying26
    have HR := Lib.hid hR
    have hlen : l.length * 104 ≤ 140737488351232 := hreach
    clear hR hcell h hreach
    go_enter Try.func90, Try.ntmps90
    go_wp2_with (at_builtin; refine wpList_append_own _ rfl _ _ 26 rfl w.heap.size 118 i0 _ 8 104 Try.underlying26 hi hz0 hz1 hz2 rfl (by decide) _ _ _ rfl hmade ad l.length c css.flatten rfl hfl hcell' hone ?c4 ?c5 ?c6 ?_)
    case c4 => unfold maxLen; omega
    case c5 => omega
    case c6 => simp
    intro v' w1 hown' hgrow _
    have hown2 : w1.ownsRow w.heap.size 118 8 v' l.length css.flatten := by simpa using hown'
    have hf : Fr [] w w1 := ((Fr.refl [] w).alloc _).trans (Fr.of_grown (S := [w.heap.size]) hgrow (fun k hk _ => by simp [Value.ownBlock] at hk; simp [hk])) (fun x hx hxl => by simp at hx; omega)
    obtain ⟨A', c', rfl⟩ := own_slice hown'
    clear hown' hgrow
    go_wp2
    go_ret
    exact ⟨_, css, rfl, hf, hown2, HR.out⟩

end Go.Proofs.Ytekfbafljilchaa
