/- slices.DeleteFunc at timers, with take's closure. -/
import Derived.Test.YtifjablnplpfnaaA3
set_option linter.unusedVariables false
set_option linter.unusedSimpArgs false
namespace Go.Proofs.Ytifjablnplpfnaa
open Go.RowKit Go.Lib

/-- Of the blocks below B at most those of S have turned. -/
structure Fb (B : Nat) (S : List Nat) (w w' : World) : Prop where
  os : w'.os = w.os
  tape : w'.tape = w.tape
  output : w'.output = w.output
  size : w.heap.size ≤ w'.heap.size
  block : ∀ k, k < B → k ∉ S → w'.heap[k]? = w.heap[k]?
theorem Fb.refl (B : Nat) (S : List Nat) (w : World) : Fb B S w w := ⟨rfl, rfl, rfl, Nat.le_refl _, fun _ _ _ => rfl⟩
theorem Fb.trans {B : Nat} {S : List Nat} {a b c : World} (h : Fb B S a b) (k : Fb B S b c) : Fb B S a c :=
  ⟨k.os.trans h.os, k.tape.trans h.tape, k.output.trans h.output, Nat.le_trans h.size k.size, fun i hi hn => (k.block i hi hn).trans (h.block i hi hn)⟩
theorem Fb.wide {B : Nat} {S T : List Nat} {a b : World} (h : Fb B S a b) (hT : ∀ x, x ∈ S → x < B → x ∈ T) : Fb B T a b :=
  ⟨h.os, h.tape, h.output, h.size, fun i hi hn => h.block i hi (fun hm => hn (hT i hm hi))⟩
theorem Fr.fb {S : List Nat} {a b : World} (h : Fr S a b) {B : Nat} (hB : B ≤ a.heap.size) : Fb B S a b :=
  ⟨h.os, h.tape, h.output, h.size, fun i hi hn => h.block i (Nat.lt_of_lt_of_le hi hB) hn⟩
theorem Fb.fr {S : List Nat} {a b : World} {B : Nat} (h : Fb B S a b) (hB : a.heap.size ≤ B) : Fr S a b :=
  ⟨h.os, h.tape, h.output, h.size, fun i hi hn => h.block i (Nat.lt_of_lt_of_le hi hB) hn⟩
theorem Fb.alloc {B : Nat} {S : List Nat} {a w : World} (h : Fb B S a w) (hB : B ≤ w.heap.size) (o : Obj) : Fb B S a (w.alloc o) :=
  h.trans (((Fr.refl S w).alloc o).fb hB)
theorem Fb.setCell {B : Nat} {S : List Nat} {a w : World} (h : Fb B S a w) {p : Addr} (hp : p.block < B → p.block ∈ S) (u : Value) : Fb B S a (w.setCell p u) :=
  h.trans ⟨rfl, rfl, rfl, by simp [World.setCell], fun k hk hn => Below.heap_setCell _ _ _ _ (fun e => hn (by rw [e]; exact hp (e ▸ hk)))⟩
theorem Blk.fb {w w' : World} {B : Nat} {S : List Nat} {b : Nat} {c : Array Value} {t : TypeId} (h : Blk w b c t) (f : Fb B S w w') (hb : b < B) (hn : b ∉ S) : Blk w' b c t :=
  (f.block b hb hn).trans h
theorem Blks.fb {w w' : World} {L : List (Nat × Array Value × TypeId)} {B : Nat} {S : List Nat} (h : Blks w L) (f : Fb B S w w') (hn : ∀ x, x ∈ L → x.1 < B ∧ x.1 ∉ S) : Blks w' L :=
  fun x hx => (h x hx).fb f (hn x hx).1 (hn x hx).2

/-- The state while take goes through the first k timers: what came out so far. -/
def TakeInv (W : World) (base bo : Nat) (ns : List Int) (S : List Nat) (p : Tm → Bool) (ts : List Tm) (k : Nat) (w' : World) : Prop :=
  ∃ vo', OutV w' base bo vo' (ns ++ ((ts.take k).filter p).map Tm.n) ∧ Fb base S W w'

theorem filter_take_snoc (p : Tm → Bool) (ts : List Tm) (k : Nat) (h : k < ts.length) : (ts.take (k + 1)).filter p = (ts.take k).filter p ++ (if p ts[k] then [ts[k]] else []) := by
  rw [List.take_succ_eq_append_getElem h, List.filter_append]
  cases hq : p ts[k] <;> simp [hq]

theorem own_blk {w : World} {base n : Nat} {e : TypeId} {size : Nat} {v : Value} {xs : List Value} (h : w.ownsRow base e size v n xs) (k : Nat) (hk : v.ownBlock = some k) : ∃ c, Blk w k c e := by
  rcases h.2 with ⟨rfl, _⟩ | ⟨g, cap, cur, rfl, hb, hg, _⟩
  · simp [Value.ownBlock] at hk
  · simp [Value.ownBlock] at hk
    subst hk
    exact ⟨cur, hg⟩
theorem Blk.ne {w : World} {a b : Nat} {c d : Array Value} {s t : TypeId} (h : Blk w a c s) (k : Blk w b d t) (hst : s ≠ t) : a ≠ b := by
  rintro rfl
  have e := Option.some.inj ((Eq.symm h).trans k)
  injection e with _ e
  exact hst e

/-- One call of take's closure, told over the invariant. -/
theorem take1_inv (fv : Nat) (lb : Array Value) (p : Tm → Bool) (L : List (Nat × Array Value × TypeId)) (hp : GoneOK fv lb p L)
    (bg bo base : Nat) (ns : List Int) (ts : List Tm) (W : World) (S : List Nat) (hL : Blks W L) (hg : Blk W bg #[.func (.func fv) #[] lb] 67)
    (hLS : ∀ x, x ∈ L → x.1 < base ∧ x.1 ∉ S) (hgS : bg < base ∧ bg ∉ S) (hboS : bo ∈ S) (hbase : base ≤ W.heap.size) (hbo : bo < base) (hn : ns.length + ts.length ≤ 1000000)
    (k : Nat) (hk : k < ts.length) (w1 : World) (hI : TakeInv W base bo ns S p ts k w1) :
    Calls Try.prog 33 #[ts[k].val, .pointer (some ⟨bg, 0, none⟩), .pointer (some ⟨bo, 0, none⟩)] w1 fun e w' =>
      e = .returned (.bool (p ts[k])) ∧ TakeInv W base bo ns S p ts (k + 1) w' ∧ ∃ T : List Nat, Fr T w1 w' ∧ ∀ x, x ∈ T → x = bo ∨ base ≤ x ∧ ∃ c, Blk w1 x c 3 := by
  obtain ⟨vo, ho, hF⟩ := hI
  have hsz := hF.size
  have hle : ((ts.take k).filter p).length ≤ ts.length := Nat.le_trans (List.length_filter_le _ _) (by simp; omega)
  refine (take1_any fv lb p L hp bg bo base vo _ ts[k] w1 (hL.fb hF hLS) (hg.fb hF hgS.1 hgS.2) ho (by omega) hbo (by simp; omega)).mono ?_
  rintro e w' ⟨rfl, vo', ho', hf⟩
  have hown := ho.own.lt
  refine ⟨rfl, ⟨vo', ?_, hF.trans ((hf.fb (B := base) (by omega)).wide ?_)⟩, _, hf, ?_⟩
  · rw [filter_take_snoc p ts k hk]
    cases hq : p ts[k] <;> simp only [hq] at ho' <;> simpa using ho'
  · intro x hx hB
    rcases List.mem_cons.1 hx with rfl | hx
    · exact hboS
    · have := hown x (by simpa [eq_comm] using hx); omega
  · intro x hx
    rcases List.mem_cons.1 hx with rfl | hx
    · exact .inl rfl
    · exact .inr ⟨(hown x (by simpa [eq_comm] using hx)).1, own_blk ho.own x (by simpa [eq_comm] using hx)⟩

theorem set_four (A M B : List Value) (x0 x1 x2 x3 : Value) (a : Nat) (ha : A.length = a) (hM : 4 ≤ M.length) :
    ((((A ++ M ++ B).set a x0).set (a + 1) x1).set (a + 2) x2).set (a + 3) x3 = A ++ [x0, x1, x2, x3] ++ M.drop 4 ++ B := by
  match M, hM with
  | m0 :: m1 :: m2 :: m3 :: M, _ =>
    subst ha
    rw [List.append_assoc, List.append_assoc, List.append_assoc]
    rw [List.set_append_right _ _ (Nat.le_refl _), List.set_append_right _ _ (by omega), List.set_append_right _ _ (by omega), List.set_append_right _ _ (by omega)]
    simp

/-- A kept timer goes into the hole. -/
theorem del_keep (p : Tm → Bool) (ts : List Tm) (rest mid : List Value) (cur : Array Value) (i j : Nat) (hi : i = ((ts.take j).filter (fun t => !p t)).length) (hij : i < j) (hj : j < ts.length)
    (hcl : cur.toList = flat ((ts.take j).filter (fun t => !p t)) ++ mid ++ flat (ts.drop j) ++ rest) (hm : mid.length = (j - i) * 4) (hp : p ts[j] = false) :
    i + 1 = ((ts.take (j + 1)).filter (fun t => !p t)).length ∧ ∃ mid', ((((cur.setIfInBounds (i * 4) (.int .i64 ts[j].o)).setIfInBounds (i * 4 + 1) (.string ts[j].i)).setIfInBounds (i * 4 + 2) (.int .i64 ts[j].d)).setIfInBounds (i * 4 + 3) (.int .i64 ts[j].n)).toList
      = flat ((ts.take (j + 1)).filter (fun t => !p t)) ++ mid' ++ flat (ts.drop (j + 1)) ++ rest ∧ mid'.length = (j + 1 - (i + 1)) * 4 := by
  have hf : (ts.take (j + 1)).filter (fun t => !p t) = (ts.take j).filter (fun t => !p t) ++ [ts[j]] := by
    rw [filter_take_snoc (fun t => !p t) ts j hj]; simp [hp]
  refine ⟨by rw [hf]; simp [hi], mid.drop 4 ++ ts[j].cells, ?_, by simp [Tm.cells, hm]; omega⟩
  simp only [Array.toList_setIfInBounds]
  have hd : flat (ts.drop j) = ts[j].cells ++ flat (ts.drop (j + 1)) := by rw [List.drop_eq_getElem_cons hj]; rfl
  rw [hcl, List.append_assoc (flat _ ++ mid), set_four _ mid _ _ _ _ _ _ (by rw [flat_length, ← hi]) (by omega), hf, hd]
  simp [Tm.cells]

theorem del_skip (p : Tm → Bool) (ts : List Tm) (rest mid : List Value) (cur : Array Value) (i j : Nat) (hi : i = ((ts.take j).filter (fun t => !p t)).length) (hij : i < j) (hj : j < ts.length)
    (hcl : cur.toList = flat ((ts.take j).filter (fun t => !p t)) ++ mid ++ flat (ts.drop j) ++ rest) (hm : mid.length = (j - i) * 4) (hp : p ts[j] = true) :
    i = ((ts.take (j + 1)).filter (fun t => !p t)).length ∧ ∃ mid', cur.toList
      = flat ((ts.take (j + 1)).filter (fun t => !p t)) ++ mid' ++ flat (ts.drop (j + 1)) ++ rest ∧ mid'.length = (j + 1 - i) * 4 := by
  have hf : (ts.take (j + 1)).filter (fun t => !p t) = (ts.take j).filter (fun t => !p t) := by
    rw [filter_take_snoc (fun t => !p t) ts j hj]; simp [hp]
  refine ⟨by rw [hf]; exact hi, mid ++ ts[j].cells, ?_, by simp [Tm.cells, hm]; omega⟩
  have hd : flat (ts.drop j) = ts[j].cells ++ flat (ts.drop (j + 1)) := by rw [List.drop_eq_getElem_cons hj]; rfl
  rw [hcl, hf, hd]
  simp

theorem four_mid {w : World} {g : Nat} {cur : Array Value} {e : TypeId} {ts : List Tm} (h : Blk w g cur e) {A rest : List Value} (j : Nat) (hj : j < ts.length) (hl : cur.toList = A ++ flat (ts.drop j) ++ rest) (hA : A.length = j * 4) : Four w g j ts[j] := by
  have hd : flat (ts.drop j) = ts[j].cells ++ flat (ts.drop (j + 1)) := by rw [List.drop_eq_getElem_cons hj]; rfl
  rw [hd] at hl
  have e : ∀ q v, ts[j].cells[q]? = some v → w.cell? ⟨g, j * 4 + q, none⟩ = some v := fun q v hv => by
    have hq : q < ts[j].cells.length := (List.getElem?_eq_some_iff.1 hv).1
    rw [h.cell, ← Array.getElem?_toList, hl, List.append_assoc, List.getElem?_append_right (by omega), show j * 4 + q - A.length = q by omega, List.append_assoc, List.getElem?_append_left hq, hv]
  exact ⟨e 0 _ rfl, e 1 _ rfl, e 2 _ rfl, e 3 _ rfl⟩

theorem TakeInv.alloc {W : World} {base bo : Nat} {ns : List Int} {S : List Nat} {p : Tm → Bool} {ts : List Tm} {k : Nat} {w' : World} (h : TakeInv W base bo ns S p ts k w') (hb : base ≤ W.heap.size) (o : Obj) : TakeInv W base bo ns S p ts k (w'.alloc o) := by
  obtain ⟨vo, ho, hF⟩ := h
  have := hF.size
  exact ⟨vo, ⟨ho.blk.alloc o, own_fr ho.own ((Fr.refl [] w').alloc o) (by simp)⟩, hF.alloc (by omega) o⟩
theorem TakeInv.fr {W : World} {base bo : Nat} {ns : List Int} {S : List Nat} {p : Tm → Bool} {ts : List Tm} {k : Nat} {w' w2 : World} (h : TakeInv W base bo ns S p ts k w') (hb : base ≤ W.heap.size) {T : List Nat} (f : Fr T w' w2)
    (hT : ∀ x, x ∈ T → x < base ∧ x ∈ S ∧ x ≠ bo) : TakeInv W base bo ns S p ts k w2 := by
  obtain ⟨vo, ho, hF⟩ := h
  have := hF.size
  exact ⟨vo, ⟨ho.blk.fr f (fun hm => (hT _ hm).2.2 rfl), own_fr ho.own f (fun k hk hm => by have := (ho.own.lt k hk).1; have := (hT _ hm).1; omega)⟩, hF.trans ((f.fb (by omega)).wide (fun x hx _ => (hT x hx).2.1))⟩

theorem Blk.setRow {w : World} {b : Nat} {c d : Array Value} {t : TypeId} (h : Blk w b c t) : Blk (w.setRow b d) b d t := by
  simp [Blk, World.setRow, Array.getElem?_modify, h]
theorem Fr.setRow {S : List Nat} {a w : World} (h : Fr S a w) {b : Nat} (hp : b < a.heap.size → b ∈ S) (d : Array Value) : Fr S a (w.setRow b d) :=
  ⟨h.os, h.tape, h.output, by simpa [World.setRow] using h.size, fun k hk hn => by
    have hne : b ≠ k := fun e => hn (e ▸ hp (e ▸ hk))
    have := h.block k hk hn
    simp only [World.setRow, Array.getElem?_modify]
    rw [if_neg hne]; exact this⟩

theorem run_clear_row (w : World) (t e ty : TypeId) (z : Value) (size : Nat) (ht : Try.prog.underlying t = some (.slice e)) (hv : ∀ w, (zeroValue e).run Try.prog w = .ok z w) (hz : z.cells.size = size) (h1 : ∀ u ∈ z.cells, u.oneCell' = true)
    (g o n c : Nat) (cur : Array Value) (hb : Blk w g cur e) (hn : 0 < n) (hfit : o + n * size ≤ cur.size) :
    ∃ zs : List Value, zs.length = n * size ∧ (Builtin.clear_ #[t] ty #[.slice (some ⟨g, o, none⟩) n c]).run Try.prog w = .ok (.tuple #[]) (w.setRow g (cur.toList.take o ++ zs ++ cur.toList.drop (o + n * size)).toArray) := by
  have hlen : (Builtin.zeroCells z.cells n).toList.length = n * size := by simp [Builtin.zeroCells, hz]
  have hall : ∀ v ∈ (Builtin.zeroCells z.cells n).toList, v.oneCell' = true := fun v hv => by
    simp only [Builtin.zeroCells, Array.toList_map, List.mem_map] at hv
    obtain ⟨i, hi, rfl⟩ := hv
    simp at hi
    have hs : 0 < z.cells.size := by
      rcases Nat.eq_zero_or_pos z.cells.size with h0 | h0
      · rw [h0] at hi; simp at hi
      · exact h0
    rw [getElem!_pos z.cells (i % z.cells.size) (Nat.mod_lt _ hs)]
    exact h1 _ (Array.getElem_mem _)
  have hst := run_storeCells_at Try.prog g o e (Builtin.zeroCells z.cells n).toList 0 cur w hb (by omega) hall
  refine ⟨_, hlen, ?_⟩
  obtain ⟨n, rfl⟩ : ∃ m, n = m + 1 := ⟨n - 1, by omega⟩
  simp [Builtin.clear_, run_underlying ht, hv, hst, hlen]

theorem Blk.has {w : World} {b : Nat} {c : Array Value} {t : TypeId} (h : Blk w b c t) (i : Nat) (hi : i < c.size) : ∃ v, w.cell? ⟨b, i, none⟩ = some v :=
  ⟨c[i], by rw [h.cell]; simp [hi]⟩
end Go.Proofs.Ytifjablnplpfnaa
