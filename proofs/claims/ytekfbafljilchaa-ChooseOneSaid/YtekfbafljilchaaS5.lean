/- sets.remembered. -/
import Derived.Test.YtekfbafljilchaaS2
import Derived.Test.YtekfbafljilchaaG4
import Derived.Deep.QuietTactic
import Derived.BigQuiet
import Derived.Test.YtekfbafljilchaaS1
import Derived.Test.YtekfbafljilchaaF2
import Derived.Deep.AppendLies
import Derived.Test.YtekfbafljilchaaH2
set_option linter.unusedVariables false
set_option linter.unusedSimpArgs false
namespace Go.Proofs.Ytekfbafljilchaa
open Go.RowKit Go.Lib

set_option maxRecDepth 100000 in
set_option maxHeartbeats 8000000 in
theorem rem_closure (W : World) (g : Nat) (c : DChart) (h : Nat) (hh : h < c.states.length) (bl bh : Nat) (tl th : TypeId) (hL : Lat (fun _ => True) W g c) (hbl : Blk W bl #[.pointer (some ⟨g, 0, none⟩)] tl) (hbh : Blk W bh #[.int .i64 h] th) (s : Int) :
    Calls Try.prog 122 #[.int .i64 s, .pointer (some ⟨bl, 0, none⟩), .pointer (some ⟨bh, 0, none⟩)] W fun e w' => e = .returned (.bool (delP c h s)) ∧ Fr [] W w' := by
  have k1 := hbl.cell 0
  have k2 := hbh.cell 0
  simp at k1 k2
  by_cases h1 : s < 1
  · have e : delP c h s = true := by simp [delP, h1]
    rw [e]
    have hd : decide (s < 1) = true := by simpa using h1
    clear e hL hbl hbh
    go_enter Try.func122, Try.ntmps122
    go_wp2
    go_quiet (fail)
    go_wp2
    go_ret
    exact ⟨rfl, (Fr.refl _ _).drewN _⟩
  · obtain ⟨As, cs, At, ct, vB, vD, vI, hch⟩ := chart_open W g c hL
    have HC := fun (w : World) (F : Fr [] W w) => Calls.fr F (hch.call w F)
    by_cases h2 : (c.states.length : Int) ≤ s
    · have e : delP c h s = true := by simp [delP, h2]
      rw [e]
      clear e hL hbl hbh hch
      have HH := Lib.hid HC
      clear HC
      go_enter Try.func122, Try.ntmps122
      go_wp2
      refine rem_b k1 HH.out (by omega) h2 ?_
      intros
      rename_i hpost
      obtain ⟨F, rfl⟩ := hpost
      go_wp2
      go_ret
      exact ⟨rfl, F⟩
    · obtain ⟨i, rfl⟩ : ∃ i : Nat, s = (i : Int) := ⟨s.toNat, by omega⟩
      have hi : i < c.states.length := by omega
      have hi1 : 1 ≤ i := by omega
      have HI := fun (w : World) (F : Fr [] W w) => Calls.fr_same F (inside_any w g c (i : Int) (par c h) (hL.on F))
      obtain ⟨gs, os, rfl, hgl, k3, _⟩ := hch.st hi
      obtain ⟨gs2, os2, e2, _, _, k4, _⟩ := hch.st hh
      injection e2 with e2
      injection e2 with e2 e3
      subst e2 e3
      have e : delP c h (i : Int) = (decide (4 ≤ knd c i) || !inB c (i : Int) (par c h)) := by
        have h1' : decide ((i : Int) < 1) = false := by simpa using h1
        have h2' : decide ((c.states.length : Int) ≤ (i : Int)) = false := by simpa using h2
        simp only [delP, h1', h2', Bool.false_or, Int.toNat_natCast]
      rw [e]
      have HH := Lib.hid HC
      have HJ := Lib.hid HI
      clear e hL hbl hbh hch HC HI
      by_cases h3 : 4 ≤ knd c i
      · have hz : Hid ((decide (4 ≤ knd c i) || !inB c (i : Int) (par c h)) = true) := Lib.hid (by simp [h3])
        have H3 := Lib.hid h3
        clear h3
        go_enter Try.func122, Try.ntmps122
        go_wp2
        refine rem_c k1 k2 HH.out k3 k4 HJ.out hi1 hi hh H3.out ?_
        intros
        rename_i hpost
        obtain ⟨F, rfl⟩ := hpost
        go_wp2
        go_ret
        exact ⟨by rw [hz.out]; rfl, F⟩
      · have hz : Hid ((decide (4 ≤ knd c i) || !inB c (i : Int) (par c h)) = !inB c (i : Int) (par c h)) := Lib.hid (by simp [h3])
        have H3 := Lib.hid h3
        clear h3
        go_enter Try.func122, Try.ntmps122
        go_wp2
        refine rem_d k1 k2 HH.out k3 k4 HJ.out hi1 hi hh (by have := H3.out; omega) ?_
        intros
        rename_i hpost
        obtain ⟨F, rfl⟩ := hpost
        go_wp2
        go_ret
        exact ⟨by rw [hz.out]; rfl, F⟩

theorem Fr.new {S : List Nat} {a b : World} (f : Fr S a b) (hS : ∀ x, x ∈ S → a.heap.size ≤ x) : Fr [] a b :=
  ⟨f.os, f.tape, f.output, f.size, fun k hk _ => f.block k hk (fun hm => by have := hS k hm; omega)⟩
theorem rows_flat {p : Nat → Prop} {w : World} : ∀ {css : List (List Value)} {l : List Int}, Rows_ rInt p w css l → css.flatten = I64s l
  | [], [], _ => rfl
  | [], _ :: _, h => by have := h.1; simp at this
  | _ :: _, [], h => by have := h.1; simp at this
  | cs :: css, x :: l, h => by
    have h1 : cs = [.int .i64 x] := h.2 0 cs x rfl rfl
    have h2 := rows_flat (p := p) (w := w) (css := css) (l := l) ⟨by simpa using h.1, fun j cs x a b => h.2 (j + 1) cs x a b⟩
    simp [h1, h2]
theorem own_new {w : World} {B n : Nat} {e : TypeId} {size : Nat} {v : Value} {xs : List Value} (h : w.ownsRow B e size v n xs) : ∀ x, x ∈ v.ownBlock.toList → B ≤ x := fun x hx => by
  have := (h.lt x (by simpa using hx)).1
  exact this
theorem own_low {w : World} {B B' n : Nat} {e : TypeId} {size : Nat} {v : Value} {xs : List Value} (h : w.ownsRow B e size v n xs) (hB : B' ≤ B) : w.ownsRow B' e size v n xs :=
  ⟨h.1, h.2.elim .inl (fun ⟨g, cap, cur, hv, hg, r⟩ => .inr ⟨g, cap, cur, hv, Nat.le_trans hB hg, r⟩)⟩
/-- What a memory holds of a history. -/
def heldL (c : DChart) (mem : List (List Int)) (h : Nat) : List Int := ((mem[h]?).getD []).filter fun s => !delP c h s
/-- A new list. -/
def NewInts (W : World) (l : List Int) (e : Ending) (w' : World) : Prop :=
  ∃ A d, e = .returned (.slice A l.length d) ∧ Fr [] W w' ∧ w'.ownsRow W.heap.size 3 1 (.slice A l.length d) l.length (I64s l)

set_option maxRecDepth 100000 in
set_option maxHeartbeats 8000000 in
theorem remembered_any (W : World) (g : Nat) (c : DChart) (mem : List (List Int)) (h : Nat) (hh : h < c.states.length) (A : Option Addr) (d : Nat) (q : Nat → Prop) (hM : Sl (rSl rInt) q W (.slice A mem.length d) mem) (hL : Lat (fun _ => True) W g c) :
    Calls Try.prog 105 #[.pointer (some ⟨g, 0, none⟩), .slice A mem.length d, .int .i64 h] W (NewInts W (heldL c mem h)) := by
  have HL := Lib.hid hL
  have HM := Lib.hid hM
  have hg := hL.lt
  have lM := hM.len
  have hf0 := Lib.hid (((Fr.refl [] W).alloc (.cells #[.pointer (some ⟨g, 0, none⟩)] 36)).alloc (.cells #[.int .i64 (h : Int)] 3))
  have hb1 := Lib.hid ((Blk.new W #[.pointer (some ⟨g, 0, none⟩)] 36).alloc (.cells #[.int .i64 (h : Int)] 3))
  have hb2 : Hid (Blk ((W.alloc (.cells #[.pointer (some ⟨g, 0, none⟩)] 36)).alloc (.cells #[.int .i64 (h : Int)] 3)) (W.heap.size + 1) #[.int .i64 (h : Int)] 3) := Lib.hid (Blk.newAt (sizeAt rfl))
  clear hL hM
  by_cases hlt : h < mem.length
  · have hltz : ¬ (mem.length : Int) ≤ (h : Int) := by omega
    have hz0 : (0 : Int) ≤ (h : Int) := by omega
    have hzz : (h : Int) < (mem.length : Int) := by omega
    obtain ⟨gm, om, B, dd, rfl, _, hgm, kc, hdd, hrow⟩ := HM.out.sl_at h hlt
    have HR := Lib.hid (hrow.fr (q := fun _ => True) (fun k _ hk => ⟨trivial, hf0.out.block k hk (by simp)⟩))
    have hcl := clone_int _ _ _ _ HR.out
    have lR := HR.out.reach
    simp only [rInt] at lR
    have HL2 := Lib.hid (HL.out.on hf0.out)
    have HZ : Hid (heldL c mem h = mem[h].filter fun s => !delP c h s) := Lib.hid (by simp [heldL, hlt])
    clear hrow
    generalize mem[h] = r at *
    go_enter Try.func105, Try.ntmps105
    go_wp2_with fail
    refine hcl.mono ?_
    rintro e w3 ⟨v3, css, rfl, f3, own3, rows3⟩
    rw [rows_flat rows3] at own3
    have hnew := own_new own3
    have hdel := deleteFunc 122 #[.pointer (some ⟨W.heap.size, 0, none⟩), .pointer (some ⟨W.heap.size + 1, 0, none⟩)] (fun s => delP c h s) r w3 _ v3 own3 lR ⟨enters_of Try.func122 (by kernel_rfl) rfl, fun x hx W' f => by
      have F := (f3.nil.trans f (fun x hx _ => hx)).new hnew
      exact (rem_closure W' g c h hh _ _ _ _ (HL2.out.on F) (hb1.out.fr F (by simp)) (hb2.out.fr F (by simp)) x).mono fun e w' h => h⟩
    have HF3 := Lib.hid f3
    have HN3 := Lib.hid hnew
    clear rows3 own3 f3 hcl hnew
    go_wp2_with fail
    refine hdel.mono ?_
    rintro e w4 ⟨v4, rfl, own4, f4, ho4⟩
    have F4 := Lib.hid (hf0.out.trans' ((HF3.out.nil.trans f4 (fun x hx _ => hx)).new HN3.out))
    have O4 := Lib.hid (own_low (B' := W.heap.size) own4 (by simp; omega))
    obtain ⟨A4, d4, rfl⟩ := own_slice own4
    clear own4 f4 ho4
    go_wp2
    go_ret
    rw [HZ.out]
    exact ⟨_, _, rfl, F4.out, O4.out⟩
  · have hltz : (mem.length : Int) ≤ (h : Int) := by omega
    have HZ : Hid (heldL c mem h = []) := Lib.hid (by simp [heldL, hlt])
    go_enter Try.func105, Try.ntmps105
    go_wp2
    go_ret
    rw [HZ.out]
    exact ⟨none, 0, rfl, hf0.out, World.ownsRow_nil _ _ _ _⟩
end Go.Proofs.Ytekfbafljilchaa

/- sets.Goals: its closure adds what is not yet there. -/
set_option linter.unusedVariables false
set_option linter.unusedSimpArgs false
namespace Go.Proofs.Ytekfbafljilchaa
open Go.RowKit Go.Lib

def add1 (acc : List Int) (x : Int) : List Int := if has acc x then acc else acc ++ [x]
def adds (acc l : List Int) : List Int := l.foldl add1 acc
theorem adds_nil (acc : List Int) : adds acc [] = acc := rfl
theorem adds_cons (acc : List Int) (x : Int) (l : List Int) : adds acc (x :: l) = adds (add1 acc x) l := rfl
theorem adds_append (acc l m : List Int) : adds acc (l ++ m) = adds (adds acc l) m := List.foldl_append ..
theorem adds_take (acc l : List Int) (k : Nat) (h : k < l.length) : adds acc (l.take (k + 1)) = add1 (adds acc (l.take k)) l[k] := by
  rw [List.take_succ_eq_append_getElem h, adds_append]
  rfl
theorem mem_add1 {acc : List Int} {x y : Int} : y ∈ add1 acc x ↔ y ∈ acc ∨ y = x := by
  unfold add1
  split
  · rename_i h
    constructor
    · exact .inl
    · rintro (h' | rfl)
      · exact h'
      · exact has_iff.1 h
  · simp
theorem mem_adds {l : List Int} : ∀ {acc : List Int} {y : Int}, y ∈ adds acc l ↔ y ∈ acc ∨ y ∈ l := by
  induction l with
  | nil => intro acc y; simp [adds_nil]
  | cons x l ih =>
    intro acc y
    rw [adds_cons, ih, mem_add1]
    simp [or_assoc]
theorem nodup_add1 {acc : List Int} {x : Int} (h : acc.Nodup) : (add1 acc x).Nodup := by
  unfold add1
  split
  · exact h
  · rename_i hn
    have : x ∉ acc := fun hm => hn (has_iff.2 hm)
    rw [List.nodup_append]
    refine ⟨h, by simp, fun a ha b hb => ?_⟩
    simp at hb
    rintro rfl
    exact this (hb ▸ ha)
theorem nodup_adds {l : List Int} : ∀ {acc : List Int}, acc.Nodup → (adds acc l).Nodup := by
  induction l with
  | nil => intro acc h; exact h
  | cons x l ih => intro acc h; rw [adds_cons]; exact ih (nodup_add1 h)
/-- Distinct numbers below n are at most n. -/
theorem nodup_len : ∀ (n : Nat) (l : List Int), l.Nodup → (∀ x, x ∈ l → 0 ≤ x ∧ x < (n : Int)) → l.length ≤ n := by
  intro n
  induction n with
  | zero =>
    intro l _ h
    cases l with
    | nil => simp
    | cons x l => have := h x (List.mem_cons_self ..); omega
  | succ n ih =>
    intro l hn h
    have h1 := ih (l.erase (n : Int)) (hn.erase _) (fun x hx => by
      have hm := List.mem_of_mem_erase hx
      have hb := h x hm
      have hne : x ≠ (n : Int) := fun e => by
        rw [e] at hx
        exact (List.Nodup.not_mem_erase hn) hx
      omega)
    have h2 : l.length ≤ (l.erase (n : Int)).length + 1 := by
      rw [List.length_erase]
      split <;> omega
    omega
theorem states_len {c : DChart} {l : List Int} (hn : l.Nodup) (h : ∀ x, x ∈ l → isSt c x = true) : l.length ≤ c.states.length :=
  nodup_len _ l hn (fun x hx => by obtain ⟨i, rfl, hi⟩ := isSt_true (h x hx); omega)

/-- The variable at bo holds the list acc, in a row of one's own. -/
structure OutV (w : World) (B bo : Nat) (v : Value) (acc : List Int) : Prop where
  blk : Blk w bo #[v] 29
  own : w.ownsRow B 3 1 v acc.length (I64s acc)
theorem own_blk {w : World} {base n : Nat} {e : TypeId} {size : Nat} {v : Value} {xs : List Value} (h : w.ownsRow base e size v n xs) (k : Nat) (hk : v.ownBlock = some k) : ∃ c, Blk w k c e := by
  rcases h.2 with ⟨rfl, _⟩ | ⟨g, cap, cur, rfl, hb, hg, _⟩
  · simp [Value.ownBlock] at hk
  · simp [Value.ownBlock] at hk
    subst hk
    exact ⟨cur, hg⟩
theorem OutV.fr {w w' : World} {B bo : Nat} {v : Value} {acc : List Int} {S : List Nat} (h : OutV w B bo v acc) (f : Fr S w w') (h1 : bo ∉ S) (h2 : ∀ k, v.ownBlock = some k → k ∉ S) : OutV w' B bo v acc :=
  ⟨h.blk.fr f h1, own_fr h.own f h2⟩

/-- What the closure leaves. -/
def AddPost (W : World) (B bo : Nat) (v : Value) (acc : List Int) (e : Ending) (w' : World) : Prop :=
  ∃ v', e = .returned (.tuple #[]) ∧ OutV w' B bo v' acc ∧ Fr (bo :: v.ownBlock.toList) W w' ∧ (v'.ownBlock = v.ownBlock ∨ ∀ k, v'.ownBlock = some k → W.heap.size ≤ k)

set_option maxRecDepth 100000 in
set_option maxHeartbeats 16000000 in
theorem add_any (W : World) (B bo : Nat) (v : Value) (c : DChart) (acc l : List Int) (A : Option Addr) (d : Nat) (p : Nat → Prop) (hB : B ≤ W.heap.size) (hn : c.states.length ≤ 128) (hO : OutV W B bo v acc) (hl : Sl rInt p W (.slice A l.length d) l) (hp : ∀ k, p k → k ≠ bo ∧ v.ownBlock ≠ some k)
    (hnd : acc.Nodup) (hst : ∀ x, x ∈ acc → isSt c x = true) (hlt : ∀ x, x ∈ l → isSt c x = true) :
    Calls Try.prog 104 #[.slice A l.length d, .pointer (some ⟨bo, 0, none⟩)] W (AddPost W B bo v (adds acc l)) := by
  have HL := Lib.hid hl
  have lL := hl.len
  have HP := Lib.hid hp
  have HO := Lib.hid hO
  have HI := Lib.hid info3
  have hbo := hO.blk.lt
  have HA : Hid (∀ m, (adds acc m).Nodup) := Lib.hid (fun m => nodup_adds hnd)
  have HS : Hid (∀ k, ∀ x, x ∈ adds acc (l.take k) → isSt c x = true) := Lib.hid (fun k x hx => by
    rcases mem_adds.1 hx with h | h
    · exact hst x h
    · exact hlt x (List.mem_of_mem_take h))
  clear hl hp hO hnd hst hlt
  go_enter Try.func104, Try.ntmps104
  go_wp2
  go_loopg [7] l.length (fun gg s7 wr => ∃ (k : Nat) (v' : Value), k ≤ l.length ∧ l.length - k ≤ gg ∧ s7 = .int .i64 k ∧ Aside (OutV wr B bo v' (adds acc (l.take k))) ∧ Aside (Fr (bo :: v.ownBlock.toList) W wr) ∧ Aside (v'.ownBlock = v.ownBlock ∨ ∀ k, v'.ownBlock = some k → W.heap.size ≤ k))
  case atStart => exact ⟨0, v, Nat.zero_le _, by omega, rfl, HO.out, Fr.refl _ _, (show Aside _ from .inl rfl)⟩
  case round =>
    obtain ⟨k, v', hk, hgg, rfl, hout, hfr, hblk⟩ := hrel
    by_cases hlt : k < l.length
    · have hltz : (k : Int) < (l.length : Int) := by omega
      have hk0 : (0 : Int) ≤ (k : Int) := by omega
      obtain ⟨gx, ox, rfl, hpx, hgx, hcx⟩ := HL.out.int_at k hlt
      have hnx : gx ∉ bo :: v.ownBlock.toList := by
        have := HP.out gx hpx
        simp only [List.mem_cons, Option.mem_toList, not_or]
        exact ⟨this.1, this.2⟩
      have hcw : wr.cell? ⟨gx, ox + k, none⟩ = some (.int .i64 l[k]) := (World.cell?_of_block (hfr.out.block gx hgx hnx)).trans hcx
      have htk := Lib.hid (adds_take acc l k hlt)
      have HL1 : Hid ((adds acc (l.take k)).length ≤ c.states.length) := Lib.hid (states_len (HA.out _) (HS.out k))
      have hlen1 := HL1.out
      have HOWN := Lib.hid hout.out.own
      have hvb := hout.out.blk.cell 0
      simp at hvb
      have HIO := Lib.hid (int_own' HOWN.out (by omega))
      obtain ⟨A1, d1, rfl⟩ := own_slice HOWN.out
      clear hcx
      generalize l[k] = x at *
      have hcn := contains_any (adds acc (l.take k)) x _ A1 d1 wr HIO.out
      cases hh : has (adds acc (l.take k)) x with
      | true =>
        have HTK : Hid (adds acc (l.take (k + 1)) = adds acc (l.take k)) := Lib.hid (by rw [htk.out, add1, hh]; rfl)
        rw [hh] at hcn
        clear hh
        go_wp2_with fail
        refine hcn.mono ?_
        rintro e w' ⟨rfl, rfl⟩
        go_wp2
        go_roundg (l.length - (k + 1))
        case measure => omega
        case rel => exact ⟨k + 1, _, by omega, by omega, by go_num, (show Aside _ from by rw [HTK.out]; exact hout.out), hfr, hblk⟩
      | false =>
        have HTK : Hid (adds acc (l.take (k + 1)) = adds acc (l.take k) ++ [x]) := Lib.hid (by rw [htk.out, add1, hh]; rfl)
        rw [hh] at hcn
        clear hh
        generalize adds acc (l.take k) = ac at *
        go_wp2_with fail
        refine hcn.mono ?_
        rintro e w' ⟨rfl, rfl⟩
        have hnb := Lib.hid (heap_alloc_new wr (.cells #[.int .i64 x] 3))
        have HAP := Lib.hid (HOWN.out.alloc (.cells #[.int .i64 x] 3))
        have hBw : B ≤ (wr.alloc (.cells #[.int .i64 x] 3)).heap.size := by have := hfr.out.size; simp; omega
        obtain ⟨i0, hi0, hz0, hz1, hz2⟩ := info_parts HI.out
        clear hcn
        go_wp2_with (at_builtin; refine wpList_append_lies _ rfl _ _ 29 rfl B 3 i0 _ 1 8 Try.underlying29 hi0 hz0 hz1 hz2 rfl (by decide) _ ac.length (ac.map (.int .i64)) rfl HAP.out ⟨_, 0, none⟩ 1 1 [.int .i64 x] rfl rfl (World.news_of_block hnb.out) (by simp [Value.oneCell']) (by decide) (by simp only [maxLen]; omega) (by omega) hBw _ rfl ?_)
        intro g9 cap9 w9 hown9 hgrow hat hlt9
        have HF9 : Hid (Fr (Value.slice A1 ac.length d1).ownBlock.toList wr w9) := Lib.hid (((Fr.refl _ wr).alloc (.cells #[.int .i64 x] 3)).trans (Fr.of_grown (S := (Value.slice A1 ac.length d1).ownBlock.toList) hgrow (fun b hb _ => by simp [hb])) (fun b hb _ => hb))
        have HB9 : Hid (Blk w9 bo #[.slice A1 ac.length d1] 29) := Lib.hid (hout.out.blk.fr HF9.out (fun hm => by
          obtain ⟨cc, hcc⟩ := own_blk HOWN.out bo (by simpa using hm)
          exact (Blk.ne hcc hout.out.blk (by decide)) rfl))
        have HO9 : Hid (w9.ownsRow B 3 1 (.slice (some ⟨g9, 0, none⟩) (ac.length + 1) cap9) (ac ++ [x]).length (I64s (ac ++ [x]))) := Lib.hid (by simpa using hown9)
        have HAT := Lib.hid hat
        have hb9 := HB9.out.cell 0
        have hf9 := HB9.out.free 0
        have hbl9 := HB9.out.lt
        simp at hb9
        clear hown9 hgrow hat
        go_wp2
        go_roundg (l.length - (k + 1))
        case measure => omega
        case rel =>
          refine ⟨k + 1, .slice (some ⟨g9, 0, none⟩) (ac.length + 1) cap9, by omega, by omega, by go_num, ?_, ?_, ?_⟩
          · rw [HTK.out]
            have hn9 : g9 ≠ bo := fun e => by
              obtain ⟨cc, hcc⟩ := own_blk HO9.out g9 rfl
              exact (Blk.ne hcc HB9.out (by decide)) e
            refine ⟨by simpa using HB9.out.set 0 _, ?_⟩
            exact own_fr HO9.out ((Fr.refl [bo] w9).setCell (p := ⟨bo, 0, none⟩) (by simp) _) (fun q hq => by
              simp [Value.ownBlock] at hq
              subst hq
              simpa using hn9)
          · refine hfr.out.trans ((HF9.out.wide (T := bo :: (Value.slice A1 ac.length d1).ownBlock.toList) (fun _ h => List.mem_cons_of_mem _ h)).setCell (by simp) _) (fun q hq hlq => ?_)
            rcases List.mem_cons.1 hq with rfl | hq
            · exact List.mem_cons_self ..
            · refine List.mem_cons_of_mem _ ?_
              rcases hblk.out with e | e
              · rw [← e]; exact hq
              · have := e q (by simpa using hq); omega
          · have hs := hfr.out.size
            rcases HAT.out with e | e
            · rcases hblk.out with e2 | e2
              · left; rw [← e2, e]; rfl
              · right; intro q hq; simp [Value.ownBlock] at hq; subst hq; exact e2 _ e
            · right
              intro q hq
              simp [Value.ownBlock] at hq; subst hq; have e3 : g9 = wr.heap.size + 1 := by simpa using e
              omega
    · obtain rfl : k = l.length := by omega
      have hltz : ¬ (l.length : Int) < (l.length : Int) := by omega
      have HF : Hid (AddPost W B bo v (adds acc l) (.returned (.tuple #[])) wr) := Lib.hid (by
        have h := hout.out
        rw [List.take_length] at h
        exact ⟨v', rfl, h, hfr.out, hblk.out⟩)
      go_wp2
      go_end0
      exact HF.out
end Go.Proofs.Ytekfbafljilchaa

/- sets.Goals. -/
set_option linter.unusedVariables false
set_option linter.unusedSimpArgs false
namespace Go.Proofs.Ytekfbafljilchaa
open Go.RowKit Go.Lib

/-- What a right chart has, for those who go along its transitions. -/
structure Good (c : DChart) : Prop where
  tree : Tree c
  tg : ∀ i, i < c.trans.length → ∀ x, x ∈ (tr c i).targets → isSt c x = true
  src : ∀ i, i < c.trans.length → isSt c (tr c i).src = true
  ini : ∀ s, s < c.states.length → (4 ≤ knd c s ∨ compB c (s : Int) = true) → ∃ j : Nat, (st c s).init = (j : Int) ∧ j < c.trans.length
  own : ∀ s, s < c.states.length → ∀ t, t ∈ (st c s).trans → ∃ j : Nat, t = (j : Int) ∧ j < c.trans.length ∧ (tr c j).src = (s : Int)
theorem good_of {c : DChart} (h : newB c = true) : Good c := by
  have T := newB_tree h
  simp only [newB, Bool.and_eq_true] at h
  have h2 := h.2
  simp only [transB, Bool.and_eq_true] at h2
  obtain ⟨ht, hs⟩ := h2
  have htr : ∀ i, i < c.trans.length → trOk c (tr c i) = true := fun i hi => by
    rw [← tr_at hi]
    exact List.all_eq_true.1 ht _ (List.getElem_mem hi)
  have hst : ∀ s, s < c.states.length → stOk c s = true := fun s hs' => List.all_eq_true.1 hs s (List.mem_range.2 hs')
  refine ⟨T, fun i hi x hx => ?_, fun i hi => ?_, fun s hs' hk => ?_, fun s hs' t hm => ?_⟩
  · have := htr i hi
    simp only [trOk, Bool.and_eq_true] at this
    obtain ⟨j, hj, rfl⟩ := List.getElem_of_mem hx
    exact goal_st hj (List.all_eq_true.1 this.2 j (List.mem_range.2 hj))
  · have := htr i hi
    simp only [trOk, Bool.and_eq_true] at this
    exact this.1
  · have := hst s hs'
    simp only [stOk, Bool.and_eq_true] at this
    have hi := this.1
    unfold initB at hi
    have hn : ¬ (knd c s < 4 ∧ compB c (s : Int) = false) := by
      rintro ⟨h1, h2⟩
      rcases hk with h | h
      · omega
      · rw [h2] at h; cases h
    rw [if_neg hn] at hi
    split at hi
    · cases hi
    · rename_i hb
      exact ⟨(st c s).init.toNat, by omega, by omega⟩
  · have := hst s hs'
    simp only [stOk, Bool.and_eq_true] at this
    have ho := List.all_eq_true.1 this.2 t hm
    simp only [tOk, Bool.and_eq_true, decide_eq_true_eq] at ho
    obtain ⟨⟨⟨⟨_, h1⟩, h2⟩, _⟩, h3⟩ := ho
    refine ⟨t.toNat, by omega, by omega, h3⟩

/-- The states in the place of a target. -/
def piece (c : DChart) (mem : List (List Int)) (s : Nat) : List Int :=
  if knd c s < 4 then [(s : Int)] else if (heldL c mem s).length = 0 then (tr c (st c s).init.toNat).targets else heldL c mem s
def goalsT (c : DChart) (mem : List (List Int)) (ts : List Int) : List Int := ts.foldl (fun acc s => adds acc (piece c mem s.toNat)) []
def goalsL (c : DChart) (mem : List (List Int)) (t : Int) : List Int := if knownB c t then goalsT c mem (tr c t.toNat).targets else []
theorem goalsT_take (c : DChart) (mem : List (List Int)) (ts : List Int) (k : Nat) (h : k < ts.length) : goalsT c mem (ts.take (k + 1)) = adds (goalsT c mem (ts.take k)) (piece c mem ts[k].toNat) := by
  unfold goalsT
  rw [List.take_succ_eq_append_getElem h, List.foldl_append]
  rfl
theorem held_st {c : DChart} {mem : List (List Int)} {h : Nat} {x : Int} (hx : x ∈ heldL c mem h) : isSt c x = true := by
  simp only [heldL, List.mem_filter, delP, Bool.not_eq_true', Bool.or_eq_false_iff, decide_eq_false_iff_not] at hx
  obtain ⟨_, ⟨⟨h1, h2⟩, _⟩, _⟩ := hx
  simp [isSt]
  omega
theorem Good.piece {c : DChart} (G : Good c) {mem : List (List Int)} {s : Nat} (hs : s < c.states.length) {x : Int} (hx : x ∈ piece c mem s) : isSt c x = true := by
  unfold Ytekfbafljilchaa.piece at hx
  split at hx
  · rw [List.mem_singleton.1 hx]; exact isSt_nat hs
  · rename_i hk
    split at hx
    · obtain ⟨j, hj, hjn⟩ := G.ini s hs (.inl (by omega))
      rw [hj, Int.toNat_natCast] at hx
      exact G.tg j hjn x hx
    · exact held_st hx
theorem Good.goals {c : DChart} (G : Good c) {mem : List (List Int)} : ∀ {ts : List Int}, (∀ x, x ∈ ts → isSt c x = true) → ∀ x, x ∈ goalsT c mem ts → isSt c x = true := by
  suffices h : ∀ (ts acc : List Int), (∀ x, x ∈ ts → isSt c x = true) → (∀ x, x ∈ acc → isSt c x = true) → ∀ x, x ∈ ts.foldl (fun acc s => adds acc (Ytekfbafljilchaa.piece c mem s.toNat)) acc → isSt c x = true from
    fun {ts} ht x hx => h ts [] ht (fun _ h => by cases h) x hx
  intro ts
  induction ts with
  | nil => intro acc _ ha x hx; exact ha x hx
  | cons t ts ih =>
    intro acc ht ha x hx
    obtain ⟨i, hi, hin⟩ := isSt_true (ht t (List.mem_cons_self ..))
    refine ih _ (fun y hy => ht y (List.mem_cons_of_mem _ hy)) (fun y hy => ?_) x hx
    rcases mem_adds.1 hy with h | h
    · exact ha y h
    · rw [hi, Int.toNat_natCast] at h
      exact G.piece hin h
theorem goalsT_nodup (c : DChart) (mem : List (List Int)) : ∀ (ts acc : List Int), acc.Nodup → (ts.foldl (fun acc s => adds acc (piece c mem s.toNat)) acc).Nodup := by
  intro ts
  induction ts with
  | nil => intro acc h; exact h
  | cons t ts ih => intro acc h; exact ih _ (nodup_adds h)

theorem held_len {c : DChart} {mem : List (List Int)} {q : Nat → Prop} {W : World} {A : Option Addr} {d : Nat} (hM : Sl (rSl rInt) q W (.slice A mem.length d) mem) (h : Nat) : (heldL c mem h).length * 8 ≤ 140737488351232 := by
  by_cases hlt : h < mem.length
  · obtain ⟨gm, om, B, dd, _, _, _, _, _, hr⟩ := hM.sl_at h hlt
    have h1 := hr.reach
    simp only [rInt] at h1
    have h2 : (heldL c mem h).length ≤ mem[h].length := by
      simp only [heldL, List.getElem?_eq_getElem hlt, Option.getD_some]
      exact List.length_filter_le _ _
    omega
  · have e : heldL c mem h = [] := by simp [heldL, List.getElem?_eq_none (Nat.le_of_not_lt hlt)]
    rw [e]
    simp
/-- The variable of Goals, and all that was there as it was. -/
def GInv (W w : World) (acc : List Int) : Prop := ∃ v, OutV w W.heap.size W.heap.size v acc ∧ Fr [] W w
theorem GInv.step {W w w' : World} {v : Value} {acc acc' : List Int} (hf : Fr [] W w) (ho : OutV w W.heap.size W.heap.size v acc) {e : Ending} (h : AddPost w W.heap.size W.heap.size v acc' e w') : e = .returned (.tuple #[]) ∧ GInv W w' acc' := by
  obtain ⟨v', he, ho', f, _⟩ := h
  refine ⟨he, v', ho', hf.trans f (fun x hx hlt => ?_)⟩
  rcases List.mem_cons.1 hx with rfl | hx
  · omega
  · have := own_new ho.own x hx; omega

set_option maxRecDepth 100000 in
set_option maxHeartbeats 16000000 in
theorem goals_any (W : World) (g : Nat) (c : DChart) (mem : List (List Int)) (t : Int) (A : Option Addr) (d : Nat) (q : Nat → Prop) (G : Good c) (hM : Sl (rSl rInt) q W (.slice A mem.length d) mem) (hL : Lat (fun _ => True) W g c) :
    Calls Try.prog 60 #[.pointer (some ⟨g, 0, none⟩), .slice A mem.length d, .int .i64 t] W (NewInts W (goalsL c mem t)) := by
  have HL := Lib.hid hL
  have HM := Lib.hid hM
  have HG := Lib.hid G
  have hg := hL.lt
  have lM := hM.len
  have hf0 := Lib.hid ((Fr.refl [] W).alloc (.cells #[.slice none 0 0] 29))
  have hb0 := Lib.hid (Blk.new W #[.slice none 0 0] 29)
  have HL0 := Lib.hid (hL.on hf0.out)
  have hkn := known_any _ g c t HL0.out
  clear hL hM G
  cases hk : knownB c t with
  | false =>
    rw [hk] at hkn
    have HZ : Hid (goalsL c mem t = []) := Lib.hid (by simp [goalsL, hk])
    clear hk
    go_enter Try.func60, Try.ntmps60
    go_wp2_with fail
    refine hkn.mono ?_
    rintro e w1 ⟨rfl, f1⟩
    go_wp2
    go_ret
    rw [HZ.out]
    exact ⟨none, 0, rfl, hf0.out.trans' f1, World.ownsRow_nil _ _ _ _⟩
  | true =>
    rw [hk] at hkn
    obtain ⟨j, rfl, hj⟩ : ∃ j : Nat, t = (j : Int) ∧ j < c.trans.length := by
      simp [knownB] at hk
      exact ⟨t.toNat, by omega, by omega⟩
    have HZ : Hid (goalsL c mem (j : Int) = goalsT c mem c.trans[j].targets) := Lib.hid (by simp [goalsL, hk, tr_at hj])
    obtain ⟨As, cs, At, ct, vB, vD, vI, hch⟩ := chart_open W g c HL.out
    have HCH := Lib.hid hch
    have lT := hch.t.len
    have lS := hch.s.len
    obtain ⟨gt, ot, At', dt, rfl, hgt, k0, k3, k4, ht⟩ := hch.tr hj
    have HTG := Lib.hid ht
    have lTG := ht.len
    have hj0 : (0 : Int) ≤ (j : Int) := by omega
    have hjz : (j : Int) < (c.trans.length : Int) := by omega
    have HST : Hid (∀ x, x ∈ c.trans[j].targets → isSt c x = true) := Lib.hid (fun x hx => HG.out.tg j hj x (by rw [← tr_at hj]; exact hx))
    have hfd4 := fun w => run_field28_4 (.string c.name) (.bool c.late) (.int .i64 c.script) (.slice As c.states.length cs) (.slice (some ⟨gt, ot, none⟩) c.trans.length ct) vB vD vI w
    clear hk hch k0 k4 ht
    generalize c.trans[j].targets = ts at *
    go_enter Try.func60, Try.ntmps60
    go_wp2_with fail
    refine hkn.mono ?_
    rintro e w1 ⟨rfl, f1⟩
    have HF1 := Lib.hid (hf0.out.trans' f1)
    have HB1 := Lib.hid (hb0.out.fr f1 (by simp))
    clear f1 hkn
    go_wp2_with fail
    refine (HCH.out.call _ HF1.out).mono ?_
    rintro e w2 ⟨rfl, f2⟩
    have HF2 := Lib.hid (HF1.out.trans' f2)
    have k3' := cell_on HF2.out k3
    have HV : Hid (GInv W w2 []) := Lib.hid ⟨.slice none 0 0, ⟨HB1.out.fr f2 (by simp), World.ownsRow_nil _ _ _ _⟩, HF2.out⟩
    clear f2
    go_wp2
    go_loopg [25] ts.length (fun gg s25 wr => ∃ k : Nat, k ≤ ts.length ∧ ts.length - k ≤ gg ∧ s25 = .int .i64 k ∧ Aside (GInv W wr (goalsT c mem (ts.take k))))
    case atStart => exact ⟨0, Nat.zero_le _, by omega, rfl, HV.out⟩
    case round =>
      obtain ⟨k, hkl, hgg, rfl, hV⟩ := hrel
      obtain ⟨v, hO, hFr⟩ := hV.out
      have HO := Lib.hid hO
      have HFR := Lib.hid hFr
      have HSN : Hid (∀ x, x ∈ goalsT c mem (ts.take k) → isSt c x = true) := Lib.hid (HG.out.goals (fun x hx => HST.out x (List.mem_of_mem_take hx)))
      have HND : Hid (goalsT c mem (ts.take k)).Nodup := Lib.hid (goalsT_nodup c mem _ [] List.nodup_nil)
      clear hV hO hFr
      by_cases hlt : k < ts.length
      · have hltz : (k : Int) < (ts.length : Int) := by omega
        have hk0 : (0 : Int) ≤ (k : Int) := by omega
        obtain ⟨gx, ox, rfl, _, hgx, hcx⟩ := HTG.out.int_at k hlt
        have hcw := cell_on HFR.out hcx
        have HTK := Lib.hid (goalsT_take c mem ts k hlt)
        have HSX := Lib.hid (HST.out ts[k] (List.getElem_mem hlt))
        clear hcx
        generalize ts[k] = x at *
        obtain ⟨i, rfl, hi⟩ := isSt_true HSX.out
        have HLr := Lib.hid (HL.out.on HFR.out)
        have hhi := history_any wr g c i hi HLr.out
        by_cases hk4 : 4 ≤ knd c i
        · have hd : decide (4 ≤ knd c i) = true := by simpa using hk4
          rw [hd] at hhi
          have HK4 := Lib.hid hk4
          have HLN := Lib.hid (held_len (c := c) HM.out i)
          clear hd hk4
          go_wp2_with fail
          refine hhi.mono ?_
          rintro e w3 ⟨rfl, f3⟩
          have HO3 := Lib.hid (HO.out.fr f3 (by simp) (by simp))
          have HF3 := Lib.hid (HFR.out.trans' f3)
          have hrm := remembered_any w3 g c mem i hi A d (fun _ => True) (HM.out.fr (fun k _ hk => ⟨trivial, HF3.out.block k hk (by simp)⟩)) (HL.out.on HF3.out)
          clear f3 hhi
          go_wp2_with fail
          refine hrm.mono ?_
          rintro e w4 ⟨A4, d4, rfl, f4, own4⟩
          have HO4 := Lib.hid (HO3.out.fr f4 (by simp) (by simp))
          have HF4 := Lib.hid (HF3.out.trans' f4)
          have HW4 := Lib.hid own4
          have l4 := HLN.out
          clear f4 hrm own4
          by_cases hn0 : (heldL c mem i).length = 0
          · have HP : Hid (goalsT c mem (ts.take (k + 1)) = adds (goalsT c mem (ts.take k)) (tr c (st c i).init.toNat).targets) := Lib.hid (by rw [HTK.out, Int.toNat_natCast, piece, if_neg (by have := HK4.out; omega), if_pos hn0])
            have hnb : ¬ (0 : Int) < ((heldL c mem i).length : Int) := by omega
            clear hn0
            obtain ⟨j2, hj2, hj2n⟩ := HG.out.ini i hi (.inl HK4.out)
            obtain ⟨gs, os, rfl, _, _, _, q4⟩ := HCH.out.st hi
            obtain ⟨gt2, ot2, A2, d2, e2, _, _, q3, _, hts2⟩ := HCH.out.tr hj2n
            injection e2 with e2
            injection e2 with e2 e3
            subst e2 e3
            rw [hj2] at q4
            have HTS2 := Lib.hid hts2
            have HTR2 : Hid ((tr c (st c i).init.toNat).targets = c.trans[j2].targets) := Lib.hid (by rw [hj2, Int.toNat_natCast, tr_at hj2n])
            have HST2 : Hid (∀ x, x ∈ c.trans[j2].targets → isSt c x = true) := Lib.hid (fun x hx => HG.out.tg j2 hj2n x (by rw [← tr_at hj2n]; exact hx))
            rw [HTR2.out] at HP
            have hfd3 := fun w => run_field28_3 (.string c.name) (.bool c.late) (.int .i64 c.script) (.slice (some ⟨gs, os, none⟩) c.states.length cs) (.slice (some ⟨gt, ot, none⟩) c.trans.length ct) vB vD vI w
            have hi0 : (0 : Int) ≤ (i : Int) := by omega
            have hiz : (i : Int) < (c.states.length : Int) := by omega
            have hj20 : (0 : Int) ≤ (j2 : Int) := by omega
            have hj2z : (j2 : Int) < (c.trans.length : Int) := by omega
            have hc4 := HCH.out.call _ HF4.out
            clear hts2 HTR2 hj2
            generalize c.trans[j2].targets = ts2 at *
            go_wp2_with fail
            refine hc4.mono ?_
            rintro e w5 ⟨rfl, f5⟩
            have HO5 := Lib.hid (HO4.out.fr f5 (by simp) (by simp))
            have HF5 := Lib.hid (HF4.out.trans' f5)
            have hc5 := HCH.out.call _ HF5.out
            clear f5 hc4
            go_wp2_with fail
            refine hc5.mono ?_
            rintro e w6 ⟨rfl, f6⟩
            have HO6 := Lib.hid (HO5.out.fr f6 (by simp) (by simp))
            have HF6 := Lib.hid (HF5.out.trans' f6)
            have q4' := cell_on HF6.out q4
            have q3' := cell_on HF6.out q3
            clear f6 hc5 q4 q3
            have had := add_any w6 W.heap.size W.heap.size v c (goalsT c mem (ts.take k)) ts2 A2 d2 (fun k => k < W.heap.size) HF6.out.size HG.out.tree.many HO6.out (HTS2.out.fr (fun k _ hk => ⟨hk, HF6.out.block k hk (by simp)⟩)) (fun q hq => ⟨by omega, fun h => by have := (HO6.out.own.lt _ h).1; omega⟩) HND.out HSN.out HST2.out
            go_wp2_with fail
            refine had.mono ?_
            intro e w7 h7
            obtain ⟨rfl, hG7⟩ := GInv.step HF6.out HO6.out h7
            have HG7 := Lib.hid hG7
            clear hG7 h7 had
            go_wp2
            go_roundg (ts.length - (k + 1))
            case measure => omega
            case rel => exact ⟨k + 1, by omega, by omega, by go_num, (show Aside _ from by rw [HP.out]; exact HG7.out)⟩
          · have HP : Hid (goalsT c mem (ts.take (k + 1)) = adds (goalsT c mem (ts.take k)) (heldL c mem i)) := Lib.hid (by rw [HTK.out, Int.toNat_natCast, piece, if_neg (by have := HK4.out; omega), if_neg hn0])
            have hnb : (0 : Int) < ((heldL c mem i).length : Int) := by omega
            clear hn0
            have HSM : Hid (∀ x, x ∈ heldL c mem i → isSt c x = true) := Lib.hid (fun x hx => held_st hx)
            have had := add_any w4 W.heap.size W.heap.size v c (goalsT c mem (ts.take k)) (heldL c mem i) A4 d4 _ HF4.out.size HG.out.tree.many HO4.out (int_own' HW4.out HLN.out) (fun q hq => by
              have h0 := (HW4.out.lt _ hq).1
              have h1 := HO3.out.blk.lt
              refine ⟨by omega, fun h => ?_⟩
              have := (HO3.out.own.lt _ h).2
              omega) HND.out HSN.out HSM.out
            generalize heldL c mem i = hd at *
            go_wp2_with fail
            refine had.mono ?_
            intro e w5 h5
            obtain ⟨rfl, hG5⟩ := GInv.step HF4.out HO4.out h5
            have HG5 := Lib.hid hG5
            clear hG5 h5 had
            go_wp2
            go_roundg (ts.length - (k + 1))
            case measure => omega
            case rel => exact ⟨k + 1, by omega, by omega, by go_num, (show Aside _ from by rw [HP.out]; exact HG5.out)⟩
        · have hd : decide (4 ≤ knd c i) = false := by simpa using hk4
          rw [hd] at hhi
          have HP : Hid (goalsT c mem (ts.take (k + 1)) = adds (goalsT c mem (ts.take k)) [(i : Int)]) := Lib.hid (by rw [HTK.out, Int.toNat_natCast, piece, if_pos (by omega)])
          clear hd hk4
          go_wp2_with fail
          refine hhi.mono ?_
          rintro e w3 ⟨rfl, f3⟩
          have HO3 := Lib.hid (HO.out.fr f3 (by simp) (by simp))
          have HF3 := Lib.hid (HFR.out.trans' f3)
          have HO4 := Lib.hid (HO3.out.fr ((Fr.refl [] w3).alloc (.cells #[.int .i64 (i : Int)] 3)) (by simp) (by simp))
          have HF4 := Lib.hid (HF3.out.alloc (.cells #[.int .i64 (i : Int)] 3))
          have had := add_any (w3.alloc (.cells #[.int .i64 (i : Int)] 3)) W.heap.size W.heap.size v c (goalsT c mem (ts.take k)) [(i : Int)] (some ⟨w3.heap.size, 0, none⟩) 1 (fun k => k = w3.heap.size) HF4.out.size HG.out.tree.many HO4.out (sl_ints [(i : Int)] (Blk.new w3 _ 3) rfl (by simp)) (fun q hq => by
            subst hq
            have h1 := HO3.out.blk.lt
            refine ⟨by omega, fun h => ?_⟩
            have := (HO3.out.own.lt _ h).2
            omega) HND.out HSN.out (fun y hy => by rw [List.mem_singleton.1 hy]; exact isSt_nat hi)
          clear f3 hhi
          go_wp2_with fail
          refine had.mono ?_
          intro e w5 h5
          obtain ⟨rfl, hG5⟩ := GInv.step HF4.out HO4.out h5
          have HG5 := Lib.hid hG5
          clear hG5 h5 had
          go_wp2
          go_roundg (ts.length - (k + 1))
          case measure => omega
          case rel => exact ⟨k + 1, by omega, by omega, by go_num, (show Aside _ from by rw [HP.out]; exact HG5.out)⟩
      · obtain rfl : k = ts.length := by omega
        have hltz : ¬ (ts.length : Int) < (ts.length : Int) := by omega
        rw [List.take_length] at HO
        have hvb := HO.out.blk.cell 0
        simp at hvb
        have HOW := Lib.hid HO.out.own
        obtain ⟨A1, d1, rfl⟩ := own_slice HOW.out
        go_wp2
        go_ret
        rw [HZ.out]
        exact ⟨_, _, rfl, HFR.out, HOW.out⟩
end Go.Proofs.Ytekfbafljilchaa
