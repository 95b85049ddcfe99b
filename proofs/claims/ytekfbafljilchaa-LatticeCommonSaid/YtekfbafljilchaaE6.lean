/- lattice.New: what was made reads as a lattice. -/
import Derived.Test.YtekfbafljilchaaE3
import Derived.Test.YtekfbafljilchaaC1
set_option linter.unusedVariables false
set_option linter.unusedSimpArgs false
namespace Go.Proofs.Ytekfbafljilchaa
open Go.RowKit Go.Lib

theorem int_own {w : World} {B : Nat} {v : Value} {r : List Int} (h : w.ownsRow B 3 1 v r.length (r.map (.int .i64))) (hr : r.length ≤ 128) : Sl rInt (fun k => B ≤ k) w v r := by
  have hf : (r.map fun x => [Value.int .i64 x]).flatten = r.map (.int .i64) := by
    clear h hr
    induction r with
    | nil => rfl
    | cons x r ih => simpa using ih
  refine sl_of_own (K := rInt) (t := 3) (base := B) (css := r.map fun x => [Value.int .i64 x]) (by rw [hf]; exact h) ⟨by simp, fun j cs x h1 h2 => ?_⟩ (by simp [rInt]; omega) (fun k hk _ _ => hk)
  rw [List.getElem?_map, h2] at h1
  simpa [rInt] using h1.symm
theorem AbT.sl {w : World} {B : Nat} {va : Value} {c : DChart} (h : AbT w B va (ns c) c) (hn : ns c ≤ 128) : Sl (rSl rBool) (fun k => B ≤ k) w va (abRows c) := by
  obtain ⟨css, ho, hR⟩ := h
  exact sl_of_own (K := rSl rBool) (t := 31) (base := B) (css := css) (show w.ownsRow B 31 1 va _ css.flatten by simpa [abRows] using ho) (hR.fr fun k hk _ => ⟨hk.1, rfl⟩) (by simp [rSl, abRows]; omega) (fun k hk _ _ => hk)
theorem Tabs.sl {w : World} {B fb kb : Nat} {F K : List Value} {fr : List (List Int)} {c : DChart} (h : Tabs w B fb kb F K fr (kRows c (ns c))) (hn : ns c ≤ 128) (hB : B ≤ kb) : Sl (rSl rInt) (fun k => B ≤ k) w (.slice (some ⟨kb, 0, none⟩) (ns c) (ns c)) (kdRows c) := by
  have hl : (kdRows c).length = ns c := by simp [kdRows]
  refine ⟨some ⟨kb, 0, none⟩, ns c, by rw [hl], by rw [hl]; exact Nat.le_refl _, by rw [hl]; simp [rSl]; omega, fun j x hj => ?_⟩
  have hjn : j < ns c := by rw [← hl]; exact (List.getElem?_eq_some_iff.1 hj).1
  have hx : x = kidsTo c (ns c) j := by
    have := kRows_at c (ns c) hjn
    rw [kRows_done, hj] at this
    exact Option.some.inj this
  subst hx
  obtain ⟨v, hv, hown⟩ := h.atK (kRows_at c (ns c) hjn)
  refine ⟨kb, 0, [v], rfl, hB, h.kB.lt, ⟨v, rfl, int_own hown (Nat.le_trans (kidsTo_len _ _ _) hn)⟩, fun i u hu => ?_⟩
  cases i with
  | zero =>
    simp at hu
    subst hu
    rw [h.kB.cell]
    simpa [rSl] using hv
  | succ i => simp at hu
theorem lat_of {w : World} {B fb kb L : Nat} {p : Nat → Prop} {F K : List Value} {fr : List (List Int)} {c : DChart} {vs vt vb vd vi va : Value} (hL : Blk w L #[.string c.name, .bool c.late, .int .i64 c.script, vs, vt, vb, vd, vi, va, .slice (some ⟨kb, 0, none⟩) c.states.length c.states.length] 87)
    (hs : Sl rState p w vs c.states) (ht : Sl rTrans p w vt c.trans) (hb : Sl rBlock p w vb c.blocks) (hd : Sl rDatum p w vd c.data) (hi : Sl rInvoke p w vi c.invokes)
    (ha : AbT w B va (ns c) c) (hk : Tabs w B fb kb F K fr (kRows c (ns c))) (hn : ns c ≤ 128) (hB : B ≤ kb) (hp : ∀ k, B ≤ k → p k) : Lat p w L c :=
  ⟨vs, vt, vb, vd, vi, va, _, hL, hs, ht, hb, hd, hi, (ha.sl hn).fr (fun k hk _ => ⟨hp k hk, rfl⟩), (hk.sl hn hB).fr (fun k hk _ => ⟨hp k hk, rfl⟩)⟩
end Go.Proofs.Ytekfbafljilchaa
