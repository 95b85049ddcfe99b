/- ClockPlays: the walk. -/
import Derived.Test.YtifjablnplpfnaaG7
import Derived.Deep.CutRange
set_option linter.unusedVariables false
set_option linter.unusedSimpArgs false
namespace Go.Proofs.Ytifjablnplpfnaa
open Go.RowKit Go.Lib

/-- Behind the two calls: both replies lie in memory, and are the same. -/
def Replied (W wx : World) (gc gr : Nat) (s : St) (ns : List Int) (er : Int) (s7 s8 : Value) : Prop :=
  ∃ a b A c A2 c2, s7 = .pointer (some ⟨a, 0, none⟩) ∧ s8 = .pointer (some ⟨b, 0, none⟩) ∧ Two W wx gc gr s s ∧ Blk wx a #[.slice A ns.length c, .int .i64 er] 34 ∧ Blk wx b #[.slice A2 ns.length c2, .int .i64 er] 34 ∧
    OwnI wx W.heap.size (.slice A ns.length c) ns ∧ OwnI wx W.heap.size (.slice A2 ns.length c2) ns

/-- The reply's cells, once it is stored. -/
def repC (b : Bool) (A : Option Addr) (n c : Nat) (er : Int) : Array Value := if b then #[.slice A n c, .int .i64 er] else #[.slice none 0 0, .int .i64 0]

/-- The frame inside region 9: what has come up lies in its slots. -/
def A9 (gc gr : Nat) (x : Call) (n : Nat) (er : Int) (A2 A5 : Option Addr) (c2 c5 p7 p8 : Nat) (b0 b1 b2 b3 b4 b5 b6 b7 : Bool) (a0 : Act) : Act :=
  putIf b0 28 (.pointer (some ⟨gc, 0, none⟩)) (putIf b1 29 x.val (putIf b2 30 (.agg #[.slice A2 n c2, .int .i64 er]) (putIf b3 31 (.pointer (some ⟨gr, 0, none⟩))
    (putIf b4 32 x.val (putIf b5 33 (.agg #[.slice A5 n c5, .int .i64 er]) (putIf b6 7 (.pointer (some ⟨p7, 0, none⟩)) (putIf b7 8 (.pointer (some ⟨p8, 0, none⟩)) a0)))))))

theorem load31 {w : World} {b : Nat} {x : Call} (h : Blk w b #[.int .u8 x.kind, .int .i64 x.owner, .string x.id, .int .i64 x.delay, .int .i64 x.n, .int .i64 x.by_] 31) : (Instr.loadAt 31 (.pointer (some ⟨b, 0, none⟩))).run Try.prog w = .ok x.val w := by
  have k0 := h.cell 0
  have k1 := h.cell 1
  have k2 := h.cell 2
  have k3 := h.cell 3
  have k4 := h.cell 4
  have k5 := h.cell 5
  have hl := h.lt
  simp at k0 k1 k2 k3 k4 k5
  go_simp
  rfl
theorem alloc34 (w : World) : (Instr.alloc 34 true (.tuple #[])).run Try.prog w = .ok (.pointer (some ⟨w.heap.size, 0, none⟩)) (w.alloc (.cells #[.slice none 0 0, .int .i64 0] 34)) := by
  go_simp
theorem store34 {w : World} {b : Nat} {p q : Value} (h : Blk w b #[p, q] 34) (A : Option Addr) (n c : Nat) (er : Int) : (Instr.storeAt 34 (.pointer (some ⟨b, 0, none⟩)) (.agg #[.slice A n c, .int .i64 er])).run Try.prog w = .ok () ((w.setCell ⟨b, 0, none⟩ (.slice A n c)).setCell ⟨b, 1, none⟩ (.int .i64 er)) := by
  have hl := h.lt
  have f0 := h.free 0
  have f1 := h.free 1
  have k0 := h.cell 0
  have k1 := h.cell 1
  simp at k0 k1
  go_simp
theorem A9.p0 (gc gr : Nat) (x : Call) (n : Nat) (er : Int) (A2 A5 : Option Addr) (c2 c5 p7 p8 : Nat) (b1 b2 b3 b4 b5 b6 b7 : Bool) (a0 : Act) :
    (A9 gc gr x n er A2 A5 c2 c5 p7 p8 false b1 b2 b3 b4 b5 b6 b7 a0).put (some 28) (.pointer (some ⟨gc, 0, none⟩)) = A9 gc gr x n er A2 A5 c2 c5 p7 p8 true b1 b2 b3 b4 b5 b6 b7 a0 := by
  simp only [A9, putIf_put, ne_eq, Nat.reduceEqDiff, not_false_eq_true]
  rfl
theorem A9.p1 (gc gr : Nat) (x : Call) (n : Nat) (er : Int) (A2 A5 : Option Addr) (c2 c5 p7 p8 : Nat) (b0 b2 b3 b4 b5 b6 b7 : Bool) (a0 : Act) :
    (A9 gc gr x n er A2 A5 c2 c5 p7 p8 b0 false b2 b3 b4 b5 b6 b7 a0).put (some 29) x.val = A9 gc gr x n er A2 A5 c2 c5 p7 p8 b0 true b2 b3 b4 b5 b6 b7 a0 := by
  simp only [A9, putIf_put, ne_eq, Nat.reduceEqDiff, not_false_eq_true]
  rfl
theorem A9.p2 (gc gr : Nat) (x : Call) (n : Nat) (er : Int) (A2 A5 : Option Addr) (c2 c5 p7 p8 : Nat) (b0 b1 b3 b4 b5 b6 b7 : Bool) (a0 : Act) (A2' : Option Addr) (c2' : Nat) :
    (A9 gc gr x n er A2' A5 c2' c5 p7 p8 b0 b1 false b3 b4 b5 b6 b7 a0).put (some 30) (.agg #[.slice A2 n c2, .int .i64 er]) = A9 gc gr x n er A2 A5 c2 c5 p7 p8 b0 b1 true b3 b4 b5 b6 b7 a0 := by
  simp only [A9, putIf_put, ne_eq, Nat.reduceEqDiff, not_false_eq_true]
  rfl
theorem A9.p3 (gc gr : Nat) (x : Call) (n : Nat) (er : Int) (A2 A5 : Option Addr) (c2 c5 p7 p8 : Nat) (b0 b1 b2 b4 b5 b6 b7 : Bool) (a0 : Act) :
    (A9 gc gr x n er A2 A5 c2 c5 p7 p8 b0 b1 b2 false b4 b5 b6 b7 a0).put (some 31) (.pointer (some ⟨gr, 0, none⟩)) = A9 gc gr x n er A2 A5 c2 c5 p7 p8 b0 b1 b2 true b4 b5 b6 b7 a0 := by
  simp only [A9, putIf_put, ne_eq, Nat.reduceEqDiff, not_false_eq_true]
  rfl
theorem A9.p4 (gc gr : Nat) (x : Call) (n : Nat) (er : Int) (A2 A5 : Option Addr) (c2 c5 p7 p8 : Nat) (b0 b1 b2 b3 b5 b6 b7 : Bool) (a0 : Act) :
    (A9 gc gr x n er A2 A5 c2 c5 p7 p8 b0 b1 b2 b3 false b5 b6 b7 a0).put (some 32) x.val = A9 gc gr x n er A2 A5 c2 c5 p7 p8 b0 b1 b2 b3 true b5 b6 b7 a0 := by
  simp only [A9, putIf_put, ne_eq, Nat.reduceEqDiff, not_false_eq_true]
  rfl
theorem A9.p5 (gc gr : Nat) (x : Call) (n : Nat) (er : Int) (A2 A5 : Option Addr) (c2 c5 p7 p8 : Nat) (b0 b1 b2 b3 b4 b6 b7 : Bool) (a0 : Act) (A5' : Option Addr) (c5' : Nat) :
    (A9 gc gr x n er A2 A5' c2 c5' p7 p8 b0 b1 b2 b3 b4 false b6 b7 a0).put (some 33) (.agg #[.slice A5 n c5, .int .i64 er]) = A9 gc gr x n er A2 A5 c2 c5 p7 p8 b0 b1 b2 b3 b4 true b6 b7 a0 := by
  simp only [A9, putIf_put, ne_eq, Nat.reduceEqDiff, not_false_eq_true]
  rfl
theorem A9.p6 (gc gr : Nat) (x : Call) (n : Nat) (er : Int) (A2 A5 : Option Addr) (c2 c5 p7 p8 : Nat) (b0 b1 b2 b3 b4 b5 b7 : Bool) (a0 : Act) (p7' : Nat) :
    (A9 gc gr x n er A2 A5 c2 c5 p7' p8 b0 b1 b2 b3 b4 b5 false b7 a0).put (some 7) (.pointer (some ⟨p7, 0, none⟩)) = A9 gc gr x n er A2 A5 c2 c5 p7 p8 b0 b1 b2 b3 b4 b5 true b7 a0 := by
  simp only [A9, putIf_put, ne_eq, Nat.reduceEqDiff, not_false_eq_true]
  rfl
theorem A9.p7 (gc gr : Nat) (x : Call) (n : Nat) (er : Int) (A2 A5 : Option Addr) (c2 c5 p7 p8 : Nat) (b0 b1 b2 b3 b4 b5 b6 : Bool) (a0 : Act) (p8' : Nat) :
    (A9 gc gr x n er A2 A5 c2 c5 p7 p8' b0 b1 b2 b3 b4 b5 b6 false a0).put (some 8) (.pointer (some ⟨p8, 0, none⟩)) = A9 gc gr x n er A2 A5 c2 c5 p7 p8 b0 b1 b2 b3 b4 b5 b6 true a0 := by
  simp only [A9, putIf_put, ne_eq, Nat.reduceEqDiff, not_false_eq_true]
  rfl
theorem A9.e0 {gc gr : Nat} {x : Call} {n : Nat} {er : Int} {A2 A5 : Option Addr} {c2 c5 p7 p8 : Nat} {b1 b2 b3 b4 b5 b6 b7 : Bool} {a0 : Act} (hs : a0.tmps.size = 93) : (A9 gc gr x n er A2 A5 c2 c5 p7 p8 true b1 b2 b3 b4 b5 b6 b7 a0).eval (.tmp 28) = (.pointer (some ⟨gc, 0, none⟩)) := by
  simp [A9, eval_putIf, eval_put, size_putIf, hs]
theorem A9.e1 {gc gr : Nat} {x : Call} {n : Nat} {er : Int} {A2 A5 : Option Addr} {c2 c5 p7 p8 : Nat} {b0 b2 b3 b4 b5 b6 b7 : Bool} {a0 : Act} (hs : a0.tmps.size = 93) : (A9 gc gr x n er A2 A5 c2 c5 p7 p8 b0 true b2 b3 b4 b5 b6 b7 a0).eval (.tmp 29) = x.val := by
  simp [A9, eval_putIf, eval_put, size_putIf, hs]
theorem A9.e2 {gc gr : Nat} {x : Call} {n : Nat} {er : Int} {A2 A5 : Option Addr} {c2 c5 p7 p8 : Nat} {b0 b1 b3 b4 b5 b6 b7 : Bool} {a0 : Act} (hs : a0.tmps.size = 93) : (A9 gc gr x n er A2 A5 c2 c5 p7 p8 b0 b1 true b3 b4 b5 b6 b7 a0).eval (.tmp 30) = (.agg #[.slice A2 n c2, .int .i64 er]) := by
  simp [A9, eval_putIf, eval_put, size_putIf, hs]
theorem A9.e3 {gc gr : Nat} {x : Call} {n : Nat} {er : Int} {A2 A5 : Option Addr} {c2 c5 p7 p8 : Nat} {b0 b1 b2 b4 b5 b6 b7 : Bool} {a0 : Act} (hs : a0.tmps.size = 93) : (A9 gc gr x n er A2 A5 c2 c5 p7 p8 b0 b1 b2 true b4 b5 b6 b7 a0).eval (.tmp 31) = (.pointer (some ⟨gr, 0, none⟩)) := by
  simp [A9, eval_putIf, eval_put, size_putIf, hs]
theorem A9.e4 {gc gr : Nat} {x : Call} {n : Nat} {er : Int} {A2 A5 : Option Addr} {c2 c5 p7 p8 : Nat} {b0 b1 b2 b3 b5 b6 b7 : Bool} {a0 : Act} (hs : a0.tmps.size = 93) : (A9 gc gr x n er A2 A5 c2 c5 p7 p8 b0 b1 b2 b3 true b5 b6 b7 a0).eval (.tmp 32) = x.val := by
  simp [A9, eval_putIf, eval_put, size_putIf, hs]
theorem A9.e5 {gc gr : Nat} {x : Call} {n : Nat} {er : Int} {A2 A5 : Option Addr} {c2 c5 p7 p8 : Nat} {b0 b1 b2 b3 b4 b6 b7 : Bool} {a0 : Act} (hs : a0.tmps.size = 93) : (A9 gc gr x n er A2 A5 c2 c5 p7 p8 b0 b1 b2 b3 b4 true b6 b7 a0).eval (.tmp 33) = (.agg #[.slice A5 n c5, .int .i64 er]) := by
  simp [A9, eval_putIf, eval_put, size_putIf, hs]
theorem A9.e6 {gc gr : Nat} {x : Call} {n : Nat} {er : Int} {A2 A5 : Option Addr} {c2 c5 p7 p8 : Nat} {b0 b1 b2 b3 b4 b5 b7 : Bool} {a0 : Act} (hs : a0.tmps.size = 93) : (A9 gc gr x n er A2 A5 c2 c5 p7 p8 b0 b1 b2 b3 b4 b5 true b7 a0).eval (.tmp 7) = (.pointer (some ⟨p7, 0, none⟩)) := by
  simp [A9, eval_putIf, eval_put, size_putIf, hs]
theorem A9.e7 {gc gr : Nat} {x : Call} {n : Nat} {er : Int} {A2 A5 : Option Addr} {c2 c5 p7 p8 : Nat} {b0 b1 b2 b3 b4 b5 b6 : Bool} {a0 : Act} (hs : a0.tmps.size = 93) : (A9 gc gr x n er A2 A5 c2 c5 p7 p8 b0 b1 b2 b3 b4 b5 b6 true a0).eval (.tmp 8) = (.pointer (some ⟨p8, 0, none⟩)) := by
  simp [A9, eval_putIf, eval_put, size_putIf, hs]
theorem A9.e {gc gr : Nat} {x : Call} {n : Nat} {er : Int} {A2 A5 : Option Addr} {c2 c5 p7 p8 : Nat} {b0 b1 b2 b3 b4 b5 b6 b7 : Bool} {a0 : Act} (t : Nat) (ht : t < 7) : (A9 gc gr x n er A2 A5 c2 c5 p7 p8 b0 b1 b2 b3 b4 b5 b6 b7 a0).eval (.tmp t) = a0.eval (.tmp t) := by
  have h : ∀ k, 7 ≤ k → k ≠ t := fun k hk => by omega
  simp only [A9]
  rw [eval_putIf _ (h 28 (by omega)), eval_putIf _ (h 29 (by omega)), eval_putIf _ (h 30 (by omega)), eval_putIf _ (h 31 (by omega)), eval_putIf _ (h 32 (by omega)), eval_putIf _ (h 33 (by omega)), eval_putIf _ (h 7 (by omega)), eval_putIf _ (h 8 (by omega))]
/-- What stays true in region 9, whatever has come up (b0 .. b9). -/
def J9 (W : World) (gc gr bx : Nat) (s : St) (x : Call) (a0 : Act) (l : Array Bool) (a : Act) (w : World) : Prop :=
  (a0.eval (.tmp 3) = .pointer (some ⟨gc, 0, none⟩) ∧ a0.eval (.tmp 4) = .pointer (some ⟨gr, 0, none⟩) ∧ a0.eval (.tmp 6) = .pointer (some ⟨bx, 0, none⟩) ∧ a0.tmps.size = 93) ∧
  ∃ b0 b1 b2 b3 b4 b5 b6 b7 b8 b9 A2 c2 A5 c5 p7 p8, l = #[b0, b1, b2, b3, b4, b5, b6, b7, b8, b9] ∧ a = A9 gc gr x (s.play x).1.length (s.play x).2.1 A2 A5 c2 c5 p7 p8 b0 b1 b2 b3 b4 b5 b6 b7 a0 ∧
    Two W w gc gr (if b2 then (s.play x).2.2 else s) (if b5 then (s.play x).2.2 else s) ∧ Blk w bx #[.int .u8 x.kind, .int .i64 x.owner, .string x.id, .int .i64 x.delay, .int .i64 x.n, .int .i64 x.by_] 31 ∧
    (b8 = true → b2 = true ∧ b6 = true) ∧ (b9 = true → b5 = true ∧ b7 = true) ∧ (b5 = true → b2 = true) ∧ (b2 = true → OwnI w W.heap.size (.slice A2 (s.play x).1.length c2) (s.play x).1) ∧ (b5 = true → OwnI w W.heap.size (.slice A5 (s.play x).1.length c5) (s.play x).1) ∧
    (b6 = true → W.heap.size ≤ p7 ∧ Blk w p7 (repC b8 A2 (s.play x).1.length c2 (s.play x).2.1) 34) ∧ (b7 = true → W.heap.size ≤ p8 ∧ Blk w p8 (repC b9 A5 (s.play x).1.length c5 (s.play x).2.1) 34) ∧ (b6 = true → b7 = true → p7 ≠ p8)

theorem nextOf_eq (now : Int) (ts : List Tm) : nextOf now ts = (max (rnext now ts) 0, decide (0 ≤ rnext now ts)) := by
  cases ts with
  | nil => rfl
  | cons t ts =>
    refine Prod.ext ?_ ?_
    · show max 0 (t.d - now) = max (max 0 (t.d - now)) 0
      omega
    · show true = decide (0 ≤ max 0 (t.d - now))
      have : 0 ≤ max 0 (t.d - now) := by omega
      simp [this]

theorem Two.above {W w w' : World} {S : List Nat} {gc gr : Nat} {s t : St} (h : Two W w gc gr s t) (f : Fr S w w') (hS : ∀ x, x ∈ S → w.heap.size ≤ x) : Two W w' gc gr s t := by
  obtain ⟨h1, h2, rb, rd, hc, hd, hr, g1, g2, g3, g4, hf⟩ := h
  have hcl : gc < w.heap.size ∧ ∀ k, rb = some k → k < w.heap.size := by obtain ⟨v, hb, hr⟩ := hc; exact ⟨hb.lt, fun k hk => (hr.lt k hk).1⟩
  have hdl := hd.lt
  exact ⟨h1, h2, rb, rd, Clk.fr hc f (fun hm => by have := hS _ hm; omega) (fun k hk hm => by have := hS _ hm; have := hcl.2 k hk; omega), hd.fr f (fun hm => by have := hS _ hm; omega) (fun k hk hm => by have := hS _ hm; have := hdl.2 k hk; omega), hr, g1, g2, g3, g4, hf.trans f (fun x hx hxl => by have := hS x hx; have := hf.size; omega)⟩

theorem cell_fr {w w' : World} {b i : Nat} {u : Value} (h : w.cell? ⟨b, i, none⟩ = some u) (f : Fr [] w w') : w'.cell? ⟨b, i, none⟩ = some u := by
  rw [← h]; exact World.cell?_of_block (f.block b (World.block_lt_of_cell? w _ h) (by simp))

set_option maxRecDepth 100000 in
set_option maxHeartbeats 8000000 in
theorem plays_any (W : World) (v : Value) (xs : List Call) (hv : RC W v xs) : Calls Try.prog 3 #[v] W fun e w' => e = .returned (.bool true) ∧ Fr [] W w' := by
  have hv0 := hv
  obtain ⟨A, c, rfl, hl0, hread⟩ := hv
  have HV := Lib.hid hv0
  clear hread hv0
  by_cases hbig : 400 < xs.length
  · go_enter Try.func3, Try.ntmps3
    go_wp2_with fail
    refine (awake_any W).mono ?_
    rintro e w1 ⟨rfl, f1⟩
    go_wp2
    go_ret
    exact ⟨rfl, f1⟩
  · go_enter Try.func3, Try.ntmps3
    go_wp2_with fail
    refine (awake_any W).mono ?_
    rintro e w1 ⟨rfl, f1⟩
    go_wp2_with fail
    refine (new_al W w1 f1).mono ?_
    rintro e w2 ⟨gc, rfl, h2, _⟩
    have h3 := new_two W w2 h2
    have hgr := h2.size
    clear h2 f1
    go_wp2
    generalize hgre : w2.heap.size = gr at *
    generalize w2.alloc (.cells #[.int .i64 0, .slice none 0 0] 29) = w3 at *
    clear hgre
    go_loopg [6, 7, 8, 9, 10, 11, 12, 13, 24] xs.length (fun gg _ _ _ _ _ _ _ _ s24 wr => ∃ (k : Nat) (s : St), k ≤ xs.length ∧ xs.length - k ≤ gg ∧ s24 = .int .i64 k ∧ Aside (Two W wr gc gr s s))
    case atStart => exact ⟨0, _, by omega, by omega, rfl, h3⟩
    case round =>
      obtain ⟨k, s, hk, hg, rfl, hal⟩ := hrel
      have hal : Two _ _ _ _ _ _ := hal
      by_cases hlt : k < xs.length
      · have hltz : (k : Int) < (xs.length : Int) := by omega
        obtain ⟨wo, rfl⟩ : ∃ wo : World, wo = wr := ⟨_, rfl⟩
        obtain ⟨A', c', e', _, hread'⟩ := HV.out.fr hal.frame
        obtain ⟨hx, g, o, hA', c0, c1, c2, c3, c4, c5⟩ := hread' k hlt
        injection e' with e1 e2 e3
        subst e1 e3
        subst hA'
        clear hread' e2
        generalize hxk : xs[k] = x at *
        have HX := Lib.hid hx
        clear hx hxk
        go_wp2
        have hbx : Blk (wo.alloc (.cells #[.int .u8 x.kind, .int .i64 x.owner, .string x.id, .int .i64 x.delay, .int .i64 x.n, .int .i64 x.by_] 31)) wo.heap.size #[.int .u8 x.kind, .int .i64 x.owner, .string x.id, .int .i64 x.delay, .int .i64 x.n, .int .i64 x.by_] 31 := Blk.new wo _ 31
        have hal1 := hal.fr ((Fr.refl [] wo).alloc (.cells #[.int .u8 x.kind, .int .i64 x.owner, .string x.id, .int .i64 x.delay, .int .i64 x.n, .int .i64 x.by_] 31))
        have hWo := hal.frame.size
        generalize wo.alloc (.cells #[.int .u8 x.kind, .int .i64 x.owner, .string x.id, .int .i64 x.delay, .int .i64 x.n, .int .i64 x.by_] 31) = w4 at *
        generalize wo.heap.size = bx at *
        refine region_inv (by kernel_rfl) (fun a0 l a w => J9 W gc gr bx s x a0 l a w) ?_ ?_ ?_
        · exact ⟨⟨rfl, rfl, rfl, rfl⟩, false, false, false, false, false, false, false, false, false, false, none, 0, none, 0, 0, 0, rfl, rfl, hal1.fr ((Fr.refl _ _).drew), hbx, by simp, by simp, by simp, by simp, by simp, by simp, by simp, by simp⟩
        · intro l a' w' hJ hi
          obtain ⟨-, b0, b1, b2, b3, b4, b5, b6, b7, b8, b9, A2, c2, A5, c5, p7, p8, rfl, rfl, hT, hB, h8, h9, h55, h2, h5, h6, h7, hne⟩ := hJ
          have t0 : b0 = true := ready_nil hi 0 (by decide) (by simp [Region.binds])
          have t1 : b1 = true := ready_nil hi 1 (by decide) (by simp [Region.binds])
          have t3 : b3 = true := ready_nil hi 3 (by decide) (by simp [Region.binds])
          have t4 : b4 = true := ready_nil hi 4 (by decide) (by simp [Region.binds])
          have t6 : b6 = true := ready_nil hi 6 (by decide) (by simp [Region.binds])
          have t7 : b7 = true := ready_nil hi 7 (by decide) (by simp [Region.binds])
          have t2 : b2 = true := ready_nil hi 2 (by decide) (by simp [Region.binds, t0, t1])
          have t5 : b5 = true := ready_nil hi 5 (by decide) (by simp [Region.binds, t2, t3, t4])
          have t8 : b8 = true := ready_nil hi 8 (by decide) (by simp [Region.binds, t0, t1, t2, t3, t4, t5, t6, t7])
          have t9 : b9 = true := ready_nil hi 9 (by decide) (by simp [Region.binds, t0, t1, t2, t3, t4, t5, t6, t7, t8])
          subst t0 t1 t2 t3 t4 t5 t6 t7 t8 t9
          clear hi h8 h9 h55
          have ho2 := h2 rfl
          have ho5 := h5 rfl
          obtain ⟨hW7, hb7⟩ := h6 rfl
          obtain ⟨hW8, hb8⟩ := h7 rfl
          simp only [repC, if_true] at hb7 hb8 hT
          clear h2 h5 h6 h7 hne
          simp only [A9, putIf_true]
          go_simp
          have hok' : (s.play x).2.2.Ok := hT.1
          generalize (s.play x).2.2 = s' at *
          generalize (s.play x).1 = ns at *
          generalize (s.play x).2.1 = er at *
          have l7 := hb7.lt
          have l8 := hb8.lt
          have k70 := hb7.cell 0
          have k71 := hb7.cell 1
          have k80 := hb8.cell 0
          have k81 := hb8.cell 1
          simp at k70 k71 k80 k81
          have hsame := sameInts_any w' _ _ _ _ ho2.ri ho5.ri
          rw [beq_self_eq_true] at hsame
          have hfw := hT.frame
          clear hb7 hb8 ho2 ho5 hB
          go_wp2_with fail
          refine hsame.mono ?_
          rintro e w5 ⟨rfl, f5⟩
          have k71' := cell_fr k71 f5
          have k81' := cell_fr k81 f5
          have l7' : p7 < w5.heap.size := Nat.lt_of_lt_of_le l7 f5.size
          have l8' : p8 < w5.heap.size := Nat.lt_of_lt_of_le l8 f5.size
          have hT5 := hT.fr f5
          clear hsame hT k70 k71 k80 k81 l7 l8
          go_wp2_with fail
          refine (next_two hT5).mono ?_
          rintro e w6 ⟨rfl, f6⟩
          rw [nextOf_eq]
          dsimp only
          have hT6 := hT5.fr f6
          clear hT5
          go_wp2_with fail
          refine (rnext_two hT6).mono ?_
          rintro e w7 ⟨rfl, f7⟩
          have hT7 := hT6.fr f7
          clear hT6
          go_wp2_with fail
          refine (timers_two hT7).mono ?_
          rintro e w8 ⟨v8, rfl, ho8, f8⟩
          have hT8 := hT7.fr f8
          have hs7 := hT7.frame.size
          have HT7 := Lib.hid hT7
          clear hT7
          have hrt := RT.of_own ho8 (by have := hok'.len; omega)
          obtain ⟨A8, c8, rfl⟩ := own_slice ho8
          have HT := Lib.hid hT8
          have HO := Lib.hid ho8
          have HRT := Lib.hid hrt
          clear hT8 ho8 hrt
          go_wp2
          refine region_inv (by kernel_rfl) (fun a0 l a w => R15.J W w8 gc gr s' A8 c8 a0 l a w) ?_ ?_ ?_
          · exact ⟨⟨rfl, rfl, rfl, rfl, rfl, rfl, rfl⟩, false, false, false, false, false, false, false, false, false, false, false, false, false, false, false, false, false, false, false, false, false, false, false, false, false, false, none, 0, rfl, rfl, HT.out, HRT.out, (Fr.refl [] w8).drew, by simp⟩
          ·
            intro l a' w' hJ hi
            obtain ⟨-, b0, b1, b2, b3, b4, b5, b6, b7, b8, b9, b10, b11, b12, b13, b14, b15, b16, b17, b18, b19, b20, b21, b22, b23, b24, b25, B9, c9, rfl, rfl, hinv⟩ := hJ
            have t0 : b0 = true := ready_nil hi 0 (by decide) (by simp [Region.binds])
            have t1 : b1 = true := ready_nil hi 1 (by decide) (by simp [Region.binds, t0])
            have t2 : b2 = true := ready_nil hi 2 (by decide) (by simp [Region.binds])
            have t3 : b3 = true := ready_nil hi 3 (by decide) (by simp [Region.binds, t2])
            have t4 : b4 = true := ready_nil hi 4 (by decide) (by simp [Region.binds, t3])
            have t5 : b5 = true := ready_nil hi 5 (by decide) (by simp [Region.binds, t4])
            have t6 : b6 = true := ready_nil hi 6 (by decide) (by simp [Region.binds, t1, t5])
            have t7 : b7 = true := ready_nil hi 7 (by decide) (by simp [Region.binds, t1, t6])
            have t8 : b8 = true := ready_nil hi 8 (by decide) (by simp [Region.binds, t7])
            have t9 : b9 = true := ready_nil hi 9 (by decide) (by simp [Region.binds, t7])
            have t10 : b10 = true := ready_nil hi 10 (by decide) (by simp [Region.binds, t7, t9])
            have t11 : b11 = true := ready_nil hi 11 (by decide) (by simp [Region.binds, t7, t8, t10])
            have t12 : b12 = true := ready_nil hi 12 (by decide) (by simp [Region.binds, t7, t11])
            have t13 : b13 = true := ready_nil hi 13 (by decide) (by simp [Region.binds, t7, t12])
            have t14 : b14 = true := ready_nil hi 14 (by decide) (by simp [Region.binds, t11, t13])
            have t15 : b15 = true := ready_nil hi 15 (by decide) (by simp [Region.binds, t14])
            have t16 : b16 = true := ready_nil hi 16 (by decide) (by simp [Region.binds, t14])
            have t17 : b17 = true := ready_nil hi 17 (by decide) (by simp [Region.binds, t14, t16])
            have t18 : b18 = true := ready_nil hi 18 (by decide) (by simp [Region.binds, t14, t15, t17])
            have t19 : b19 = true := ready_nil hi 19 (by decide) (by simp [Region.binds, t14, t18])
            have t20 : b20 = true := ready_nil hi 20 (by decide) (by simp [Region.binds, t14, t19])
            have t21 : b21 = true := ready_nil hi 21 (by decide) (by simp [Region.binds, t20])
            have t22 : b22 = true := ready_nil hi 22 (by decide) (by simp [Region.binds, t20])
            have t23 : b23 = true := ready_nil hi 23 (by decide) (by simp [Region.binds, t20, t22])
            have t24 : b24 = true := ready_nil hi 24 (by decide) (by simp [Region.binds, t20, t21, t23])
            have t25 : b25 = true := ready_nil hi 25 (by decide) (by simp [Region.binds, t20, t24])
            subst t0 t1 t2 t3 t4 t5 t6 t7 t8 t9 t10 t11 t12 t13 t14 t15 t16 t17 t18 t19 t20 t21 t22 t23 t24 t25
            clear hi
            obtain ⟨_, _, hf9, _⟩ := hinv
            simp only [R15.A, putIf_true]
            go_simp
            have hs8 := f8.size
            have hs9 := hf9.size
            rcases HO.out.2 with ⟨e8, hl8⟩ | ⟨g8, cap8, cur8, e8, hg8, hblk8, hn8, hm8, hsz8, _⟩
            · injection e8 with e81 e82 e83
              subst e81 e83
              have hl8' : s'.ts.length = 0 := hl8
              have hT9 := HT.out.fr hf9
              have hlz : ((s'.ts.length : Nat) : Int) = 0 := by omega
              go_wp2
              go_loopg [13, 84] 0 (fun gg _ s84 wr => s84 = .int .i64 0 ∧ wr = w')
              case atStart => exact ⟨rfl, rfl⟩
              case round =>
                obtain ⟨rfl, rfl⟩ := hrel
                have hnlt : ¬ (0 : Int) < ((s'.ts.length : Nat) : Int) := by omega
                go_wp2
                go_roundg (xs.length - (k + 1))
                case measure => omega
                case rel => exact ⟨k + 1, s', by omega, Nat.le_refl _, by go_num, hT9⟩
            · injection e8 with e81 e82 e83
              subst e81 e83
              have hb0 : Blk w' g8 cur8 44 := (show Blk w8 g8 cur8 44 from hblk8).fr hf9 (by simp)
              have f79 : Fr [g8] w7 w' := (f8.trans' hf9).nil
              have HS8 := Lib.hid hsz8
              clear hsz8 hblk8
              go_wp2
              go_loopg [13, 84] s'.ts.length (fun gg _ s84 wr => ∃ (i : Nat) (cur : Array Value), i ≤ s'.ts.length ∧ s'.ts.length - i ≤ gg ∧ s84 = .int .i64 i ∧ Aside (cur.size = c8 * 4) ∧ Aside (Blk wr g8 cur 44) ∧ Aside (Fr [g8] w7 wr))
              case atStart => exact ⟨0, cur8, by omega, by omega, rfl, HS8.out, hb0, f79⟩
              case round =>
                obtain ⟨i, cur, hi, hgi, rfl, hcs, hbi, hfi⟩ := hrel
                have hcs : cur.size = c8 * 4 := hcs
                have hbi : Blk _ _ _ _ := hbi
                have hfi : Fr _ _ _ := hfi
                by_cases hil : i < s'.ts.length
                · have hilz : (i : Int) < ((s'.ts.length : Nat) : Int) := by omega
                  have hl128 := hok'.len
                  have hbl := hbi.lt
                  have hfz := hbi.free (i * 4 + 3)
                  have hc3 := hbi.cell (i * 4 + 3)
                  rw [Array.getElem?_eq_getElem (by omega)] at hc3
                  have HCS := Lib.hid hcs
                  generalize cur[i * 4 + 3]'(by omega) = old at hc3
                  clear hcs
                  go_wp2
                  go_roundg (s'.ts.length - (i + 1))
                  case measure => omega
                  case rel => exact ⟨i + 1, cur.setIfInBounds (i * 4 + 3) (.int .i64 (-1)), by omega, Nat.le_refl _, by go_num, (show _ = _ by have := HCS.out; simpa using this), (show Blk _ _ _ _ from hbi.set (i * 4 + 3) (.int .i64 (-1))), (show Fr _ _ _ from hfi.setCell (by simp) _)⟩
                · have hilz : ¬ (i : Int) < ((s'.ts.length : Nat) : Int) := by omega
                  have hT9 := HT7.out.above hfi (fun x hx => by rw [List.mem_singleton.1 hx]; exact hg8)
                  clear hcs
                  go_wp2
                  go_roundg (xs.length - (k + 1))
                  case measure => omega
                  case rel => exact ⟨k + 1, s', by omega, Nat.le_refl _, by go_num, hT9⟩
          ·
            intro a0 l a' w' i hJ hi
            obtain ⟨hB, b0, b1, b2, b3, b4, b5, b6, b7, b8, b9, b10, b11, b12, b13, b14, b15, b16, b17, b18, b19, b20, b21, b22, b23, b24, b25, B9, c9, rfl, rfl, hinv⟩ := hJ
            have hBB := hB
            obtain ⟨hs0, g3, g4, g9, g10, g11, g12⟩ := hBB
            obtain ⟨h10, hlf, haf⟩ := mem_ready hi
            clear hi
            have hc : i = 0 ∨ i = 1 ∨ i = 2 ∨ i = 3 ∨ i = 4 ∨ i = 5 ∨ i = 6 ∨ i = 7 ∨ i = 8 ∨ i = 9 ∨ i = 10 ∨ i = 11 ∨ i = 12 ∨ i = 13 ∨ i = 14 ∨ i = 15 ∨ i = 16 ∨ i = 17 ∨ i = 18 ∨ i = 19 ∨ i = 20 ∨ i = 21 ∨ i = 22 ∨ i = 23 ∨ i = 24 ∨ i = 25 := by
              have : i < 26 := h10
              omega
            clear h10
            rcases hc with rfl | rfl | rfl | rfl | rfl | rfl | rfl | rfl | rfl | rfl | rfl | rfl | rfl | rfl | rfl | rfl | rfl | rfl | rfl | rfl | rfl | rfl | rfl | rfl | rfl | rfl
            · obtain rfl : b0 = false := by simpa using hlf
              refine wpOp_at rfl rfl ?_
              simp only [List.getElem_toArray, List.getElem_cons_zero, List.getElem_cons_succ]
              refine op_val (v := (.pointer (some ⟨gc, 0, none⟩))) ?_ (show R15.J W w8 gc gr s' A8 c8 a0 _ _ _ from ⟨hB, true, b1, b2, b3, b4, b5, b6, b7, b8, b9, b10, b11, b12, b13, b14, b15, b16, b17, b18, b19, b20, b21, b22, b23, b24, b25, B9, c9, rfl, R15.p0 .., hinv⟩)
              simp only [execOp, R15.f3, g3]
              go_simp
            · obtain rfl : b1 = false := by simpa using hlf
              simp [Region.binds] at haf
              obtain rfl := haf
              refine wpOp_at rfl rfl ?_
              simp only [List.getElem_toArray, List.getElem_cons_zero, List.getElem_cons_succ]
              refine op_call (f := 15) rfl (vs := #[.pointer (some ⟨gc, 0, none⟩)]) (by simp [R15.e0 hs0]) (fun w => enters_of Try.func15 (by kernel_rfl) rfl _ w) ?_
              refine (now_two (hinv.1.fr hinv.2.2.1)).mono ?_
              rintro e w2 ⟨rfl, rfl⟩
              exact ⟨_, rfl, ⟨hB, true, true, b2, b3, b4, b5, b6, b7, b8, b9, b10, b11, b12, b13, b14, b15, b16, b17, b18, b19, b20, b21, b22, b23, b24, b25, B9, c9, rfl, R15.p1 .., hinv⟩⟩
            · obtain rfl : b2 = false := by simpa using hlf
              refine wpOp_at rfl rfl ?_
              simp only [List.getElem_toArray, List.getElem_cons_zero, List.getElem_cons_succ]
              refine op_val (v := (.pointer (some ⟨gr, 0, none⟩))) ?_ (show R15.J W w8 gc gr s' A8 c8 a0 _ _ _ from ⟨hB, b0, b1, true, b3, b4, b5, b6, b7, b8, b9, b10, b11, b12, b13, b14, b15, b16, b17, b18, b19, b20, b21, b22, b23, b24, b25, B9, c9, rfl, R15.p2 .., hinv⟩)
              simp only [execOp, R15.f4, g4]
              go_simp
            · obtain rfl : b3 = false := by simpa using hlf
              simp [Region.binds] at haf
              obtain rfl := haf
              refine wpOp_at rfl rfl ?_
              simp only [List.getElem_toArray, List.getElem_cons_zero, List.getElem_cons_succ]
              refine op_val (v := (.pointer (some ⟨gr, 0, none⟩))) ?_ (show R15.J W w8 gc gr s' A8 c8 a0 _ _ _ from ⟨hB, b0, b1, true, true, b4, b5, b6, b7, b8, b9, b10, b11, b12, b13, b14, b15, b16, b17, b18, b19, b20, b21, b22, b23, b24, b25, B9, c9, rfl, R15.p3 .., hinv⟩)
              simp only [execOp, R15.e2 hs0]
              go_simp
            · obtain rfl : b4 = false := by simpa using hlf
              simp [Region.binds] at haf
              obtain rfl := haf
              refine wpOp_at rfl rfl ?_
              simp only [List.getElem_toArray, List.getElem_cons_zero, List.getElem_cons_succ]
              refine op_val (v := (.pointer (some ⟨gr, 0, none⟩))) ?_ (show R15.J W w8 gc gr s' A8 c8 a0 _ _ _ from ⟨hB, b0, b1, b2, true, true, b5, b6, b7, b8, b9, b10, b11, b12, b13, b14, b15, b16, b17, b18, b19, b20, b21, b22, b23, b24, b25, B9, c9, rfl, R15.p4 .., hinv⟩)
              simp only [execOp, R15.e3 hs0]
              go_simp
            · obtain rfl : b5 = false := by simpa using hlf
              simp [Region.binds] at haf
              obtain rfl := haf
              refine wpOp_at rfl rfl ?_
              simp only [List.getElem_toArray, List.getElem_cons_zero, List.getElem_cons_succ]
              obtain ⟨hT, hRT, hf, h10⟩ := hinv
              obtain ⟨rv, hrb⟩ := rnow_two (hT.fr hf)
              have hrl := hrb.lt
              have hr0 := hrb.cell 0
              simp at hr0
              refine op_load (p := .pointer (some ⟨gr, 0, none⟩)) (v := .int .i64 s'.now) rfl (by simp only [R15.e4 hs0]) (by go_simp) (show R15.J W w8 gc gr s' A8 c8 a0 _ _ _ from ⟨hB, b0, b1, b2, b3, true, true, b6, b7, b8, b9, b10, b11, b12, b13, b14, b15, b16, b17, b18, b19, b20, b21, b22, b23, b24, b25, B9, c9, rfl, R15.p5 .., hT, hRT, hf, h10⟩)
            · obtain rfl : b6 = false := by simpa using hlf
              simp [Region.binds] at haf
              obtain ⟨rfl, rfl⟩ := haf
              refine wpOp_at rfl rfl ?_
              simp only [List.getElem_toArray, List.getElem_cons_zero, List.getElem_cons_succ]
              refine op_val (v := (.bool false)) ?_ (show R15.J W w8 gc gr s' A8 c8 a0 _ _ _ from ⟨hB, b0, true, b2, b3, b4, true, true, b7, b8, b9, b10, b11, b12, b13, b14, b15, b16, b17, b18, b19, b20, b21, b22, b23, b24, b25, B9, c9, rfl, R15.p6 .., hinv⟩)
              simp only [execOp, R15.e1 hs0, R15.e5 hs0]
              go_simp
            · obtain rfl : b7 = false := by simpa using hlf
              simp [Region.binds] at haf
              obtain ⟨rfl, rfl⟩ := haf
              refine wpOp_at rfl rfl ?_
              simp only [List.getElem_toArray, List.getElem_cons_zero, List.getElem_cons_succ]
              refine op_val (v := (.bool false)) ?_ (show R15.J W w8 gc gr s' A8 c8 a0 _ _ _ from ⟨hB, b0, true, b2, b3, b4, b5, true, true, b8, b9, b10, b11, b12, b13, b14, b15, b16, b17, b18, b19, b20, b21, b22, b23, b24, b25, B9, c9, rfl, R15.p7 .., hinv⟩)
              simp only [execOp, R15.e6 hs0]
              go_simp
            · obtain rfl : b8 = false := by simpa using hlf
              simp [Region.binds] at haf
              obtain rfl := haf
              refine wpOp_guard rfl rfl (yielded_of rfl rfl (by rw [R15.size, hs0]; decide) (R15.e7 hs0)) ?_
              simp only [List.getElem_toArray, List.getElem_cons_zero, List.getElem_cons_succ]
              refine op_val (v := (.slice A8 s'.ts.length c8)) ?_ (show R15.J W w8 gc gr s' A8 c8 a0 _ _ _ from ⟨hB, b0, b1, b2, b3, b4, b5, b6, true, true, b9, b10, b11, b12, b13, b14, b15, b16, b17, b18, b19, b20, b21, b22, b23, b24, b25, B9, c9, rfl, R15.p8 .., hinv⟩)
              simp only [execOp, R15.f12, g12]
              go_simp
            · obtain rfl : b9 = false := by simpa using hlf
              simp [Region.binds] at haf
              obtain rfl := haf
              refine wpOp_guard rfl rfl (yielded_of rfl rfl (by rw [R15.size, hs0]; decide) (R15.e7 hs0)) ?_
              simp only [List.getElem_toArray, List.getElem_cons_zero, List.getElem_cons_succ]
              refine op_val (v := (.pointer (some ⟨gr, 0, none⟩))) ?_ (show R15.J W w8 gc gr s' A8 c8 a0 _ _ _ from ⟨hB, b0, b1, b2, b3, b4, b5, b6, true, b8, true, b10, b11, b12, b13, b14, b15, b16, b17, b18, b19, b20, b21, b22, b23, b24, b25, B9, c9, rfl, R15.p9 .., hinv⟩)
              simp only [execOp, R15.f4, g4]
              go_simp
            · obtain rfl : b10 = false := by simpa using hlf
              simp [Region.binds] at haf
              obtain ⟨rfl, rfl, -⟩ := haf
              refine wpOp_guard rfl rfl (yielded_of rfl rfl (by rw [R15.size, hs0]; decide) (R15.e7 hs0)) ?_
              simp only [List.getElem_toArray, List.getElem_cons_zero, List.getElem_cons_succ]
              obtain ⟨hT, hRT, hf, h10⟩ := hinv
              refine op_call (f := 17) rfl (vs := #[.pointer (some ⟨gr, 0, none⟩)]) (by simp [R15.e9 hs0]) (fun w => enters_of Try.func17 (by kernel_rfl) rfl _ w) ?_
              refine (sorted_two (hT.fr hf)).mono ?_
              rintro e w2 ⟨v9, rfl, hrt9, f9⟩
              have hv9 := hrt9
              obtain ⟨D9, d9, rfl, _, _⟩ := hv9
              exact ⟨_, rfl, hB, b0, b1, b2, b3, b4, b5, b6, true, b8, true, true, b11, b12, b13, b14, b15, b16, b17, b18, b19, b20, b21, b22, b23, b24, b25, D9, d9, rfl, R15.p10 .., hT, hRT, hf.trans' f9, fun _ => hrt9⟩
            · obtain rfl : b11 = false := by simpa using hlf
              simp [Region.binds] at haf
              obtain ⟨rfl, rfl, -, rfl⟩ := haf
              refine wpOp_guard rfl rfl (yielded_of rfl rfl (by rw [R15.size, hs0]; decide) (R15.e7 hs0)) ?_
              simp only [List.getElem_toArray, List.getElem_cons_zero, List.getElem_cons_succ]
              obtain ⟨hT, hRT, hf, h10⟩ := hinv
              refine op_call (f := 16) rfl (vs := #[.slice A8 s'.ts.length c8, .slice B9 s'.ts.length c9]) (by simp [R15.e8 hs0, R15.e10 hs0]) (fun w => enters_of Try.func16 (by kernel_rfl) rfl _ w) ?_
              have hts := timers_same _ _ _ _ _ (hRT.fr hf) (h10 rfl)
              rw [sameTs_self] at hts
              refine hts.mono ?_
              rintro e w2 ⟨rfl, f9⟩
              exact ⟨_, rfl, hB, b0, b1, b2, b3, b4, b5, b6, true, true, b9, true, true, b12, b13, b14, b15, b16, b17, b18, b19, b20, b21, b22, b23, b24, b25, B9, c9, rfl, R15.p11 .., hT, hRT, hf.trans' f9, fun h => (h10 h).fr f9⟩
            · obtain rfl : b12 = false := by simpa using hlf
              simp [Region.binds] at haf
              obtain ⟨rfl, rfl⟩ := haf
              refine wpOp_guard rfl rfl (yielded_of rfl rfl (by rw [R15.size, hs0]; decide) (R15.e7 hs0)) ?_
              simp only [List.getElem_toArray, List.getElem_cons_zero, List.getElem_cons_succ]
              refine op_val (v := (.bool false)) ?_ (show R15.J W w8 gc gr s' A8 c8 a0 _ _ _ from ⟨hB, b0, b1, b2, b3, b4, b5, b6, true, b8, b9, b10, true, true, b13, b14, b15, b16, b17, b18, b19, b20, b21, b22, b23, b24, b25, B9, c9, rfl, R15.p12 .., hinv⟩)
              simp only [execOp, R15.e11 hs0]
              go_simp
            · obtain rfl : b13 = false := by simpa using hlf
              simp [Region.binds] at haf
              obtain ⟨rfl, rfl⟩ := haf
              refine wpOp_at rfl rfl ?_
              simp only [List.getElem_toArray, List.getElem_cons_zero, List.getElem_cons_succ]
              refine op_val (v := (.bool false)) ?_ (show R15.J W w8 gc gr s' A8 c8 a0 _ _ _ from ⟨hB, b0, b1, b2, b3, b4, b5, b6, true, b8, b9, b10, b11, true, true, b14, b15, b16, b17, b18, b19, b20, b21, b22, b23, b24, b25, B9, c9, rfl, R15.p13 .., hinv⟩)
              simp only [execOp, R15.e7 hs0, R15.e12 hs0]
              go_simp
            · obtain rfl : b14 = false := by simpa using hlf
              simp [Region.binds] at haf
              obtain ⟨rfl, rfl⟩ := haf
              refine wpOp_at rfl rfl ?_
              simp only [List.getElem_toArray, List.getElem_cons_zero, List.getElem_cons_succ]
              refine op_val (v := (.bool false)) ?_ (show R15.J W w8 gc gr s' A8 c8 a0 _ _ _ from ⟨hB, b0, b1, b2, b3, b4, b5, b6, b7, b8, b9, b10, true, b12, true, true, b15, b16, b17, b18, b19, b20, b21, b22, b23, b24, b25, B9, c9, rfl, R15.p14 .., hinv⟩)
              simp only [execOp, R15.e13 hs0]
              go_simp
            · obtain rfl : b15 = false := by simpa using hlf
              simp [Region.binds] at haf
              obtain rfl := haf
              refine wpOp_guard rfl rfl (yielded_of rfl rfl (by rw [R15.size, hs0]; decide) (R15.e14 hs0)) ?_
              simp only [List.getElem_toArray, List.getElem_cons_zero, List.getElem_cons_succ]
              refine op_val (v := (.bool (decide (0 ≤ rnext s'.now s'.ts)))) ?_ (show R15.J W w8 gc gr s' A8 c8 a0 _ _ _ from ⟨hB, b0, b1, b2, b3, b4, b5, b6, b7, b8, b9, b10, b11, b12, b13, true, true, b16, b17, b18, b19, b20, b21, b22, b23, b24, b25, B9, c9, rfl, R15.p15 .., hinv⟩)
              simp only [execOp, R15.f10, g10]
              go_simp
            · obtain rfl : b16 = false := by simpa using hlf
              simp [Region.binds] at haf
              obtain rfl := haf
              refine wpOp_guard rfl rfl (yielded_of rfl rfl (by rw [R15.size, hs0]; decide) (R15.e14 hs0)) ?_
              simp only [List.getElem_toArray, List.getElem_cons_zero, List.getElem_cons_succ]
              refine op_val (v := (.int .i64 (rnext s'.now s'.ts))) ?_ (show R15.J W w8 gc gr s' A8 c8 a0 _ _ _ from ⟨hB, b0, b1, b2, b3, b4, b5, b6, b7, b8, b9, b10, b11, b12, b13, true, b15, true, b17, b18, b19, b20, b21, b22, b23, b24, b25, B9, c9, rfl, R15.p16 .., hinv⟩)
              simp only [execOp, R15.f11, g11]
              go_simp
            · obtain rfl : b17 = false := by simpa using hlf
              simp [Region.binds] at haf
              obtain ⟨rfl, rfl⟩ := haf
              refine wpOp_guard rfl rfl (yielded_of rfl rfl (by rw [R15.size, hs0]; decide) (R15.e14 hs0)) ?_
              simp only [List.getElem_toArray, List.getElem_cons_zero, List.getElem_cons_succ]
              refine op_val (v := (.bool (decide (0 ≤ rnext s'.now s'.ts)))) ?_ (show R15.J W w8 gc gr s' A8 c8 a0 _ _ _ from ⟨hB, b0, b1, b2, b3, b4, b5, b6, b7, b8, b9, b10, b11, b12, b13, true, b15, true, true, b18, b19, b20, b21, b22, b23, b24, b25, B9, c9, rfl, R15.p17 .., hinv⟩)
              simp only [execOp, R15.e16 hs0]
              go_simp
            · obtain rfl : b18 = false := by simpa using hlf
              simp [Region.binds] at haf
              obtain ⟨rfl, rfl, rfl⟩ := haf
              refine wpOp_guard rfl rfl (yielded_of rfl rfl (by rw [R15.size, hs0]; decide) (R15.e14 hs0)) ?_
              simp only [List.getElem_toArray, List.getElem_cons_zero, List.getElem_cons_succ]
              refine op_val (v := (.bool false)) ?_ (show R15.J W w8 gc gr s' A8 c8 a0 _ _ _ from ⟨hB, b0, b1, b2, b3, b4, b5, b6, b7, b8, b9, b10, b11, b12, b13, true, true, b16, true, true, b19, b20, b21, b22, b23, b24, b25, B9, c9, rfl, R15.p18 .., hinv⟩)
              simp only [execOp, R15.e15 hs0, R15.e17 hs0]
              go_simp
            · obtain rfl : b19 = false := by simpa using hlf
              simp [Region.binds] at haf
              obtain ⟨rfl, rfl⟩ := haf
              refine wpOp_at rfl rfl ?_
              simp only [List.getElem_toArray, List.getElem_cons_zero, List.getElem_cons_succ]
              refine op_val (v := (.bool false)) ?_ (show R15.J W w8 gc gr s' A8 c8 a0 _ _ _ from ⟨hB, b0, b1, b2, b3, b4, b5, b6, b7, b8, b9, b10, b11, b12, b13, true, b15, b16, b17, true, true, b20, b21, b22, b23, b24, b25, B9, c9, rfl, R15.p19 .., hinv⟩)
              simp only [execOp, R15.e14 hs0, R15.e18 hs0]
              go_simp
            · obtain rfl : b20 = false := by simpa using hlf
              simp [Region.binds] at haf
              obtain ⟨rfl, rfl⟩ := haf
              refine wpOp_at rfl rfl ?_
              simp only [List.getElem_toArray, List.getElem_cons_zero, List.getElem_cons_succ]
              refine op_val (v := (.bool false)) ?_ (show R15.J W w8 gc gr s' A8 c8 a0 _ _ _ from ⟨hB, b0, b1, b2, b3, b4, b5, b6, b7, b8, b9, b10, b11, b12, b13, true, b15, b16, b17, b18, true, true, b21, b22, b23, b24, b25, B9, c9, rfl, R15.p20 .., hinv⟩)
              simp only [execOp, R15.e19 hs0]
              go_simp
            · obtain rfl : b21 = false := by simpa using hlf
              simp [Region.binds] at haf
              obtain rfl := haf
              refine wpOp_guard rfl rfl (yielded_of rfl rfl (by rw [R15.size, hs0]; decide) (R15.e20 hs0)) ?_
              simp only [List.getElem_toArray, List.getElem_cons_zero, List.getElem_cons_succ]
              refine op_val (v := (.int .i64 (max (rnext s'.now s'.ts) 0))) ?_ (show R15.J W w8 gc gr s' A8 c8 a0 _ _ _ from ⟨hB, b0, b1, b2, b3, b4, b5, b6, b7, b8, b9, b10, b11, b12, b13, b14, b15, b16, b17, b18, b19, true, true, b22, b23, b24, b25, B9, c9, rfl, R15.p21 .., hinv⟩)
              simp only [execOp, R15.f9, g9]
              go_simp
            · obtain rfl : b22 = false := by simpa using hlf
              simp [Region.binds] at haf
              obtain rfl := haf
              refine wpOp_guard rfl rfl (yielded_of rfl rfl (by rw [R15.size, hs0]; decide) (R15.e20 hs0)) ?_
              simp only [List.getElem_toArray, List.getElem_cons_zero, List.getElem_cons_succ]
              refine op_val (v := (.int .i64 (rnext s'.now s'.ts))) ?_ (show R15.J W w8 gc gr s' A8 c8 a0 _ _ _ from ⟨hB, b0, b1, b2, b3, b4, b5, b6, b7, b8, b9, b10, b11, b12, b13, b14, b15, b16, b17, b18, b19, true, b21, true, b23, b24, b25, B9, c9, rfl, R15.p22 .., hinv⟩)
              simp only [execOp, R15.f11, g11]
              go_simp
            · obtain rfl : b23 = false := by simpa using hlf
              simp [Region.binds] at haf
              obtain ⟨rfl, rfl⟩ := haf
              refine wpOp_guard rfl rfl (yielded_of rfl rfl (by rw [R15.size, hs0]; decide) (R15.e20 hs0)) ?_
              simp only [List.getElem_toArray, List.getElem_cons_zero, List.getElem_cons_succ]
              refine op_val (v := .int .i64 (max (rnext s'.now s'.ts) 0)) ?_ (show R15.J W w8 gc gr s' A8 c8 a0 _ _ _ from ⟨hB, b0, b1, b2, b3, b4, b5, b6, b7, b8, b9, b10, b11, b12, b13, b14, b15, b16, b17, b18, b19, true, b21, true, true, b24, b25, B9, c9, rfl, R15.p23 .., hinv⟩)
              simp [execOp, resolve, invoke, builtin, R15.e22 hs0]
              go_simp
            · obtain rfl : b24 = false := by simpa using hlf
              simp [Region.binds] at haf
              obtain ⟨rfl, rfl, rfl⟩ := haf
              refine wpOp_guard rfl rfl (yielded_of rfl rfl (by rw [R15.size, hs0]; decide) (R15.e20 hs0)) ?_
              simp only [List.getElem_toArray, List.getElem_cons_zero, List.getElem_cons_succ]
              refine op_val (v := (.bool false)) ?_ (show R15.J W w8 gc gr s' A8 c8 a0 _ _ _ from ⟨hB, b0, b1, b2, b3, b4, b5, b6, b7, b8, b9, b10, b11, b12, b13, b14, b15, b16, b17, b18, b19, true, true, b22, true, true, b25, B9, c9, rfl, R15.p24 .., hinv⟩)
              simp only [execOp, R15.e21 hs0, R15.e23 hs0]
              go_simp
            · obtain rfl : b25 = false := by simpa using hlf
              simp [Region.binds] at haf
              obtain ⟨rfl, rfl⟩ := haf
              refine wpOp_at rfl rfl ?_
              simp only [List.getElem_toArray, List.getElem_cons_zero, List.getElem_cons_succ]
              refine op_val (v := (.bool false)) ?_ (show R15.J W w8 gc gr s' A8 c8 a0 _ _ _ from ⟨hB, b0, b1, b2, b3, b4, b5, b6, b7, b8, b9, b10, b11, b12, b13, b14, b15, b16, b17, b18, b19, true, b21, b22, b23, true, true, B9, c9, rfl, R15.p25 .., hinv⟩)
              simp only [execOp, R15.e20 hs0, R15.e24 hs0]
              go_simp
        · intro a0 l a' w' i hJ hi
          obtain ⟨⟨e3, e4, e6, hsz⟩, b0, b1, b2, b3, b4, b5, b6, b7, b8, b9, A2, c2, A5, c5, p7, p8, rfl, rfl, hT, hB, h8, h9, h55, h2, h5, h6, h7, hne⟩ := hJ
          obtain ⟨h10, hlf, haf⟩ := mem_ready hi
          have hc : i = 0 ∨ i = 1 ∨ i = 2 ∨ i = 3 ∨ i = 4 ∨ i = 5 ∨ i = 6 ∨ i = 7 ∨ i = 8 ∨ i = 9 := by
            have : i < 10 := h10
            omega
          clear h10 hi
          rcases hc with rfl | rfl | rfl | rfl | rfl | rfl | rfl | rfl | rfl | rfl
          · obtain rfl : b0 = false := by simpa using hlf
            refine wpOp_at rfl rfl (op_move rfl ?_)
            rw [A9.e 3 (by omega), e3]
            exact ⟨⟨e3, e4, e6, hsz⟩, true, b1, b2, b3, b4, b5, b6, b7, b8, b9, A2, c2, A5, c5, p7, p8, rfl, A9.p0 .., hT, hB, h8, h9, h55, h2, h5, h6, h7, hne⟩
          · obtain rfl : b1 = false := by simpa using hlf
            refine wpOp_at rfl rfl (op_load rfl ((A9.e 6 (by omega)).trans e6) (load31 hB) ?_)
            exact ⟨⟨e3, e4, e6, hsz⟩, b0, true, b2, b3, b4, b5, b6, b7, b8, b9, A2, c2, A5, c5, p7, p8, rfl, A9.p1 .., hT, hB, h8, h9, h55, h2, h5, h6, h7, hne⟩
          · obtain rfl : b2 = false := by simpa using hlf
            obtain ⟨rfl, rfl⟩ : b0 = true ∧ b1 = true := by simpa [Region.binds] using haf
            obtain rfl : b8 = false := by
              cases b8
              · rfl
              · exact absurd (h8 rfl).1 (by simp)
            have hb5 : b5 = false := by
              cases b5
              · rfl
              · exact absurd (h55 rfl) (by simp)
            subst hb5
            refine wpOp_at rfl rfl (op_call (f := 9) rfl (vs := #[.pointer (some ⟨gc, 0, none⟩), x.val]) (by simp [A9.e0 hsz, A9.e1 hsz]) (fun w => enters_of Try.func9 (by kernel_rfl) rfl _ w) ?_)
            refine (play_two (by simpa using hT) x HX.out).mono ?_
            rintro e w2 ⟨vr, rfl, ho, hT2, hot⟩
            obtain ⟨Ar, cr, rfl⟩ := own_slice ho
            exact ⟨_, rfl, ⟨e3, e4, e6, hsz⟩, true, true, true, b3, b4, false, b6, b7, false, b9, Ar, cr, A5, c5, p7, p8, rfl, A9.p2 .., by simpa using hT2, hot.2 _ _ _ hB (by decide) (by decide) (by decide), by simp, h9, by simp, fun _ => ho, fun h => Ot.own (h5 h) hot,
              fun h => ⟨(h6 h).1, hot.2 _ _ _ (h6 h).2 (by decide) (by decide) (by decide)⟩, fun h => ⟨(h7 h).1, hot.2 _ _ _ (h7 h).2 (by decide) (by decide) (by decide)⟩, hne⟩
          · obtain rfl : b3 = false := by simpa using hlf
            refine wpOp_at rfl rfl (op_move rfl ?_)
            rw [A9.e 4 (by omega), e4]
            exact ⟨⟨e3, e4, e6, hsz⟩, b0, b1, b2, true, b4, b5, b6, b7, b8, b9, A2, c2, A5, c5, p7, p8, rfl, A9.p3 .., hT, hB, h8, h9, h55, h2, h5, h6, h7, hne⟩
          · obtain rfl : b4 = false := by simpa using hlf
            refine wpOp_at rfl rfl (op_load rfl ((A9.e 6 (by omega)).trans e6) (load31 hB) ?_)
            exact ⟨⟨e3, e4, e6, hsz⟩, b0, b1, b2, b3, true, b5, b6, b7, b8, b9, A2, c2, A5, c5, p7, p8, rfl, A9.p4 .., hT, hB, h8, h9, h55, h2, h5, h6, h7, hne⟩
          · obtain rfl : b5 = false := by simpa using hlf
            obtain ⟨rfl, rfl, rfl⟩ : b3 = true ∧ b4 = true ∧ b2 = true := by simpa [Region.binds] using haf
            obtain rfl : b9 = false := by
              cases b9
              · rfl
              · exact absurd (h9 rfl).1 (by simp)
            refine wpOp_at rfl rfl (op_call (f := 10) rfl (vs := #[.pointer (some ⟨gr, 0, none⟩), x.val]) (by simp [A9.e3 hsz, A9.e4 hsz]) (fun w => enters_of Try.func10 (by kernel_rfl) rfl _ w) ?_)
            refine (want_two (by simpa using hT) x HX.out).mono ?_
            rintro e w2 ⟨vr, rfl, ho, hT2, hot⟩
            obtain ⟨Ar, cr, rfl⟩ := own_slice ho
            exact ⟨_, rfl, ⟨e3, e4, e6, hsz⟩, b0, b1, true, true, true, true, b6, b7, b8, false, A2, c2, Ar, cr, p7, p8, rfl, A9.p5 .., by simpa using hT2, hot.2 _ _ _ hB (by decide) (by decide) (by decide), h8, by simp, by simp, fun h => Ot.own (h2 h) hot, fun _ => ho,
              fun h => ⟨(h6 h).1, hot.2 _ _ _ (h6 h).2 (by decide) (by decide) (by decide)⟩, fun h => ⟨(h7 h).1, hot.2 _ _ _ (h7 h).2 (by decide) (by decide) (by decide)⟩, hne⟩
          · obtain rfl : b6 = false := by simpa using hlf
            refine wpOp_at rfl rfl (op_alloc rfl (alloc34 _) ?_)
            obtain rfl : b8 = false := by
              cases b8
              · rfl
              · exact absurd (h8 rfl).2 (by simp)
            have hfa : Fr [] w' (w'.alloc (.cells #[.slice none 0 0, .int .i64 0] 34)) := (Fr.refl [] w').alloc _
            exact ⟨⟨e3, e4, e6, hsz⟩, b0, b1, b2, b3, b4, b5, true, b7, false, b9, A2, c2, A5, c5, w'.heap.size, p8, rfl, A9.p6 .., hT.fr hfa, hB.alloc _, by simp, h9, h55, fun h => (h2 h).fr hfa (by simp), fun h => (h5 h).fr hfa (by simp),
              fun _ => ⟨hT.frame.size, Blk.new w' _ 34⟩, fun h => ⟨(h7 h).1, (h7 h).2.alloc _⟩, fun _ h => by have := (h7 h).2.lt; omega⟩
          · obtain rfl : b7 = false := by simpa using hlf
            refine wpOp_at rfl rfl (op_alloc rfl (alloc34 _) ?_)
            obtain rfl : b9 = false := by
              cases b9
              · rfl
              · exact absurd (h9 rfl).2 (by simp)
            have hfa : Fr [] w' (w'.alloc (.cells #[.slice none 0 0, .int .i64 0] 34)) := (Fr.refl [] w').alloc _
            exact ⟨⟨e3, e4, e6, hsz⟩, b0, b1, b2, b3, b4, b5, b6, true, b8, false, A2, c2, A5, c5, p7, w'.heap.size, rfl, A9.p7 .., hT.fr hfa, hB.alloc _, h8, by simp, h55, fun h => (h2 h).fr hfa (by simp), fun h => (h5 h).fr hfa (by simp),
              fun h => ⟨(h6 h).1, (h6 h).2.alloc _⟩, fun _ => ⟨hT.frame.size, Blk.new w' _ 34⟩, fun h _ => by have := (h6 h).2.lt; omega⟩
          · obtain rfl : b8 = false := by simpa using hlf
            simp [Region.binds] at haf
            obtain ⟨rfl, rfl, rfl, rfl, rfl, -, -, rfl⟩ := haf
            have hb := (h6 rfl).2
            have hb1 := hb.set 0 (.slice A2 (s.play x).1.length c2)
            have hb2 := hb1.set 1 (.int .i64 (s.play x).2.1)
            have hbW := (h6 rfl).1
            have hnn := hne rfl rfl
            have hf2 : Fr [p7] w' ((w'.setCell ⟨p7, 0, none⟩ (.slice A2 (s.play x).1.length c2)).setCell ⟨p7, 1, none⟩ (.int .i64 (s.play x).2.1)) := ((Fr.refl [p7] w').setCell (by simp) _).setCell (by simp) _
            have hxx : bx ≠ p7 := hB.ne hb (by decide)
            have hown : ∀ v ns, OwnI w' W.heap.size v ns → OwnI ((w'.setCell ⟨p7, 0, none⟩ (.slice A2 (s.play x).1.length c2)).setCell ⟨p7, 1, none⟩ (.int .i64 (s.play x).2.1)) W.heap.size v ns := fun v ns h => h.fr hf2 (fun k hk => by
              obtain ⟨d, hd⟩ := own_blk h k hk
              simp
              exact hd.ne hb (by decide))
            refine wpOp_at rfl rfl (op_store rfl (A9.e6 hsz) (A9.e2 hsz) (store34 hb A2 _ c2 _) ?_)
            exact ⟨⟨e3, e4, e6, hsz⟩, true, true, true, b3, b4, true, true, true, true, b9, A2, c2, A5, c5, p7, p8, rfl, rfl, (hT.set hb (by decide) (by decide) (by decide) hbW _ _).set hb1 (by decide) (by decide) (by decide) hbW _ _, (hB.other hxx _).other hxx _, by simp, h9, by simp, fun h => hown _ _ (h2 h), fun h => hown _ _ (h5 h),
              fun _ => ⟨hbW, by simpa [repC] using hb2⟩, fun h => ⟨(h7 h).1, ((h7 h).2.other (Ne.symm hnn) _).other (Ne.symm hnn) _⟩, hne⟩
          · obtain rfl : b9 = false := by simpa using hlf
            simp [Region.binds] at haf
            obtain ⟨rfl, rfl, rfl, -⟩ := haf
            obtain ⟨rfl, rfl⟩ := h8 rfl
            have hb := (h7 rfl).2
            have hb1 := hb.set 0 (.slice A5 (s.play x).1.length c5)
            have hb2 := hb1.set 1 (.int .i64 (s.play x).2.1)
            have hbW := (h7 rfl).1
            have hnn := hne rfl rfl
            have hf2 : Fr [p8] w' ((w'.setCell ⟨p8, 0, none⟩ (.slice A5 (s.play x).1.length c5)).setCell ⟨p8, 1, none⟩ (.int .i64 (s.play x).2.1)) := ((Fr.refl [p8] w').setCell (by simp) _).setCell (by simp) _
            have hxx : bx ≠ p8 := hB.ne hb (by decide)
            have hown : ∀ v ns, OwnI w' W.heap.size v ns → OwnI ((w'.setCell ⟨p8, 0, none⟩ (.slice A5 (s.play x).1.length c5)).setCell ⟨p8, 1, none⟩ (.int .i64 (s.play x).2.1)) W.heap.size v ns := fun v ns h => h.fr hf2 (fun k hk => by
              obtain ⟨d, hd⟩ := own_blk h k hk
              simp
              exact hd.ne hb (by decide))
            refine wpOp_at rfl rfl (op_store rfl (A9.e7 hsz) (A9.e5 hsz) (store34 hb A5 _ c5 _) ?_)
            exact ⟨⟨e3, e4, e6, hsz⟩, b0, b1, true, b3, b4, true, true, true, true, true, A2, c2, A5, c5, p7, p8, rfl, rfl, (hT.set hb (by decide) (by decide) (by decide) hbW _ _).set hb1 (by decide) (by decide) (by decide) hbW _ _, (hB.other hxx _).other hxx _, by simp, by simp, by simp, fun h => hown _ _ (h2 h), fun h => hown _ _ (h5 h),
              fun h => ⟨(h6 h).1, ((h6 h).2.other hnn _).other hnn _⟩, fun _ => ⟨hbW, by simpa [repC] using hb2⟩, hne⟩
      · have hltz : ¬ (k : Int) < (xs.length : Int) := by omega
        go_wp2
        go_ret
        exact ⟨rfl, hal.frame⟩
end Go.Proofs.Ytifjablnplpfnaa
