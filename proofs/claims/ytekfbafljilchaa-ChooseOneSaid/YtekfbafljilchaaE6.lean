/- lattice.New: what is made, what is copied (regions 4, 13; printed by made.py). -/
import Derived.Test.YtekfbafljilchaaA4
import Derived.Test.YtekfbafljilchaaO0
import Derived.Deep.RegionHeld3
import Derived.Laws.CopyOwn
import Derived.Laws.MakeOwn
import Derived.Deep.DrawnRows
import Derived.Test.YtekfbafljilchaaD3
import Derived.Test.YtekfbafljilchaaC1
import Derived.Test.YtekfbafljilchaaD1
set_option linter.unusedVariables false
set_option linter.unusedSimpArgs false
namespace Go.Proofs.Ytekfbafljilchaa
open Go.RowKit Go.Lib
attribute [local go_sem ↓] Go.wp_at_zero Go.wp_at_succ

theorem madeCells_one (z : Value) (n : Nat) : madeCells #[z] n = Array.replicate n z := by
  apply Array.ext
  · simp [madeCells]
  · intro i h1 h2
    simp [madeCells, Nat.mod_one]
set_option maxRecDepth 100000 in
theorem info29 : (Try.prog.info? 29).map (fun i => (i.zero, i.size, i.bytes)) = some (some (.slice none 0 0), 1, 24) := by kernel_rfl
set_option maxRecDepth 100000 in
theorem info4 : (Try.prog.info? 4).map (fun i => (i.zero, i.size, i.bytes)) = some (some (.bool false), 1, 1) := by kernel_rfl
theorem make29 (n : Nat) (hn : n ≤ 128) (w : World) : (Instr.makeSlice 30 (.int .i64 (n : Int)) (.int .i64 (n : Int))).run Try.prog w = .ok (.slice (some ⟨w.heap.size, 0, none⟩) n n) (w.alloc (.cells (Array.replicate n (.slice none 0 0)) 29)) := by
  obtain ⟨i0, hi, hz0, hz1, hz2⟩ := info_parts info29
  have h := run_make (P := Try.prog) w 30 29 i0 _ Try.underlying30 hi hz0 .i64 .i64 n n (by omega) (by omega) (by rw [hz2]; omega) (by omega)
  simp only [Int.toNat_natCast, hz1, Nat.mul_one] at h
  rw [show (Value.slice none 0 0).cells = #[Value.slice none 0 0] from rfl, madeCells_one] at h
  exact h
theorem make4 (n : Nat) (hn : n ≤ 128) (w : World) : (Instr.makeSlice 31 (.int .i64 (n : Int)) (.int .i64 (n : Int))).run Try.prog w = .ok (.slice (some ⟨w.heap.size, 0, none⟩) n n) (w.alloc (.cells (Array.replicate n (.bool false)) 4)) := by
  obtain ⟨i0, hi, hz0, hz1, hz2⟩ := info_parts info4
  have h := run_make (P := Try.prog) w 31 4 i0 _ Try.underlying31 hi hz0 .i64 .i64 n n (by omega) (by omega) (by rw [hz2]; omega) (by omega)
  simp only [Int.toNat_natCast, hz1, Nat.mul_one] at h
  rw [show (Value.bool false).cells = #[Value.bool false] from rfl, madeCells_one] at h
  exact h
set_option maxRecDepth 100000 in
set_option maxHeartbeats 8000000 in
theorem new4 {Q : Exit → Act → World → Prop} {t0 t2 t3 t5 t6 t7 t8 t9 t10 t11 t12 t13 t14 t15 t16 t17 t18 t19 t20 t21 t22 t23 t24 t25 t26 t27 t28 t29 t30 t31 t32 t33 t34 t35 t36 t37 t38 t39 t40 t41 t42 t43 t44 t45 t46 t47 t48 t49 t50 t51 t52 t53 t54 t55 t56 t57 t58 t59 t60 t61 t62 t63 t64 t65 t66 t67 t68 t69 t70 t71 t72 t73 t74 t75 t76 t77 t78 t79 t80 t81 t82 t83 t84 t85 t86 t87 t88 t89 t90 t91 t92 t93 t94 t95 t96 t97 t98 t99 t100 t101 t102 t103 t104 t105 t106 t107 t108 t109 t110 t111 t112 t113 t114 t115 t116 t117 t118 t119 t120 t121 t122 t123 t124 t125 t126 t127 t128 t129 t130 t131 t132 t133 t134 t135 t136 t137 t138 t139 t140 t141 t142 t143 t144 t145 t146 t147 t148 t149 t150 t151 t152 t153 t154 t155 t156 t157 t158 t159 t160 t161 t162 t163 t164 t165 t166 t167 t168 t169 t170 t171 t172 t173 t174 t175 t176 t177 t178 t179 t180 t181 t182 t183 t184 : Value} {wr : World} {b0 n : Nat} {y0 : ByteArray} {y1 : Bool} {y2 : Int} {A3 A4 A5 A6 A7 : Option Addr} {n3 n4 n5 n6 n7 d3 d4 d5 d6 d7 : Nat} (hn : n ≤ 128) (hb : Blk wr b0 #[.string y0, .bool y1, .int .i64 y2, .slice A3 n3 d3, .slice A4 n4 d4, .slice A5 n5 d5, .slice A6 n6 d6, .slice A7 n7 d7] 28)
    (hQ : ∀ (u5 u43 u44 u45 u46 u47 : Value) (wx : World), (Fr [] wr wx ∧ wx.heap.size = wr.heap.size + 2 ∧ Blk wx wr.heap.size (Array.replicate n (.slice none 0 0)) 29 ∧ Blk wx (wr.heap.size + 1) #[.string y0, .bool y1, .int .i64 y2, .slice A3 n3 d3, .slice A4 n4 d4, .slice A5 n5 d5, .slice A6 n6 d6, .slice A7 n7 d7, .slice none 0 0, .slice (some ⟨wr.heap.size, 0, none⟩) n n] 87 ∧ u5 = .pointer (some ⟨wr.heap.size + 1, 0, none⟩)) → Q .normal ⟨#[t0, (.pointer (some ⟨b0, 0, none⟩)), t2, t3, (.int .i64 (n : Int)), u5, t6, t7, t8, t9, t10, t11, t12, t13, t14, t15, t16, t17, t18, t19, t20, t21, t22, t23, t24, t25, t26, t27, t28, t29, t30, t31, t32, t33, t34, t35, t36, t37, t38, t39, t40, t41, t42, u43, u44, u45, u46, u47, t48, t49, t50, t51, t52, t53, t54, t55, t56, t57, t58, t59, t60, t61, t62, t63, t64, t65, t66, t67, t68, t69, t70, t71, t72, t73, t74, t75, t76, t77, t78, t79, t80, t81, t82, t83, t84, t85, t86, t87, t88, t89, t90, t91, t92, t93, t94, t95, t96, t97, t98, t99, t100, t101, t102, t103, t104, t105, t106, t107, t108, t109, t110, t111, t112, t113, t114, t115, t116, t117, t118, t119, t120, t121, t122, t123, t124, t125, t126, t127, t128, t129, t130, t131, t132, t133, t134, t135, t136, t137, t138, t139, t140, t141, t142, t143, t144, t145, t146, t147, t148, t149, t150, t151, t152, t153, t154, t155, t156, t157, t158, t159, t160, t161, t162, t163, t164, t165, t166, t167, t168, t169, t170, t171, t172, t173, t174, t175, t176, t177, t178, t179, t180, t181, t182, t183, t184], []⟩ wx) :
    (regAt Try.f14 4).wp Try.prog Q ⟨#[t0, (.pointer (some ⟨b0, 0, none⟩)), t2, t3, (.int .i64 (n : Int)), t5, t6, t7, t8, t9, t10, t11, t12, t13, t14, t15, t16, t17, t18, t19, t20, t21, t22, t23, t24, t25, t26, t27, t28, t29, t30, t31, t32, t33, t34, t35, t36, t37, t38, t39, t40, t41, t42, t43, t44, t45, t46, t47, t48, t49, t50, t51, t52, t53, t54, t55, t56, t57, t58, t59, t60, t61, t62, t63, t64, t65, t66, t67, t68, t69, t70, t71, t72, t73, t74, t75, t76, t77, t78, t79, t80, t81, t82, t83, t84, t85, t86, t87, t88, t89, t90, t91, t92, t93, t94, t95, t96, t97, t98, t99, t100, t101, t102, t103, t104, t105, t106, t107, t108, t109, t110, t111, t112, t113, t114, t115, t116, t117, t118, t119, t120, t121, t122, t123, t124, t125, t126, t127, t128, t129, t130, t131, t132, t133, t134, t135, t136, t137, t138, t139, t140, t141, t142, t143, t144, t145, t146, t147, t148, t149, t150, t151, t152, t153, t154, t155, t156, t157, t158, t159, t160, t161, t162, t163, t164, t165, t166, t167, t168, t169, t170, t171, t172, t173, t174, t175, t176, t177, t178, t179, t180, t181, t182, t183, t184], []⟩ wr := by
  refine Code.wp_mono (Q := OnlyN (fun a w => Q .normal a w)) onlyN_imp ?_
  conv => arg 2; whnf
  have hmk := make29 n hn
  have x0 := hb.cell 0
  have x1 := hb.cell 1
  have x2 := hb.cell 2
  have x3 := hb.cell 3
  have x4 := hb.cell 4
  have x5 := hb.cell 5
  have x6 := hb.cell 6
  have x7 := hb.cell 7
  simp at x0 x1 x2 x3 x4 x5 x6 x7
  have hbl := hb.lt
  have hne := hb.lt
  clear hb
  go_region_held3 (fun w' => w'.cell? ⟨b0, 0, none⟩ = some (.string y0) ∧ w'.cell? ⟨b0, 1, none⟩ = some (.bool y1) ∧ w'.cell? ⟨b0, 2, none⟩ = some (.int .i64 y2) ∧ w'.cell? ⟨b0, 3, none⟩ = some (.slice A3 n3 d3) ∧ w'.cell? ⟨b0, 4, none⟩ = some (.slice A4 n4 d4) ∧ w'.cell? ⟨b0, 5, none⟩ = some (.slice A5 n5 d5) ∧ w'.cell? ⟨b0, 6, none⟩ = some (.slice A6 n6 d6) ∧ w'.cell? ⟨b0, 7, none⟩ = some (.slice A7 n7 d7)) (go_keep) (fail)
  all_goals
    refine hQ _ _ _ _ _ _ _ ⟨?_, ?_, ?_, ?_, rfl⟩
    · exact (((Fr.refl [] wr).drew).alloc _).alloc _
    · simp
    · exact (Blk.new _ _ _).alloc _
    · have hx := Blk.new (wr.alloc (.cells (Array.replicate n (.slice none 0 0)) 29)) #[.string y0, .bool y1, .int .i64 y2, .slice A3 n3 d3, .slice A4 n4 d4, .slice A5 n5 d5, .slice A6 n6 d6, .slice A7 n7 d7, .slice none 0 0, .slice (some ⟨wr.heap.size, 0, none⟩) n n] 87
      rw [show (wr.alloc (.cells (Array.replicate n (.slice none 0 0)) 29)).heap.size = wr.heap.size + 1 from by simp] at hx
      exact hx
set_option maxRecDepth 100000 in
set_option maxHeartbeats 8000000 in
theorem new13 {Q : Exit → Act → World → Prop} {t0 t1 t2 t3 t4 t6 t7 t10 t11 t12 t13 t14 t15 t16 t17 t18 t19 t20 t21 t22 t23 t24 t25 t26 t27 t28 t29 t30 t31 t32 t33 t34 t35 t36 t37 t38 t39 t40 t41 t42 t43 t44 t45 t46 t47 t48 t49 t50 t51 t52 t53 t54 t55 t56 t57 t58 t59 t60 t61 t62 t63 t64 t65 t66 t67 t68 t69 t70 t71 t72 t73 t74 t75 t76 t77 t78 t79 t80 t81 t82 t83 t84 t85 t86 t87 t88 t89 t90 t91 t92 t93 t94 t95 t96 t97 t98 t99 t100 t101 t102 t103 t104 t105 t106 t107 t108 t109 t110 t111 t112 t113 t114 t115 t116 t117 t118 t119 t120 t121 t122 t123 t124 t125 t126 t127 t128 t129 t130 t131 t132 t133 t134 t135 t136 t137 t138 t139 t140 t141 t142 t143 t144 t145 t146 t147 t148 t149 t150 t151 t152 t153 t154 t155 t156 t157 t158 t159 t160 t161 t162 t163 t164 t165 t166 t167 t168 t169 t170 t171 t172 t173 t174 t175 t176 t177 t178 t179 t180 t181 t182 t183 t184 : Value} {wr : World} {L sb ga gb ob db i p n ba c : Nat} {cur cs : List Value} (hL : wr.cell? ⟨L, 8, none⟩ = some (.slice (some ⟨ga, 0, none⟩) i c)) (hs : wr.cell? ⟨sb, 2, none⟩ = some (.int .i64 (p : Int))) (hp : p < i) (hrow : wr.cell? ⟨ga, p, none⟩ = some (.slice (some ⟨gb, ob, none⟩) n db)) (hcs : ∀ j v, cs[j]? = some v → wr.cell? ((⟨gb, ob, none⟩ : Addr).add j) = some v) (hlc : cs.length = n) (hone : ∀ v ∈ cs, v.oneCell' = true) (hba : Blk wr ba cur.toArray 4) (hlb : cur.length = n) (hlast : wr.heap.size = ba + 1) (h1 : L < ba) (h2 : sb < ba) (h3 : ga < ba)
    (hQ : ∀ (u91 u92 u93 u94 u95 u96 u97 u98 u99 u100 : Value) (wx : World), (Fr [ba] wr wx ∧ Blk wx ba cs.toArray 4) → Q .normal ⟨#[t0, t1, t2, t3, t4, (.pointer (some ⟨L, 0, none⟩)), t6, t7, (.pointer (some ⟨sb, 0, none⟩)), (.slice (some ⟨ba, 0, none⟩) n n), t10, t11, t12, t13, t14, t15, t16, t17, t18, t19, t20, t21, t22, t23, t24, t25, t26, t27, t28, t29, t30, t31, t32, t33, t34, t35, t36, t37, t38, t39, t40, t41, t42, t43, t44, t45, t46, t47, t48, t49, t50, t51, t52, t53, t54, t55, t56, t57, t58, t59, t60, t61, t62, t63, t64, t65, t66, t67, t68, t69, t70, t71, t72, t73, t74, t75, t76, t77, t78, t79, t80, t81, t82, t83, t84, t85, t86, t87, t88, t89, t90, u91, u92, u93, u94, u95, u96, u97, u98, u99, u100, t101, t102, t103, t104, t105, t106, t107, t108, t109, t110, t111, t112, t113, t114, t115, t116, t117, t118, t119, t120, t121, t122, t123, t124, t125, t126, t127, t128, t129, t130, t131, t132, t133, t134, t135, t136, t137, t138, t139, t140, t141, t142, t143, t144, t145, t146, t147, t148, t149, t150, t151, t152, t153, t154, t155, t156, t157, t158, t159, t160, t161, t162, t163, t164, t165, t166, t167, t168, t169, t170, t171, t172, t173, t174, t175, t176, t177, t178, t179, t180, t181, t182, t183, t184], []⟩ wx) :
    (regAt Try.f14 13).wp Try.prog Q ⟨#[t0, t1, t2, t3, t4, (.pointer (some ⟨L, 0, none⟩)), t6, t7, (.pointer (some ⟨sb, 0, none⟩)), (.slice (some ⟨ba, 0, none⟩) n n), t10, t11, t12, t13, t14, t15, t16, t17, t18, t19, t20, t21, t22, t23, t24, t25, t26, t27, t28, t29, t30, t31, t32, t33, t34, t35, t36, t37, t38, t39, t40, t41, t42, t43, t44, t45, t46, t47, t48, t49, t50, t51, t52, t53, t54, t55, t56, t57, t58, t59, t60, t61, t62, t63, t64, t65, t66, t67, t68, t69, t70, t71, t72, t73, t74, t75, t76, t77, t78, t79, t80, t81, t82, t83, t84, t85, t86, t87, t88, t89, t90, t91, t92, t93, t94, t95, t96, t97, t98, t99, t100, t101, t102, t103, t104, t105, t106, t107, t108, t109, t110, t111, t112, t113, t114, t115, t116, t117, t118, t119, t120, t121, t122, t123, t124, t125, t126, t127, t128, t129, t130, t131, t132, t133, t134, t135, t136, t137, t138, t139, t140, t141, t142, t143, t144, t145, t146, t147, t148, t149, t150, t151, t152, t153, t154, t155, t156, t157, t158, t159, t160, t161, t162, t163, t164, t165, t166, t167, t168, t169, t170, t171, t172, t173, t174, t175, t176, t177, t178, t179, t180, t181, t182, t183, t184], []⟩ wr := by
  refine Code.wp_mono (Q := OnlyN (fun a w => Q .normal a w)) onlyN_imp ?_
  conv => arg 2; whnf
  have hp0 : (0 : Int) ≤ (p : Int) := by omega
  have hp1 : (p : Int) < (i : Int) := by omega
  have HCS := Lib.hid hcs
  have HBA := Lib.hid hba
  have HONE := Lib.hid hone
  have hbal := hba.lt
  clear hcs hba hone
  go_region_held3 (fun w' => w'.cell? ⟨L, 8, none⟩ = some (.slice (some ⟨ga, 0, none⟩) i c) ∧ w'.cell? ⟨sb, 2, none⟩ = some (.int .i64 (p : Int)) ∧ w'.cell? ⟨ga, p, none⟩ = some (.slice (some ⟨gb, ob, none⟩) n db)) (first | exact ⟨k1, k2, k3⟩ | go_keep)
    ((refine step_copy_splice (by rfl) _ _ 31 31 (by rfl) 4 Try.underlying31 (by kernel_rfl) (some ⟨ba, 0, none⟩) (some ⟨gb, ob, none⟩) n n n db (by rfl) (by rfl) ba 0 cur 4 HBA.out cs (by simp [hlc]) (fun _ => ⟨rfl, _, rfl, fun j v h => HCS.out j v h⟩) (by omega) HONE.out ba wr ⟨rfl, rfl, rfl, Nat.le_refl _, fun _ _ => rfl⟩ (Nat.le_refl _) ?_; intro w4 hg4 hb4; have k1 : w4.cell? ⟨L, 8, none⟩ = some (.slice (some ⟨ga, 0, none⟩) i c) := (World.cell?_of_block (hb4.block L h1)).trans hL; have k2 : w4.cell? ⟨sb, 2, none⟩ = some (.int .i64 (p : Int)) := (World.cell?_of_block (hb4.block sb h2)).trans hs; have k3 : w4.cell? ⟨ga, p, none⟩ = some (.slice (some ⟨gb, ob, none⟩) n db) := (World.cell?_of_block (hb4.block ga h3)).trans hrow))
  all_goals
    have hsp : splice cur 0 cs = cs := by simp [splice, hlc, hlb]
    have hg5 := hg4.out
    rw [hsp] at hg5
    refine hQ _ _ _ _ _ _ _ _ _ _ _ ⟨?_, hg5⟩
    exact ⟨hb4.os, hb4.tape, hb4.output, hb4.size, fun k hk hnk => hb4.block k (by simp at hnk; omega)⟩
end Go.Proofs.Ytekfbafljilchaa

/- lattice.New: the plain words; tables whose rows grow. -/
set_option linter.unusedVariables false
set_option linter.unusedSimpArgs false
namespace Go.Proofs.Ytekfbafljilchaa
open Go.RowKit Go.Lib

/-- State i may stand where it stands. -/
def okB (c : DChart) (i : Nat) : Bool :=
  decide (1 ≤ knd c i) && decide (knd c i ≤ 5) && decide (0 ≤ par c i) && decide (par c i < (i : Int)) && decide (knd c (up c i) ≤ 2)
def Low (c : DChart) (m : Nat) : Prop := ∀ i, 0 < i → i < m → okB c i = true
def headB (c : DChart) : Bool := decide (2 ≤ ns c) && decide (ns c ≤ 128) && decide (c.trans.length ≤ 256) && decide (knd c 0 = 0) && decide (par c 0 = -1)
def placedB (c : DChart) : Bool := (List.range (ns c)).all fun i => i == 0 || okB c i
def kidsB (c : DChart) : Bool := (List.range (ns c)).all fun i => decide ((st c i).kids = allOf c i)
/-- Is it right? -/
def newB (c : DChart) : Bool := headB c && placedB c && kidsB c && decide (kidsOf c 0 ≠ []) && transB c

theorem okB_iff {c : DChart} {i : Nat} : okB c i = true ↔ 1 ≤ knd c i ∧ knd c i ≤ 5 ∧ 0 ≤ par c i ∧ par c i < (i : Int) ∧ knd c (up c i) ≤ 2 := by
  simp only [okB, Bool.and_eq_true, decide_eq_true_eq, and_assoc]
theorem Low.up_lt {c : DChart} {m i : Nat} (h : Low c m) (h0 : 0 < i) (hi : i < m) : up c i < i ∧ par c i = (up c i : Int) := by
  have := okB_iff.1 (h i h0 hi)
  unfold up
  omega
theorem Low.abF_succ {c : DChart} {m j : Nat} (h : Low c m) : ∀ (g i : Nat), i ≤ g → i < m → abF c (g + 1) i j = abF c g i j := by
  intro g
  induction g with
  | zero =>
    intro i h _
    obtain rfl : i = 0 := by omega
    simp [abF]
  | succ g ihh =>
    intro i hi hin
    rcases Nat.eq_zero_or_pos i with rfl | hi0
    · simp [abF]
    · have := h.up_lt hi0 hin
      rw [abF, if_neg (by omega)]
      conv => rhs; rw [abF, if_neg (by omega)]
      rw [ihh (up c i) (by omega) (by omega)]
theorem Low.abF_more {c : DChart} {m j : Nat} (h : Low c m) (f i : Nat) (hi : i ≤ f) (hn : i < m) : abF c f i j = abF c i i j := by
  obtain ⟨d, rfl⟩ : ∃ d, f = i + d := ⟨f - i, by omega⟩
  clear hi
  induction d with
  | zero => rfl
  | succ d ih => rw [← Nat.add_assoc, h.abF_succ _ _ (by omega) hn, ih]
theorem Low.ab_up {c : DChart} {m i j : Nat} (h : Low c m) (h0 : 0 < i) (hi : i < m) : ab c i j = ((up c i == j) || ab c (up c i) j) := by
  have hu := h.up_lt h0 hi
  obtain ⟨k, rfl⟩ : ∃ k, i = k + 1 := ⟨i - 1, by omega⟩
  unfold ab
  rw [abF, if_neg (by omega), h.abF_more k (up c (k + 1)) (by omega) (by omega)]
theorem Low.next {c : DChart} {m : Nat} (h : Low c m) (hm : 0 < m → okB c m = true) : Low c (m + 1) := fun i h0 hi => by
  rcases Nat.lt_succ_iff_lt_or_eq.1 hi with hi | rfl
  · exact h i h0 hi
  · exact hm h0
theorem row_zero (c : DChart) : row c 0 = List.replicate (ns c) false := by
  apply List.ext_getElem
  · simp [row]
  · intro j h1 h2
    simp [row, ab, abF]
theorem Low.row {c : DChart} {k : Nat} (h : Low c (k + 1)) (h0 : 0 < k) (hk : k < ns c) : Ytekfbafljilchaa.row c k = (Ytekfbafljilchaa.row c (up c k)).set (up c k) true := by
  have hu := h.up_lt h0 (Nat.lt_succ_self k)
  apply List.ext_getElem
  · simp [Ytekfbafljilchaa.row]
  · intro j h1 h2
    simp [Ytekfbafljilchaa.row] at h1
    rw [List.getElem_set]
    simp only [Ytekfbafljilchaa.row, List.getElem_map, List.getElem_range]
    rw [h.ab_up h0 (Nat.lt_succ_self k)]
    by_cases e : up c k = j
    · simp [e]
    · simp [e]
theorem Low.tree {c : DChart} (h : Low c (ns c)) (hh : headB c = true) : Tree c := by
  simp only [headB, Bool.and_eq_true, decide_eq_true_eq] at hh
  obtain ⟨⟨⟨⟨h1, h2⟩, h3⟩, h4⟩, h5⟩ := hh
  exact ⟨h1, h2, h4, h5, fun i a b => (okB_iff.1 (h i a b)).1, fun i a b => (okB_iff.1 (h i a b)).2.1, fun i a b => (okB_iff.1 (h i a b)).2.2.1, fun i a b => (okB_iff.1 (h i a b)).2.2.2.1, fun i a b => (okB_iff.1 (h i a b)).2.2.2.2⟩
theorem Low.placed {c : DChart} (h : Low c (ns c)) : placedB c = true := List.all_eq_true.2 fun i hi => by
  rcases Nat.eq_zero_or_pos i with rfl | h0
  · rfl
  · simp [h i h0 (List.mem_range.1 hi)]
theorem low_of {c : DChart} (h : placedB c = true) : Low c (ns c) := fun i h0 hi => by
  have := List.all_eq_true.1 h i (List.mem_range.2 hi)
  simp only [Bool.or_eq_true, beq_iff_eq] at this
  rcases this with h | h
  · omega
  · exact h
theorem newB_tree {c : DChart} (h : newB c = true) : Tree c := by
  simp only [newB, Bool.and_eq_true] at h
  exact (low_of h.1.1.1.2).tree h.1.1.1.1

theorem new_no0 {c : DChart} (h : headB c = false) : newB c = false := by simp [newB, h]
theorem new_no1 {c : DChart} {i : Nat} (h0 : 0 < i) (hi : i < ns c) (h : okB c i = false) : newB c = false := by
  have : placedB c = false := List.all_eq_false.2 ⟨i, List.mem_range.2 hi, by simp [h]; omega⟩
  simp [newB, this]
theorem new_no2 {c : DChart} {i : Nat} (hi : i < ns c) (h : decide ((st c i).kids = allOf c i) = false) : newB c = false := by
  have : kidsB c = false := List.all_eq_false.2 ⟨i, List.mem_range.2 hi, by simpa using h⟩
  simp [newB, this]

/-- The rows as far as they have come. -/
def kidsTo (c : DChart) (m i : Nat) : List Int := ((List.range m).filter (plainIn c i)).map Int.ofNat
def allTo (c : DChart) (m i : Nat) : List Int := ((List.range m).filter (anyIn c i)).map Int.ofNat
def kRows (c : DChart) (m : Nat) : List (List Int) := (List.range (ns c)).map (kidsTo c m)
def aRows (c : DChart) (m : Nat) : List (List Int) := (List.range (ns c)).map (allTo c m)
theorem kRows_done (c : DChart) : kRows c (ns c) = kdRows c := rfl
theorem kRows_len (c : DChart) (m : Nat) : (kRows c m).length = ns c := by simp [kRows]
theorem aRows_len (c : DChart) (m : Nat) : (aRows c m).length = ns c := by simp [aRows]
theorem kRows_zero (c : DChart) : kRows c 0 = List.replicate (ns c) [] := by
  apply List.ext_getElem <;> simp [kRows, kidsTo]
theorem aRows_zero (c : DChart) : aRows c 0 = List.replicate (ns c) [] := by
  apply List.ext_getElem <;> simp [aRows, allTo]
theorem aRows_at (c : DChart) (m : Nat) {i : Nat} (h : i < ns c) : (aRows c m)[i]? = some (allTo c m i) := by
  simp [aRows, List.getElem?_map, List.getElem?_range h]
theorem kRows_at (c : DChart) (m : Nat) {i : Nat} (h : i < ns c) : (kRows c m)[i]? = some (kidsTo c m i) := by
  simp [kRows, List.getElem?_map, List.getElem?_range h]
theorem allTo_succ (c : DChart) (m i : Nat) : allTo c (m + 1) i = allTo c m i ++ (if anyIn c i m then [(m : Int)] else []) := by
  unfold allTo
  rw [List.range_succ, List.filter_append, List.map_append]
  congr 1
  by_cases h : anyIn c i m <;> simp [h]
theorem kidsTo_succ (c : DChart) (m i : Nat) : kidsTo c (m + 1) i = kidsTo c m i ++ (if plainIn c i m then [(m : Int)] else []) := by
  unfold kidsTo
  rw [List.range_succ, List.filter_append, List.map_append]
  congr 1
  by_cases h : plainIn c i m <;> simp [h]
theorem allTo_len (c : DChart) (m i : Nat) : (allTo c m i).length ≤ m := by
  unfold allTo
  rw [List.length_map]
  exact Nat.le_trans (List.length_filter_le _ _) (by simp)
theorem kidsTo_len (c : DChart) (m i : Nat) : (kidsTo c m i).length ≤ m := by
  unfold kidsTo
  rw [List.length_map]
  exact Nat.le_trans (List.length_filter_le _ _) (by simp)
/-- State 0 is nobody's. -/
theorem aRows_first (c : DChart) : aRows c 1 = aRows c 0 := by
  unfold aRows
  refine List.map_congr_left fun i _ => ?_
  rw [allTo_succ]
  simp [anyIn]
theorem kRows_first (c : DChart) : kRows c 1 = kRows c 0 := by
  unfold kRows
  refine List.map_congr_left fun i _ => ?_
  rw [kidsTo_succ]
  simp [plainIn]
theorem aRows_next (c : DChart) {k : Nat} (h0 : 0 < k) (hp : up c k < ns c) : aRows c (k + 1) = (aRows c k).set (up c k) (allTo c k (up c k) ++ [(k : Int)]) := by
  apply List.ext_getElem
  · simp [aRows]
  · intro i h1 h2
    rw [List.getElem_set]
    simp only [aRows, List.getElem_map, List.getElem_range]
    rw [allTo_succ]
    by_cases e : up c k = i
    · subst e
      simp [anyIn, h0]
    · simp [anyIn, h0, e]
theorem kRows_next (c : DChart) {k : Nat} (h0 : 0 < k) (hp : up c k < ns c) (h4 : knd c k < 4) : kRows c (k + 1) = (kRows c k).set (up c k) (kidsTo c k (up c k) ++ [(k : Int)]) := by
  apply List.ext_getElem
  · simp [kRows]
  · intro i h1 h2
    rw [List.getElem_set]
    simp only [kRows, List.getElem_map, List.getElem_range]
    rw [kidsTo_succ]
    by_cases e : up c k = i
    · subst e
      simp [plainIn, h0, h4]
    · simp [plainIn, h0, e]
theorem kRows_same (c : DChart) {k : Nat} (h4 : ¬ knd c k < 4) : kRows c (k + 1) = kRows c k := by
  unfold kRows
  refine List.map_congr_left fun i _ => ?_
  rw [kidsTo_succ]
  simp [plainIn, h4]

/-- Rows of one's own, each in a block of its own. -/
structure Own2 (w : World) (B : Nat) (vs : List Value) (rs : List (List Int)) : Prop where
  own : ∀ (p : Nat) (v : Value) (r : List Int), vs[p]? = some v → rs[p]? = some r → w.ownsRow B 3 1 v r.length (r.map (.int .i64))
  dis : ∀ (p q : Nat) (u v : Value) (b : Nat), vs[p]? = some u → vs[q]? = some v → u.ownBlock = some b → v.ownBlock = some b → p = q
  len : vs.length = rs.length
theorem own_blk3 {w : World} {B n : Nat} {v : Value} {xs : List Value} {e sz : Nat} (h : w.ownsRow B e sz v n xs) {k : Nat} (hk : v.ownBlock = some k) : B ≤ k ∧ ∃ c, Blk w k c e := by
  rcases h.2 with ⟨rfl, _⟩ | ⟨g, cap, cur, rfl, hb, hg, _⟩
  · simp [Value.ownBlock] at hk
  · simp [Value.ownBlock] at hk
    subst hk
    exact ⟨hb, cur, hg⟩
theorem Own2.nil (w : World) (B m : Nat) : Own2 w B (List.replicate m (.slice none 0 0)) (List.replicate m []) := by
  refine ⟨fun p v r h1 h2 => ?_, fun p q u v b h1 h2 h3 => ?_, by simp⟩
  · rw [List.getElem?_replicate] at h1 h2
    split at h1 <;> simp_all
    subst h1 h2
    exact World.ownsRow_nil _ _ _ _
  · rw [List.getElem?_replicate] at h1
    split at h1 <;> simp_all
    subst h1
    simp [Value.ownBlock] at h3
theorem Own2.fr {w w' : World} {B : Nat} {vs : List Value} {rs : List (List Int)} {S : List Nat} (h : Own2 w B vs rs) (f : Fr S w w') (hS : ∀ k, k ∈ S → ∀ c, ¬ Blk w k c 3) : Own2 w' B vs rs := by
  refine ⟨fun p v r h1 h2 => own_fr (h.own p v r h1 h2) f fun k hk hm => ?_, h.dis, h.len⟩
  obtain ⟨_, c, hb⟩ := own_blk3 (h.own p v r h1 h2) hk
  exact hS k hm c hb
theorem Own2.grow {w w' : World} {B p g cap : Nat} {vs : List Value} {v : Value} {rs : List (List Int)} {r' : List Int} {S : List Nat} (h : Own2 w B vs rs) (hv : vs[p]? = some v) (f : Fr S w w') (hS : ∀ k, k ∈ S → v.ownBlock = some k ∨ ∀ c, ¬ Blk w k c 3)
    (ho : w'.ownsRow B 3 1 (.slice (some ⟨g, 0, none⟩) r'.length cap) r'.length (r'.map (.int .i64))) (hg : v.ownBlock = some g ∨ w.heap.size ≤ g) : Own2 w' B (vs.set p (.slice (some ⟨g, 0, none⟩) r'.length cap)) (rs.set p r') := by
  have hpl : p < vs.length := (List.getElem?_eq_some_iff.1 hv).1
  have hgb : (Value.slice (some ⟨g, 0, none⟩) r'.length cap).ownBlock = some g := rfl
  have far : ∀ q u, q ≠ p → vs[q]? = some u → u.ownBlock ≠ some g := fun q u hq hu hub => by
    rcases hg with hg | hg
    · exact hq (h.dis q p u v g hu hv hub hg)
    · obtain ⟨ru, hru⟩ : ∃ ru, rs[q]? = some ru := ⟨_, List.getElem?_eq_getElem (by rw [← h.len]; exact (List.getElem?_eq_some_iff.1 hu).1)⟩
      obtain ⟨_, c, hb⟩ := own_blk3 (h.own q u ru hu hru) hub
      have := hb.lt
      omega
  refine ⟨fun q u ru h1 h2 => ?_, fun q q' u u' b h1 h2 h3 h4 => ?_, by simp [h.len]⟩
  · rw [List.getElem?_set] at h1 h2
    by_cases e : p = q
    · subst e
      rw [if_pos rfl, if_pos hpl] at h1
      rw [if_pos rfl, if_pos (by rw [← h.len]; exact hpl)] at h2
      obtain rfl := Option.some.inj h1
      obtain rfl := Option.some.inj h2
      exact ho
    · rw [if_neg e] at h1 h2
      refine own_fr (h.own q u ru h1 h2) f fun k hk hm => ?_
      obtain ⟨_, c, hb⟩ := own_blk3 (h.own q u ru h1 h2) hk
      rcases hS k hm with h5 | h5
      · exact e (h.dis p q v u k hv h1 h5 hk)
      · exact h5 c hb
  · rw [List.getElem?_set] at h1 h2
    by_cases e : p = q
    · subst e
      rw [if_pos rfl, if_pos hpl] at h1
      obtain rfl := Option.some.inj h1
      by_cases e' : p = q'
      · exact e'
      · rw [if_neg e'] at h2
        rw [hgb] at h3
        exact absurd (h4.trans h3.symm) (fun hh => far q' u' (Ne.symm e') h2 (by rw [h4, ← h3]))
    · rw [if_neg e] at h1
      by_cases e' : p = q'
      · subst e'
        rw [if_pos rfl, if_pos hpl] at h2
        obtain rfl := Option.some.inj h2
        rw [hgb] at h4
        exact absurd h3 (by rw [← h4]; exact far q u (Ne.symm e) h1)
      · rw [if_neg e'] at h2
        exact h.dis q q' u u' b h1 h2 h3 h4

/-- Both tables. -/
structure Tabs (w : World) (B fb kb : Nat) (F K : List Value) (fr kr : List (List Int)) : Prop where
  fB : Blk w fb F.toArray 29
  kB : Blk w kb K.toArray 29
  ne : fb ≠ kb
  fl : F.length = fr.length
  own : Own2 w B (F ++ K) (fr ++ kr)
theorem Blk.ne {w : World} {a b : Nat} {c d : Array Value} {t u : TypeId} (h : Blk w a c t) (k : Blk w b d u) (ht : t ≠ u) : a ≠ b := fun e => by
  subst e
  have := h.symm.trans k
  injection this with this
  injection this with _ h2
  exact ht h2
theorem Blk.ty {w : World} {a : Nat} {c d : Array Value} {t u : TypeId} (h : Blk w a c t) (ht : t ≠ u) : ¬ Blk w a d u := fun k => h.ne k ht rfl
theorem Tabs.fr {w w' : World} {B fb kb : Nat} {F K : List Value} {fr kr : List (List Int)} {S : List Nat} (h : Tabs w B fb kb F K fr kr) (f : Fr S w w') (hf : fb ∉ S) (hk : kb ∉ S) (hS : ∀ k, k ∈ S → ∀ c, ¬ Blk w k c 3) : Tabs w' B fb kb F K fr kr :=
  ⟨h.fB.fr f hf, h.kB.fr f hk, h.ne, h.fl, h.own.fr f hS⟩
theorem Tabs.atF {w : World} {B fb kb p : Nat} {F K : List Value} {fr kr : List (List Int)} {r : List Int} (h : Tabs w B fb kb F K fr kr) (hr : fr[p]? = some r) : ∃ v, F[p]? = some v ∧ w.ownsRow B 3 1 v r.length (r.map (.int .i64)) := by
  have hp : p < fr.length := (List.getElem?_eq_some_iff.1 hr).1
  have hpF : p < F.length := by rw [h.fl]; exact hp
  refine ⟨F[p], List.getElem?_eq_getElem hpF, h.own.own p _ r ?_ ?_⟩
  · rw [List.getElem?_append_left hpF]
    exact List.getElem?_eq_getElem hpF
  · rw [List.getElem?_append_left hp]
    exact hr
theorem Tabs.kl {w : World} {B fb kb : Nat} {F K : List Value} {fr kr : List (List Int)} (h : Tabs w B fb kb F K fr kr) : K.length = kr.length := by
  have h1 := h.own.len
  have h2 := h.fl
  simp only [List.length_append] at h1
  omega
theorem Tabs.atK {w : World} {B fb kb p : Nat} {F K : List Value} {fr kr : List (List Int)} {r : List Int} (h : Tabs w B fb kb F K fr kr) (hr : kr[p]? = some r) : ∃ v, K[p]? = some v ∧ w.ownsRow B 3 1 v r.length (r.map (.int .i64)) := by
  have hp : p < kr.length := (List.getElem?_eq_some_iff.1 hr).1
  have hpK : p < K.length := by rw [h.kl]; exact hp
  refine ⟨K[p], List.getElem?_eq_getElem hpK, h.own.own (F.length + p) _ r ?_ ?_⟩
  · rw [List.getElem?_append_right (by omega)]
    simp
  · rw [List.getElem?_append_right (by rw [h.fl]; omega), h.fl]
    simpa using hr
theorem Tabs.growF {w w' : World} {B fb kb p g cap : Nat} {F K : List Value} {fr kr : List (List Int)} {v : Value} {r' : List Int} (h : Tabs w B fb kb F K fr kr) (hv : F[p]? = some v) (f : Fr (fb :: v.ownBlock.toList) w w')
    (hb : Blk w' fb (F.set p (.slice (some ⟨g, 0, none⟩) r'.length cap)).toArray 29) (hkb : v.ownBlock ≠ some kb)
    (ho : w'.ownsRow B 3 1 (.slice (some ⟨g, 0, none⟩) r'.length cap) r'.length (r'.map (.int .i64))) (hg : v.ownBlock = some g ∨ w.heap.size ≤ g) : Tabs w' B fb kb (F.set p (.slice (some ⟨g, 0, none⟩) r'.length cap)) K (fr.set p r') kr := by
  have hpF : p < F.length := (List.getElem?_eq_some_iff.1 hv).1
  refine ⟨hb, h.kB.fr f ?_, h.ne, by simp [h.fl], ?_⟩
  · simp only [List.mem_cons, not_or]
    exact ⟨h.ne.symm, fun hm => hkb (by simpa using hm)⟩
  · rw [← List.set_append_left _ _ hpF, ← List.set_append_left _ _ (by rw [← h.fl]; exact hpF)]
    refine h.own.grow (by rw [List.getElem?_append_left hpF]; exact hv) f (fun k hk => ?_) ho hg
    simp only [List.mem_cons] at hk
    rcases hk with rfl | hk
    · exact .inr fun c => h.fB.ty (by decide)
    · exact .inl (by simpa using hk)
theorem Tabs.growK {w w' : World} {B fb kb p g cap : Nat} {F K : List Value} {fr kr : List (List Int)} {v : Value} {r' : List Int} (h : Tabs w B fb kb F K fr kr) (hv : K[p]? = some v) (f : Fr (kb :: v.ownBlock.toList) w w')
    (hb : Blk w' kb (K.set p (.slice (some ⟨g, 0, none⟩) r'.length cap)).toArray 29) (hkb : v.ownBlock ≠ some fb)
    (ho : w'.ownsRow B 3 1 (.slice (some ⟨g, 0, none⟩) r'.length cap) r'.length (r'.map (.int .i64))) (hg : v.ownBlock = some g ∨ w.heap.size ≤ g) : Tabs w' B fb kb F (K.set p (.slice (some ⟨g, 0, none⟩) r'.length cap)) fr (kr.set p r') := by
  have hpK : p < K.length := (List.getElem?_eq_some_iff.1 hv).1
  refine ⟨h.fB.fr f ?_, hb, h.ne, h.fl, ?_⟩
  · simp only [List.mem_cons, not_or]
    exact ⟨h.ne, fun hm => hkb (by simpa using hm)⟩
  · have e1 : F ++ K.set p (.slice (some ⟨g, 0, none⟩) r'.length cap) = (F ++ K).set (F.length + p) (.slice (some ⟨g, 0, none⟩) r'.length cap) := by
      rw [List.set_append_right _ _ (by omega)]
      simp
    have e2 : fr ++ kr.set p r' = (fr ++ kr).set (F.length + p) r' := by
      rw [List.set_append_right _ _ (by rw [h.fl]; omega)]
      simp [h.fl]
    rw [e1, e2]
    refine h.own.grow (by rw [List.getElem?_append_right (by omega)]; simpa using hv) f (fun k hk => ?_) ho hg
    simp only [List.mem_cons] at hk
    rcases hk with rfl | hk
    · exact .inr fun c => h.kB.ty (by decide)
    · exact .inl (by simpa using hk)

/-- The rows of what is inside what, as far as they have come. -/
def AbT (w : World) (B : Nat) (va : Value) (k : Nat) (c : DChart) : Prop :=
  ∃ css, w.ownsRow B 31 1 va k css.flatten ∧ Rows_ (rSl rBool) (NT B [4] w) w css ((List.range k).map (row c))
theorem AbT.nil (w : World) (B : Nat) (c : DChart) : AbT w B (.slice none 0 0) 0 c :=
  ⟨[], World.ownsRow_nil _ _ _ _, rfl, fun j cs x h1 => by simp at h1⟩
theorem AbT.fr {w w' : World} {B k : Nat} {va : Value} {c : DChart} {S : List Nat} (h : AbT w B va k c) (f : Fr S w w') (hS : ∀ k, k ∈ S → ∀ c, ¬ Blk w k c 31 ∧ ¬ Blk w k c 4) : AbT w' B va k c := by
  obtain ⟨css, ho, hR⟩ := h
  refine ⟨css, own_fr ho f fun k hk hm => ?_, hR.fr (NT.fr f fun k hm hn => ?_)⟩
  · obtain ⟨_, d, hb⟩ := own_blk3 ho hk
    exact (hS k hm d).1 hb
  · obtain ⟨_, d, t, ht, hb⟩ := hn
    obtain rfl := List.mem_singleton.1 ht
    exact (hS k hm d).2 hb
theorem AbT.at_ {w : World} {B k p : Nat} {va : Value} {c : DChart} (h : AbT w B va k c) (hp : p < k) (hn : 0 < ns c) (hk : k ≤ 128) : ∃ ga ca gb ob db, va = .slice (some ⟨ga, 0, none⟩) k ca ∧ (∃ d, Blk w ga d 31) ∧ w.cell? ⟨ga, p, none⟩ = some (.slice (some ⟨gb, ob, none⟩) (ns c) db) ∧
    ∀ j v, ((row c p).map Value.bool)[j]? = some v → w.cell? ((⟨gb, ob, none⟩ : Addr).add j) = some v := by
  obtain ⟨css, ho, hR⟩ := h
  have hs : Sl (rSl rBool) (fun _ => True) w va ((List.range k).map (row c)) := sl_of_own (base := B) (t := 31) (show w.ownsRow B 31 1 va _ css.flatten by simpa using ho) (hR.fr fun _ _ _ => ⟨trivial, rfl⟩) (by simp [rSl]; omega) (fun _ _ _ _ => trivial)
  obtain ⟨A, ca, rfl, hl⟩ := hs.form
  simp at hl
  obtain ⟨ga, oa, Bv, d, e, _, hga, hc, _, hsr⟩ := hs.sl_at p (by simpa using hp)
  have hown : ∃ d, ga = ga ∧ oa = 0 ∧ Blk w ga d 31 := by
    subst e
    rcases ho.2 with ⟨h0, _⟩ | ⟨g', cap', cur, e', _, hg, _⟩
    · cases h0
    · injection e' with e1
      injection e1 with e1
      injection e1 with e1 e2
      subst e1 e2
      exact ⟨cur, rfl, rfl, hg⟩
  obtain ⟨d', _, rfl, hbl⟩ := hown
  subst e
  simp only [List.getElem_map, List.getElem_range, List.length_map, List.length_range] at hc hsr
  have hrl : (row c p).length = ns c := by simp [row]
  obtain ⟨Ab, cb, e3, _⟩ := hsr.form
  injection e3 with e4 e5 e6
  subst e4 e6
  obtain ⟨gb, ob, e7, _, _, _⟩ := hsr.bool_at 0 (by rw [hrl]; exact hn)
  subst e7
  refine ⟨ga, ca, gb, ob, d, by simp, ⟨d', hbl⟩, by rw [hrl] at hc; simpa using hc, fun j v hv => ?_⟩
  rw [List.getElem?_map] at hv
  obtain ⟨x, hx, rfl⟩ := Option.map_eq_some_iff.1 hv
  have hj : j < (row c p).length := (List.getElem?_eq_some_iff.1 hx).1
  obtain ⟨g2, o2, e8, _, _, hcell⟩ := hsr.bool_at j hj
  injection e8 with e8
  injection e8 with e8 e9
  subst e8 e9
  have hxx : (row c p)[j] = x := (List.getElem?_eq_some_iff.1 hx).2
  rw [hxx] at hcell
  have e : (⟨gb, ob, none⟩ : Addr).add j = ⟨gb, ob + j, none⟩ := by
    unfold Addr.add
    split
    · rename_i h0; rw [h0]; rfl
    · rfl
  rw [e]
  exact hcell
theorem AbT.push {w w1 : World} {B k ba : Nat} {va v' : Value} {c : DChart} {css : List (List Value)} (hR : Rows_ (rSl rBool) (NT B [4] w) w css ((List.range k).map (row c))) (hb : Blk w ba ((row c k).map Value.bool).toArray 4) (hB : B ≤ ba) (hn : ns c ≤ 128)
    (f : Fr (va.ownBlock.toList) w w1) (hva : ∀ b, va.ownBlock = some b → ∃ d, Blk w b d 31) (ho : w1.ownsRow B 31 1 v' (k + 1) (css.flatten ++ [.slice (some ⟨ba, 0, none⟩) (ns c) (ns c)])) : AbT w1 B v' (k + 1) c := by
  have hS : ∀ x, x ∈ va.ownBlock.toList → ¬ NT B [4] w x := fun x hx => by
    obtain ⟨d, hd⟩ := hva x (by simpa using hx)
    exact NT.not hd (by decide)
  have hba : ba ∉ va.ownBlock.toList := fun hm => by
    obtain ⟨d, hd⟩ := hva ba (by simpa using hm)
    exact hd.ty (by decide) hb
  have hb1 : Blk w1 ba ((row c k).map Value.bool).toArray 4 := hb.fr f hba
  have hrl : (row c k).length = ns c := by simp [row]
  have hs : Sl rBool (NT B [4] w1) w1 (.slice (some ⟨ba, 0, none⟩) (ns c) (ns c)) (row c k) := by
    refine ⟨_, _, by rw [hrl], Nat.le_of_eq hrl, by rw [hrl]; simp [rBool]; omega, fun j x hj => ?_⟩
    refine ⟨ba, 0, [.bool x], rfl, ⟨hB, _, 4, List.mem_singleton.2 rfl, hb1⟩, hb1.lt, rfl, fun i u hu => ?_⟩
    cases i with
    | zero =>
      simp at hu
      subst hu
      rw [hb1.cell]
      simp [rBool, hj]
    | succ i => simp at hu
  refine ⟨css ++ [[.slice (some ⟨ba, 0, none⟩) (ns c) (ns c)]], by simpa using ho, ?_, fun j cs x h1 h2 => ?_⟩
  · simp [hR.1]
  · have hl : css.length = k := by simpa using hR.1
    rw [List.range_succ, List.map_append] at h2
    by_cases e : j < k
    · rw [List.getElem?_append_left (by omega)] at h1
      rw [List.getElem?_append_left (by simpa using e)] at h2
      exact (rSl rBool).fr (NT.fr f hS) (hR.2 j cs x h1 h2)
    · rw [List.getElem?_append_right (by omega)] at h1
      rw [List.getElem?_append_right (by simp; omega)] at h2
      obtain ⟨rfl, hjk⟩ : cs = [.slice (some ⟨ba, 0, none⟩) (ns c) (ns c)] ∧ j = k := by
        have : j - css.length < 1 := by simpa using (List.getElem?_eq_some_iff.1 h1).1
        have e0 : j - css.length = 0 := by omega
        rw [e0] at h1
        exact ⟨by simpa using h1.symm, by omega⟩
      subst hjk
      obtain rfl : row c j = x := by simpa using h2
      exact ⟨_, rfl, hs⟩
end Go.Proofs.Ytekfbafljilchaa

/- lattice.New: are the kids the ones that were found (region 23; printed by r23.py). -/
set_option linter.unusedVariables false
set_option linter.unusedSimpArgs false
namespace Go.Proofs.Ytekfbafljilchaa
open Go.RowKit Go.Lib
attribute [local go_sem ↓] Go.wp_at_zero Go.wp_at_succ

set_option maxRecDepth 100000 in
set_option maxHeartbeats 8000000 in
theorem new23 {Q : Exit → Act → World → Prop} {t0 t1 t2 t3 t4 t5 t7 t8 t9 t12 t13 t14 t15 t16 t17 t18 t19 t20 t21 t22 t23 t24 t25 t26 t27 t28 t29 t30 t31 t32 t33 t34 t35 t36 t37 t38 t39 t40 t41 t42 t43 t44 t45 t46 t47 t48 t49 t50 t51 t52 t53 t54 t55 t56 t57 t58 t59 t60 t61 t62 t63 t64 t65 t66 t67 t68 t69 t70 t71 t72 t73 t74 t75 t76 t77 t78 t79 t80 t81 t82 t83 t84 t85 t86 t87 t88 t89 t90 t91 t92 t93 t94 t95 t96 t97 t98 t99 t100 t101 t102 t103 t104 t105 t106 t107 t108 t109 t110 t111 t112 t113 t114 t115 t116 t117 t118 t119 t120 t121 t122 t123 t124 t125 t126 t127 t128 t129 t130 t131 t132 t133 t134 t135 t136 t137 t138 t139 t140 t141 t142 t143 t144 t145 t146 t147 t148 t149 t150 t151 t152 t153 t154 t155 t156 t157 t158 t159 t160 t161 t162 t163 t164 t165 t166 t167 t168 t169 t170 t171 t172 t173 t174 t175 t176 t177 t178 t179 t180 t181 t182 t183 t184 : Value} {wr : World} {sb fb i n : Nat} {a b : List Int} {A A2 : Option Addr} {d d2 : Nat} {p q : Nat → Prop} (hk : wr.cell? ⟨sb, 3, none⟩ = some (.slice A a.length d)) (hf : wr.cell? ⟨fb, i, none⟩ = some (.slice A2 b.length d2)) (ha : Sl rInt p wr (.slice A a.length d) a) (hb : Sl rInt q wr (.slice A2 b.length d2) b) (hi : i < n)
    (hQ : ∀ (u157 u158 u159 u160 u161 u162 u163 u164 : Value) (wx : World), (Fr [] wr wx ∧ u164 = .bool (!decide (a = b))) → Q .normal ⟨#[t0, t1, t2, t3, t4, t5, (.slice (some ⟨fb, 0, none⟩) n n), t7, t8, t9, (.int .i64 (i : Int)), (.pointer (some ⟨sb, 0, none⟩)), t12, t13, t14, t15, t16, t17, t18, t19, t20, t21, t22, t23, t24, t25, t26, t27, t28, t29, t30, t31, t32, t33, t34, t35, t36, t37, t38, t39, t40, t41, t42, t43, t44, t45, t46, t47, t48, t49, t50, t51, t52, t53, t54, t55, t56, t57, t58, t59, t60, t61, t62, t63, t64, t65, t66, t67, t68, t69, t70, t71, t72, t73, t74, t75, t76, t77, t78, t79, t80, t81, t82, t83, t84, t85, t86, t87, t88, t89, t90, t91, t92, t93, t94, t95, t96, t97, t98, t99, t100, t101, t102, t103, t104, t105, t106, t107, t108, t109, t110, t111, t112, t113, t114, t115, t116, t117, t118, t119, t120, t121, t122, t123, t124, t125, t126, t127, t128, t129, t130, t131, t132, t133, t134, t135, t136, t137, t138, t139, t140, t141, t142, t143, t144, t145, t146, t147, t148, t149, t150, t151, t152, t153, t154, t155, t156, u157, u158, u159, u160, u161, u162, u163, u164, t165, t166, t167, t168, t169, t170, t171, t172, t173, t174, t175, t176, t177, t178, t179, t180, t181, t182, t183, t184], []⟩ wx) :
    (regAt Try.f14 23).wp Try.prog Q ⟨#[t0, t1, t2, t3, t4, t5, (.slice (some ⟨fb, 0, none⟩) n n), t7, t8, t9, (.int .i64 (i : Int)), (.pointer (some ⟨sb, 0, none⟩)), t12, t13, t14, t15, t16, t17, t18, t19, t20, t21, t22, t23, t24, t25, t26, t27, t28, t29, t30, t31, t32, t33, t34, t35, t36, t37, t38, t39, t40, t41, t42, t43, t44, t45, t46, t47, t48, t49, t50, t51, t52, t53, t54, t55, t56, t57, t58, t59, t60, t61, t62, t63, t64, t65, t66, t67, t68, t69, t70, t71, t72, t73, t74, t75, t76, t77, t78, t79, t80, t81, t82, t83, t84, t85, t86, t87, t88, t89, t90, t91, t92, t93, t94, t95, t96, t97, t98, t99, t100, t101, t102, t103, t104, t105, t106, t107, t108, t109, t110, t111, t112, t113, t114, t115, t116, t117, t118, t119, t120, t121, t122, t123, t124, t125, t126, t127, t128, t129, t130, t131, t132, t133, t134, t135, t136, t137, t138, t139, t140, t141, t142, t143, t144, t145, t146, t147, t148, t149, t150, t151, t152, t153, t154, t155, t156, t157, t158, t159, t160, t161, t162, t163, t164, t165, t166, t167, t168, t169, t170, t171, t172, t173, t174, t175, t176, t177, t178, t179, t180, t181, t182, t183, t184], []⟩ wr := by
  refine Code.wp_mono (Q := OnlyN (fun a w => Q .normal a w)) onlyN_imp ?_
  conv => arg 2; whnf
  have hp0 : (0 : Int) ≤ (i : Int) := by omega
  have hp1 : (i : Int) < (n : Int) := by omega
  have HA := Lib.hid ha
  have HB := Lib.hid hb
  have hsl := World.block_lt_of_cell? wr _ hk
  have hfl := World.block_lt_of_cell? wr _ hf
  have HC : Hid (∀ w, Fr [] wr w → Calls Try.prog 51 #[.slice A a.length d, .slice A2 b.length d2] w fun e w' => e = .returned (.bool (decide (a = b))) ∧ Fr [] w w') := Lib.hid (fun w f => equal_any a b (fun _ => True) (fun _ => True) A A2 d d2 w (HA.out.fr fun k _ hk => ⟨trivial, f.block k hk (by simp)⟩) (HB.out.fr fun k _ hk => ⟨trivial, f.block k hk (by simp)⟩))
  clear ha hb
  go_region_held3 (fun w' => w'.cell? ⟨sb, 3, none⟩ = some (.slice A a.length d) ∧ w'.cell? ⟨fb, i, none⟩ = some (.slice A2 b.length d2)) (first | exact ⟨k1, k2⟩ | go_keep)
    ((go_at_call 51; refine (HC.out _ ((Fr.refl [] wr).drew)).mono ?_; rintro e w4 ⟨rfl, f4⟩; have F4 := ((Fr.refl [] wr).drew).trans' f4; have k1 : w4.cell? ⟨sb, 3, none⟩ = some (.slice A a.length d) := (World.cell?_of_block (F4.block sb hsl (by simp))).trans hk; have k2 : w4.cell? ⟨fb, i, none⟩ = some (.slice A2 b.length d2) := (World.cell?_of_block (F4.block fb hfl (by simp))).trans hf))
  all_goals
    refine hQ _ _ _ _ _ _ _ _ _ ⟨F4, ?_⟩
    rfl
end Go.Proofs.Ytekfbafljilchaa

/- lattice.New: what was made reads as a lattice. -/
set_option linter.unusedVariables false
set_option linter.unusedSimpArgs false
namespace Go.Proofs.Ytekfbafljilchaa
open Go.RowKit Go.Lib

theorem int_own {w : World} {B : Nat} {v : Value} {r : List Int} (h : w.ownsRow B 3 1 v r.length (r.map (.int .i64))) (hr : r.length ≤ 128) : Sl rInt (fun k => B ≤ k) w v r := by
  have hf : (r.map fun x => [Value.int .i64 x]).flatten = r.map (.int .i64) := by
    clear h hr
    induction r with
    | nil => rfl
    | cons x r ih => simpa using ih
  refine sl_of_own (K := rInt) (t := 3) (base := B) (css := r.map fun x => [Value.int .i64 x]) (by rw [hf]; exact h) ⟨by simp, fun j cs x h1 h2 => ?_⟩ (by simp [rInt]; omega) (fun k hk _ _ => hk)
  rw [List.getElem?_map, h2] at h1
  simpa [rInt] using h1.symm
theorem AbT.sl {w : World} {B : Nat} {va : Value} {c : DChart} (h : AbT w B va (ns c) c) (hn : ns c ≤ 128) : Sl (rSl rBool) (fun k => B ≤ k) w va (abRows c) := by
  obtain ⟨css, ho, hR⟩ := h
  exact sl_of_own (K := rSl rBool) (t := 31) (base := B) (css := css) (show w.ownsRow B 31 1 va _ css.flatten by simpa [abRows] using ho) (hR.fr fun k hk _ => ⟨hk.1, rfl⟩) (by simp [rSl, abRows]; omega) (fun k hk _ _ => hk)
theorem Tabs.sl {w : World} {B fb kb : Nat} {F K : List Value} {fr : List (List Int)} {c : DChart} (h : Tabs w B fb kb F K fr (kRows c (ns c))) (hn : ns c ≤ 128) (hB : B ≤ kb) : Sl (rSl rInt) (fun k => B ≤ k) w (.slice (some ⟨kb, 0, none⟩) (ns c) (ns c)) (kdRows c) := by
  have hl : (kdRows c).length = ns c := by simp [kdRows]
  refine ⟨some ⟨kb, 0, none⟩, ns c, by rw [hl], by rw [hl]; exact Nat.le_refl _, by rw [hl]; simp [rSl]; omega, fun j x hj => ?_⟩
  have hjn : j < ns c := by rw [← hl]; exact (List.getElem?_eq_some_iff.1 hj).1
  have hx : x = kidsTo c (ns c) j := by
    have := kRows_at c (ns c) hjn
    rw [kRows_done, hj] at this
    exact Option.some.inj this
  subst hx
  obtain ⟨v, hv, hown⟩ := h.atK (kRows_at c (ns c) hjn)
  refine ⟨kb, 0, [v], rfl, hB, h.kB.lt, ⟨v, rfl, int_own hown (Nat.le_trans (kidsTo_len _ _ _) hn)⟩, fun i u hu => ?_⟩
  cases i with
  | zero =>
    simp at hu
    subst hu
    rw [h.kB.cell]
    simpa [rSl] using hv
  | succ i => simp at hu
theorem lat_of {w : World} {B fb kb L : Nat} {p : Nat → Prop} {F K : List Value} {fr : List (List Int)} {c : DChart} {vs vt vb vd vi va : Value} (hL : Blk w L #[.string c.name, .bool c.late, .int .i64 c.script, vs, vt, vb, vd, vi, va, .slice (some ⟨kb, 0, none⟩) c.states.length c.states.length] 87)
    (hs : Sl rState p w vs c.states) (ht : Sl rTrans p w vt c.trans) (hb : Sl rBlock p w vb c.blocks) (hd : Sl rDatum p w vd c.data) (hi : Sl rInvoke p w vi c.invokes)
    (ha : AbT w B va (ns c) c) (hk : Tabs w B fb kb F K fr (kRows c (ns c))) (hn : ns c ≤ 128) (hB : B ≤ kb) (hp : ∀ k, B ≤ k → p k) : Lat p w L c :=
  ⟨vs, vt, vb, vd, vi, va, _, hL, hs, ht, hb, hd, hi, (ha.sl hn).fr (fun k hk _ => ⟨hp k hk, rfl⟩), (hk.sl hn hB).fr (fun k hk _ => ⟨hp k hk, rfl⟩)⟩
end Go.Proofs.Ytekfbafljilchaa
