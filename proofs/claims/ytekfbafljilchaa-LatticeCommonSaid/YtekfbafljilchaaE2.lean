/- lattice.New: what is made, what is copied (regions 4, 13; printed by made.py). -/
import Derived.Test.YtekfbafljilchaaA4
import Derived.Test.YtekfbafljilchaaO0
import Derived.Deep.RegionHeld3
import Derived.Laws.CopyOwn
import Derived.Laws.MakeOwn
import Derived.Deep.DrawnRows
set_option linter.unusedVariables false
set_option linter.unusedSimpArgs false
namespace Go.Proofs.Ytekfbafljilchaa
open Go.RowKit Go.Lib
attribute [local go_sem ↓] Go.wp_at_zero Go.wp_at_succ

theorem madeCells_one (z : Value) (n : Nat) : madeCells #[z] n = Array.replicate n z := by
  apply Array.ext
  · simp [madeCells]
  · intro i h1 h2
    simp [madeCells, Nat.mod_one]
set_option maxRecDepth 100000 in
theorem info29 : (Try.prog.info? 29).map (fun i => (i.zero, i.size, i.bytes)) = some (some (.slice none 0 0), 1, 24) := by kernel_rfl
set_option maxRecDepth 100000 in
theorem info4 : (Try.prog.info? 4).map (fun i => (i.zero, i.size, i.bytes)) = some (some (.bool false), 1, 1) := by kernel_rfl
theorem make29 (n : Nat) (hn : n ≤ 128) (w : World) : (Instr.makeSlice 30 (.int .i64 (n : Int)) (.int .i64 (n : Int))).run Try.prog w = .ok (.slice (some ⟨w.heap.size, 0, none⟩) n n) (w.alloc (.cells (Array.replicate n (.slice none 0 0)) 29)) := by
  obtain ⟨i0, hi, hz0, hz1, hz2⟩ := info_parts info29
  have h := run_make (P := Try.prog) w 30 29 i0 _ Try.underlying30 hi hz0 .i64 .i64 n n (by omega) (by omega) (by rw [hz2]; omega) (by omega)
  simp only [Int.toNat_natCast, hz1, Nat.mul_one] at h
  rw [show (Value.slice none 0 0).cells = #[Value.slice none 0 0] from rfl, madeCells_one] at h
  exact h
theorem make4 (n : Nat) (hn : n ≤ 128) (w : World) : (Instr.makeSlice 31 (.int .i64 (n : Int)) (.int .i64 (n : Int))).run Try.prog w = .ok (.slice (some ⟨w.heap.size, 0, none⟩) n n) (w.alloc (.cells (Array.replicate n (.bool false)) 4)) := by
  obtain ⟨i0, hi, hz0, hz1, hz2⟩ := info_parts info4
  have h := run_make (P := Try.prog) w 31 4 i0 _ Try.underlying31 hi hz0 .i64 .i64 n n (by omega) (by omega) (by rw [hz2]; omega) (by omega)
  simp only [Int.toNat_natCast, hz1, Nat.mul_one] at h
  rw [show (Value.bool false).cells = #[Value.bool false] from rfl, madeCells_one] at h
  exact h
set_option maxRecDepth 100000 in
set_option maxHeartbeats 8000000 in
theorem new4 {Q : Exit → Act → World → Prop} {t0 t2 t3 t5 t6 t7 t8 t9 t10 t11 t12 t13 t14 t15 t16 t17 t18 t19 t20 t21 t22 t23 t24 t25 t26 t27 t28 t29 t30 t31 t32 t33 t34 t35 t36 t37 t38 t39 t40 t41 t42 t43 t44 t45 t46 t47 t48 t49 t50 t51 t52 t53 t54 t55 t56 t57 t58 t59 t60 t61 t62 t63 t64 t65 t66 t67 t68 t69 t70 t71 t72 t73 t74 t75 t76 t77 t78 t79 t80 t81 t82 t83 t84 t85 t86 t87 t88 t89 t90 t91 t92 t93 t94 t95 t96 t97 t98 t99 t100 t101 t102 t103 t104 t105 t106 t107 t108 t109 t110 t111 t112 t113 t114 t115 t116 t117 t118 t119 t120 t121 t122 t123 t124 t125 t126 t127 t128 t129 t130 t131 t132 t133 t134 t135 t136 t137 t138 t139 t140 t141 t142 t143 t144 t145 t146 t147 t148 t149 t150 t151 t152 t153 t154 t155 t156 t157 t158 t159 t160 t161 t162 t163 t164 t165 t166 t167 t168 t169 t170 t171 t172 t173 t174 t175 t176 t177 t178 t179 t180 t181 t182 t183 t184 : Value} {wr : World} {b0 n : Nat} {y0 : ByteArray} {y1 : Bool} {y2 : Int} {A3 A4 A5 A6 A7 : Option Addr} {n3 n4 n5 n6 n7 d3 d4 d5 d6 d7 : Nat} (hn : n ≤ 128) (hb : Blk wr b0 #[.string y0, .bool y1, .int .i64 y2, .slice A3 n3 d3, .slice A4 n4 d4, .slice A5 n5 d5, .slice A6 n6 d6, .slice A7 n7 d7] 28)
    (hQ : ∀ (u5 u43 u44 u45 u46 u47 : Value) (wx : World), (Fr [] wr wx ∧ wx.heap.size = wr.heap.size + 2 ∧ Blk wx wr.heap.size (Array.replicate n (.slice none 0 0)) 29 ∧ Blk wx (wr.heap.size + 1) #[.string y0, .bool y1, .int .i64 y2, .slice A3 n3 d3, .slice A4 n4 d4, .slice A5 n5 d5, .slice A6 n6 d6, .slice A7 n7 d7, .slice none 0 0, .slice (some ⟨wr.heap.size, 0, none⟩) n n] 87 ∧ u5 = .pointer (some ⟨wr.heap.size + 1, 0, none⟩)) → Q .normal ⟨#[t0, (.pointer (some ⟨b0, 0, none⟩)), t2, t3, (.int .i64 (n : Int)), u5, t6, t7, t8, t9, t10, t11, t12, t13, t14, t15, t16, t17, t18, t19, t20, t21, t22, t23, t24, t25, t26, t27, t28, t29, t30, t31, t32, t33, t34, t35, t36, t37, t38, t39, t40, t41, t42, u43, u44, u45, u46, u47, t48, t49, t50, t51, t52, t53, t54, t55, t56, t57, t58, t59, t60, t61, t62, t63, t64, t65, t66, t67, t68, t69, t70, t71, t72, t73, t74, t75, t76, t77, t78, t79, t80, t81, t82, t83, t84, t85, t86, t87, t88, t89, t90, t91, t92, t93, t94, t95, t96, t97, t98, t99, t100, t101, t102, t103, t104, t105, t106, t107, t108, t109, t110, t111, t112, t113, t114, t115, t116, t117, t118, t119, t120, t121, t122, t123, t124, t125, t126, t127, t128, t129, t130, t131, t132, t133, t134, t135, t136, t137, t138, t139, t140, t141, t142, t143, t144, t145, t146, t147, t148, t149, t150, t151, t152, t153, t154, t155, t156, t157, t158, t159, t160, t161, t162, t163, t164, t165, t166, t167, t168, t169, t170, t171, t172, t173, t174, t175, t176, t177, t178, t179, t180, t181, t182, t183, t184], []⟩ wx) :
    (regAt Try.f14 4).wp Try.prog Q ⟨#[t0, (.pointer (some ⟨b0, 0, none⟩)), t2, t3, (.int .i64 (n : Int)), t5, t6, t7, t8, t9, t10, t11, t12, t13, t14, t15, t16, t17, t18, t19, t20, t21, t22, t23, t24, t25, t26, t27, t28, t29, t30, t31, t32, t33, t34, t35, t36, t37, t38, t39, t40, t41, t42, t43, t44, t45, t46, t47, t48, t49, t50, t51, t52, t53, t54, t55, t56, t57, t58, t59, t60, t61, t62, t63, t64, t65, t66, t67, t68, t69, t70, t71, t72, t73, t74, t75, t76, t77, t78, t79, t80, t81, t82, t83, t84, t85, t86, t87, t88, t89, t90, t91, t92, t93, t94, t95, t96, t97, t98, t99, t100, t101, t102, t103, t104, t105, t106, t107, t108, t109, t110, t111, t112, t113, t114, t115, t116, t117, t118, t119, t120, t121, t122, t123, t124, t125, t126, t127, t128, t129, t130, t131, t132, t133, t134, t135, t136, t137, t138, t139, t140, t141, t142, t143, t144, t145, t146, t147, t148, t149, t150, t151, t152, t153, t154, t155, t156, t157, t158, t159, t160, t161, t162, t163, t164, t165, t166, t167, t168, t169, t170, t171, t172, t173, t174, t175, t176, t177, t178, t179, t180, t181, t182, t183, t184], []⟩ wr := by
  refine Code.wp_mono (Q := OnlyN (fun a w => Q .normal a w)) onlyN_imp ?_
  conv => arg 2; whnf
  have hmk := make29 n hn
  have x0 := hb.cell 0
  have x1 := hb.cell 1
  have x2 := hb.cell 2
  have x3 := hb.cell 3
  have x4 := hb.cell 4
  have x5 := hb.cell 5
  have x6 := hb.cell 6
  have x7 := hb.cell 7
  simp at x0 x1 x2 x3 x4 x5 x6 x7
  have hbl := hb.lt
  have hne := hb.lt
  clear hb
  go_region_held3 (fun w' => w'.cell? ⟨b0, 0, none⟩ = some (.string y0) ∧ w'.cell? ⟨b0, 1, none⟩ = some (.bool y1) ∧ w'.cell? ⟨b0, 2, none⟩ = some (.int .i64 y2) ∧ w'.cell? ⟨b0, 3, none⟩ = some (.slice A3 n3 d3) ∧ w'.cell? ⟨b0, 4, none⟩ = some (.slice A4 n4 d4) ∧ w'.cell? ⟨b0, 5, none⟩ = some (.slice A5 n5 d5) ∧ w'.cell? ⟨b0, 6, none⟩ = some (.slice A6 n6 d6) ∧ w'.cell? ⟨b0, 7, none⟩ = some (.slice A7 n7 d7)) (go_keep) (fail)
  all_goals
    refine hQ _ _ _ _ _ _ _ ⟨?_, ?_, ?_, ?_, rfl⟩
    · exact (((Fr.refl [] wr).drew).alloc _).alloc _
    · simp
    · exact (Blk.new _ _ _).alloc _
    · have hx := Blk.new (wr.alloc (.cells (Array.replicate n (.slice none 0 0)) 29)) #[.string y0, .bool y1, .int .i64 y2, .slice A3 n3 d3, .slice A4 n4 d4, .slice A5 n5 d5, .slice A6 n6 d6, .slice A7 n7 d7, .slice none 0 0, .slice (some ⟨wr.heap.size, 0, none⟩) n n] 87
      rw [show (wr.alloc (.cells (Array.replicate n (.slice none 0 0)) 29)).heap.size = wr.heap.size + 1 from by simp] at hx
      exact hx
set_option maxRecDepth 100000 in
set_option maxHeartbeats 8000000 in
theorem new13 {Q : Exit → Act → World → Prop} {t0 t1 t2 t3 t4 t6 t7 t10 t11 t12 t13 t14 t15 t16 t17 t18 t19 t20 t21 t22 t23 t24 t25 t26 t27 t28 t29 t30 t31 t32 t33 t34 t35 t36 t37 t38 t39 t40 t41 t42 t43 t44 t45 t46 t47 t48 t49 t50 t51 t52 t53 t54 t55 t56 t57 t58 t59 t60 t61 t62 t63 t64 t65 t66 t67 t68 t69 t70 t71 t72 t73 t74 t75 t76 t77 t78 t79 t80 t81 t82 t83 t84 t85 t86 t87 t88 t89 t90 t91 t92 t93 t94 t95 t96 t97 t98 t99 t100 t101 t102 t103 t104 t105 t106 t107 t108 t109 t110 t111 t112 t113 t114 t115 t116 t117 t118 t119 t120 t121 t122 t123 t124 t125 t126 t127 t128 t129 t130 t131 t132 t133 t134 t135 t136 t137 t138 t139 t140 t141 t142 t143 t144 t145 t146 t147 t148 t149 t150 t151 t152 t153 t154 t155 t156 t157 t158 t159 t160 t161 t162 t163 t164 t165 t166 t167 t168 t169 t170 t171 t172 t173 t174 t175 t176 t177 t178 t179 t180 t181 t182 t183 t184 : Value} {wr : World} {L sb ga gb ob db i p n ba c : Nat} {cur cs : List Value} (hL : wr.cell? ⟨L, 8, none⟩ = some (.slice (some ⟨ga, 0, none⟩) i c)) (hs : wr.cell? ⟨sb, 2, none⟩ = some (.int .i64 (p : Int))) (hp : p < i) (hrow : wr.cell? ⟨ga, p, none⟩ = some (.slice (some ⟨gb, ob, none⟩) n db)) (hcs : ∀ j v, cs[j]? = some v → wr.cell? ((⟨gb, ob, none⟩ : Addr).add j) = some v) (hlc : cs.length = n) (hone : ∀ v ∈ cs, v.oneCell' = true) (hba : Blk wr ba cur.toArray 4) (hlb : cur.length = n) (hlast : wr.heap.size = ba + 1) (h1 : L < ba) (h2 : sb < ba) (h3 : ga < ba)
    (hQ : ∀ (u91 u92 u93 u94 u95 u96 u97 u98 u99 u100 : Value) (wx : World), (Fr [ba] wr wx ∧ Blk wx ba cs.toArray 4) → Q .normal ⟨#[t0, t1, t2, t3, t4, (.pointer (some ⟨L, 0, none⟩)), t6, t7, (.pointer (some ⟨sb, 0, none⟩)), (.slice (some ⟨ba, 0, none⟩) n n), t10, t11, t12, t13, t14, t15, t16, t17, t18, t19, t20, t21, t22, t23, t24, t25, t26, t27, t28, t29, t30, t31, t32, t33, t34, t35, t36, t37, t38, t39, t40, t41, t42, t43, t44, t45, t46, t47, t48, t49, t50, t51, t52, t53, t54, t55, t56, t57, t58, t59, t60, t61, t62, t63, t64, t65, t66, t67, t68, t69, t70, t71, t72, t73, t74, t75, t76, t77, t78, t79, t80, t81, t82, t83, t84, t85, t86, t87, t88, t89, t90, u91, u92, u93, u94, u95, u96, u97, u98, u99, u100, t101, t102, t103, t104, t105, t106, t107, t108, t109, t110, t111, t112, t113, t114, t115, t116, t117, t118, t119, t120, t121, t122, t123, t124, t125, t126, t127, t128, t129, t130, t131, t132, t133, t134, t135, t136, t137, t138, t139, t140, t141, t142, t143, t144, t145, t146, t147, t148, t149, t150, t151, t152, t153, t154, t155, t156, t157, t158, t159, t160, t161, t162, t163, t164, t165, t166, t167, t168, t169, t170, t171, t172, t173, t174, t175, t176, t177, t178, t179, t180, t181, t182, t183, t184], []⟩ wx) :
    (regAt Try.f14 13).wp Try.prog Q ⟨#[t0, t1, t2, t3, t4, (.pointer (some ⟨L, 0, none⟩)), t6, t7, (.pointer (some ⟨sb, 0, none⟩)), (.slice (some ⟨ba, 0, none⟩) n n), t10, t11, t12, t13, t14, t15, t16, t17, t18, t19, t20, t21, t22, t23, t24, t25, t26, t27, t28, t29, t30, t31, t32, t33, t34, t35, t36, t37, t38, t39, t40, t41, t42, t43, t44, t45, t46, t47, t48, t49, t50, t51, t52, t53, t54, t55, t56, t57, t58, t59, t60, t61, t62, t63, t64, t65, t66, t67, t68, t69, t70, t71, t72, t73, t74, t75, t76, t77, t78, t79, t80, t81, t82, t83, t84, t85, t86, t87, t88, t89, t90, t91, t92, t93, t94, t95, t96, t97, t98, t99, t100, t101, t102, t103, t104, t105, t106, t107, t108, t109, t110, t111, t112, t113, t114, t115, t116, t117, t118, t119, t120, t121, t122, t123, t124, t125, t126, t127, t128, t129, t130, t131, t132, t133, t134, t135, t136, t137, t138, t139, t140, t141, t142, t143, t144, t145, t146, t147, t148, t149, t150, t151, t152, t153, t154, t155, t156, t157, t158, t159, t160, t161, t162, t163, t164, t165, t166, t167, t168, t169, t170, t171, t172, t173, t174, t175, t176, t177, t178, t179, t180, t181, t182, t183, t184], []⟩ wr := by
  refine Code.wp_mono (Q := OnlyN (fun a w => Q .normal a w)) onlyN_imp ?_
  conv => arg 2; whnf
  have hp0 : (0 : Int) ≤ (p : Int) := by omega
  have hp1 : (p : Int) < (i : Int) := by omega
  have HCS := Lib.hid hcs
  have HBA := Lib.hid hba
  have HONE := Lib.hid hone
  have hbal := hba.lt
  clear hcs hba hone
  go_region_held3 (fun w' => w'.cell? ⟨L, 8, none⟩ = some (.slice (some ⟨ga, 0, none⟩) i c) ∧ w'.cell? ⟨sb, 2, none⟩ = some (.int .i64 (p : Int)) ∧ w'.cell? ⟨ga, p, none⟩ = some (.slice (some ⟨gb, ob, none⟩) n db)) (first | exact ⟨k1, k2, k3⟩ | go_keep)
    ((refine step_copy_splice (by rfl) _ _ 31 31 (by rfl) 4 Try.underlying31 (by kernel_rfl) (some ⟨ba, 0, none⟩) (some ⟨gb, ob, none⟩) n n n db (by rfl) (by rfl) ba 0 cur 4 HBA.out cs (by simp [hlc]) (fun _ => ⟨rfl, _, rfl, fun j v h => HCS.out j v h⟩) (by omega) HONE.out ba wr ⟨rfl, rfl, rfl, Nat.le_refl _, fun _ _ => rfl⟩ (Nat.le_refl _) ?_; intro w4 hg4 hb4; have k1 : w4.cell? ⟨L, 8, none⟩ = some (.slice (some ⟨ga, 0, none⟩) i c) := (World.cell?_of_block (hb4.block L h1)).trans hL; have k2 : w4.cell? ⟨sb, 2, none⟩ = some (.int .i64 (p : Int)) := (World.cell?_of_block (hb4.block sb h2)).trans hs; have k3 : w4.cell? ⟨ga, p, none⟩ = some (.slice (some ⟨gb, ob, none⟩) n db) := (World.cell?_of_block (hb4.block ga h3)).trans hrow))
  all_goals
    have hsp : splice cur 0 cs = cs := by simp [splice, hlc, hlb]
    have hg5 := hg4.out
    rw [hsp] at hg5
    refine hQ _ _ _ _ _ _ _ _ _ _ _ ⟨?_, hg5⟩
    exact ⟨hb4.os, hb4.tape, hb4.output, hb4.size, fun k hk hnk => hb4.block k (by simp at hnk; omega)⟩
end Go.Proofs.Ytekfbafljilchaa
