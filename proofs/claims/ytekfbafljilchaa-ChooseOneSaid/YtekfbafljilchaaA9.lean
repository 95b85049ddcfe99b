/- lattice.Clone: an act's rows (region 24). -/
import Derived.Test.YtekfbafljilchaaA4
import Derived.Test.YtekfbafljilchaaO0
import Derived.Deep.RegionWith
import Derived.Deep.DrawnRows
set_option linter.unusedVariables false
set_option linter.unusedSimpArgs false
namespace Go.Proofs.Ytekfbafljilchaa
open Go.RowKit Go.Lib
attribute [local go_sem ↓] Go.wp_at_zero Go.wp_at_succ
set_option maxRecDepth 100000 in
set_option maxHeartbeats 8000000 in
theorem clone24 {Q : Exit → Act → World → Prop} {t0 t1 t2 t3 t4 t5 t6 t9 t10 t11 t12 t13 t14 t15 t16 t17 t18 t19 t20 t21 t22 t23 t24 t25 t26 t27 t28 t29 t30 t31 t32 t33 t34 t35 t36 t37 t38 t39 t40 t41 t42 t43 t44 t45 t46 t47 t48 t49 t50 t51 t52 t53 t54 t55 t56 t57 t58 t59 t60 t61 t62 t63 t64 t65 t66 t67 t68 t69 t70 t71 t72 t73 t74 t75 t76 t77 t78 t79 t80 t81 t82 t83 t84 t85 t86 t87 t88 t89 t90 t91 t92 t93 t94 t95 t96 t97 t98 t99 t100 t101 t102 t103 t104 t105 t106 t107 t108 t109 t110 t111 t112 t113 t114 t115 t116 t117 t118 t119 t120 t121 t122 t123 t124 t125 t126 t127 t128 t129 t130 t131 t132 t133 t134 t135 t136 t137 t138 t139 t140 t141 t142 t143 t144 t145 t146 t147 t148 t149 t150 t151 t152 t153 t154 t155 t156 t157 t158 t159 t160 t161 t162 t163 t164 t165 t166 t167 t168 t169 t170 t171 t172 t173 t174 t175 t176 t177 t178 t179 t180 t181 t182 t183 t184 t185 t186 t187 t188 t189 t190 t191 t192 t193 t194 t195 t196 t197 t198 t199 t200 t201 t202 t203 : Value} {wr : World} {B B2 g k cap n : Nat} {css : List (List Value)} {p : Nat → Prop} {y0 y8 y16 : Int} {y1 y2 y3 y4 y5 y6 y7 y9 y10 y11 y12 y13 y18 : ByteArray} {A0 A1 A2 : Option Addr} {d0 d1 d2 : Nat} {l0 : List ByteArray} {l1 : List Int} {l2 : List DPar} (hB : B ≤ wr.heap.size) (hrow : RowAt 113 19 wr B2 g cap n css) (hcs : css[k]? = some [.int .i64 y0, .string y1, .string y2, .string y3, .string y4, .string y5, .string y6, .string y7, .int .i64 y8, .string y9, .string y10, .string y11, .string y12, .string y13, .slice A0 l0.length d0, .slice A1 l1.length d1, .int .i64 y16, .slice A2 l2.length d2, .string y18]) (hk : k < n) (hn : n ≤ 140737488351232) (h0 : Sl rStr p wr (.slice A0 l0.length d0) l0) (h1 : Sl rInt p wr (.slice A1 l1.length d1) l1) (h2 : Sl rPar p wr (.slice A2 l2.length d2) l2)
    (hQ : ∀ (u138 u139 u140 u141 u142 u143 u144 u145 u146 u147 u148 u149 u150 u151 u152 u153 u154 u155 u156 u157 u158 u159 u160 u161 u162 u163 u164 u165 u166 u167 : Value) (wx : World), (∃ A0 d0 A1 d1 A2 d2, Fr [g] wr wx ∧ RowAt 113 19 wx B2 g cap n (css.set k [.int .i64 y0, .string y1, .string y2, .string y3, .string y4, .string y5, .string y6, .string y7, .int .i64 y8, .string y9, .string y10, .string y11, .string y12, .string y13, .slice A0 l0.length d0, .slice A1 l1.length d1, .int .i64 y16, .slice A2 l2.length d2, .string y18]) ∧ Sl rStr (NT B [9] wx) wx (.slice A0 l0.length d0) l0 ∧ Sl rInt (NT B [3] wx) wx (.slice A1 l1.length d1) l1 ∧ Sl rPar (NT B [130] wx) wx (.slice A2 l2.length d2) l2) → Q .normal ⟨#[t0, t1, t2, t3, t4, t5, t6, (.slice (some ⟨g, 0, none⟩) n cap), (.int .i64 (k : Int)), t9, t10, t11, t12, t13, t14, t15, t16, t17, t18, t19, t20, t21, t22, t23, t24, t25, t26, t27, t28, t29, t30, t31, t32, t33, t34, t35, t36, t37, t38, t39, t40, t41, t42, t43, t44, t45, t46, t47, t48, t49, t50, t51, t52, t53, t54, t55, t56, t57, t58, t59, t60, t61, t62, t63, t64, t65, t66, t67, t68, t69, t70, t71, t72, t73, t74, t75, t76, t77, t78, t79, t80, t81, t82, t83, t84, t85, t86, t87, t88, t89, t90, t91, t92, t93, t94, t95, t96, t97, t98, t99, t100, t101, t102, t103, t104, t105, t106, t107, t108, t109, t110, t111, t112, t113, t114, t115, t116, t117, t118, t119, t120, t121, t122, t123, t124, t125, t126, t127, t128, t129, t130, t131, t132, t133, t134, t135, t136, t137, u138, u139, u140, u141, u142, u143, u144, u145, u146, u147, u148, u149, u150, u151, u152, u153, u154, u155, u156, u157, u158, u159, u160, u161, u162, u163, u164, u165, u166, u167, t168, t169, t170, t171, t172, t173, t174, t175, t176, t177, t178, t179, t180, t181, t182, t183, t184, t185, t186, t187, t188, t189, t190, t191, t192, t193, t194, t195, t196, t197, t198, t199, t200, t201, t202, t203], []⟩ wx) :
    (regAt Try.f45 24).wp Try.prog Q ⟨#[t0, t1, t2, t3, t4, t5, t6, (.slice (some ⟨g, 0, none⟩) n cap), (.int .i64 (k : Int)), t9, t10, t11, t12, t13, t14, t15, t16, t17, t18, t19, t20, t21, t22, t23, t24, t25, t26, t27, t28, t29, t30, t31, t32, t33, t34, t35, t36, t37, t38, t39, t40, t41, t42, t43, t44, t45, t46, t47, t48, t49, t50, t51, t52, t53, t54, t55, t56, t57, t58, t59, t60, t61, t62, t63, t64, t65, t66, t67, t68, t69, t70, t71, t72, t73, t74, t75, t76, t77, t78, t79, t80, t81, t82, t83, t84, t85, t86, t87, t88, t89, t90, t91, t92, t93, t94, t95, t96, t97, t98, t99, t100, t101, t102, t103, t104, t105, t106, t107, t108, t109, t110, t111, t112, t113, t114, t115, t116, t117, t118, t119, t120, t121, t122, t123, t124, t125, t126, t127, t128, t129, t130, t131, t132, t133, t134, t135, t136, t137, t138, t139, t140, t141, t142, t143, t144, t145, t146, t147, t148, t149, t150, t151, t152, t153, t154, t155, t156, t157, t158, t159, t160, t161, t162, t163, t164, t165, t166, t167, t168, t169, t170, t171, t172, t173, t174, t175, t176, t177, t178, t179, t180, t181, t182, t183, t184, t185, t186, t187, t188, t189, t190, t191, t192, t193, t194, t195, t196, t197, t198, t199, t200, t201, t202, t203], []⟩ wr := by
  refine Code.wp_mono (Q := OnlyN (fun a w => Q .normal a w)) onlyN_imp ?_
  conv => arg 2; whnf
  have hrl := hrow.lt
  have hk0 : (0 : Int) ≤ (k : Int) := by omega
  have hk1 : (k : Int) < (n : Int) := by omega
  have x14 := hrow.cell hcs (i := 14) rfl
  have x15 := hrow.cell hcs (i := 15) rfl
  have x16 := hrow.cell hcs (i := 16) rfl
  have x17 := hrow.cell hcs (i := 17) rfl
  have x18 := hrow.cell hcs (i := 18) rfl
  have HCS := Lib.hid hcs
  have HROW := Lib.hid hrow
  clear hcs hrow
  go_region_with (first
    | (go_at_call 86; (with_reducible refine (str_from wr _ _ _ _ ((Fr.refl _ _).drew) h0).mono ?_); rintro e w3 ⟨a3, q3, rfl, f3, s3⟩; have F3 := ((Fr.refl [] wr).drew).trans' f3; have R3 := Lib.hid (HROW.out.fr F3 (by simp)); have y3 := R3.out.cell HCS.out (i := 15) rfl; have y4 := R3.out.cell HCS.out (i := 16) rfl; have y5 := R3.out.cell HCS.out (i := 17) rfl; have y6 := R3.out.cell HCS.out (i := 18) rfl)
    | (go_at_call 82; (with_reducible refine (int_from wr _ _ _ _ F3 h1).mono ?_); rintro e w5 ⟨a5, q5, rfl, f5, s5⟩; have F5 := F3.trans' f5; have R5 := Lib.hid (HROW.out.fr F5 (by simp)); have z4 := R5.out.cell HCS.out (i := 16) rfl; have z5 := R5.out.cell HCS.out (i := 17) rfl; have z6 := R5.out.cell HCS.out (i := 18) rfl)
    | (go_at_call 84; (with_reducible refine (load_from wr _ _ _ _ _ _ F5 h2).mono ?_); rintro e w6 ⟨a6, q6, rfl, f6, s6⟩; have F6 := F5.trans' f6; have R6 := Lib.hid (HROW.out.fr F6 (by simp)); have u4 := R6.out.cell HCS.out (i := 14) rfl; have u5 := R6.out.cell HCS.out (i := 15) rfl; have u6 := R6.out.cell HCS.out (i := 16) rfl; have u7 := R6.out.cell HCS.out (i := 17) rfl; have u8 := R6.out.cell HCS.out (i := 18) rfl; have uf := R6.out.free; have ul := R6.out.lt))
  all_goals
    have r2 := R6.out.put2 HCS.out (i := 14) (j := 15) (by decide) (by decide) (.slice a3 l0.length q3) (.slice a5 l1.length q5)
    have r5 := r2.put3 (get_set_self HCS.out _) (i := 16) (j := 17) (m := 18) (by decide) (by decide) (by decide) (.int .i64 y16) (.slice a6 l2.length q6) (.string y18)
    rw [List.set_set] at r5
    have fs : Fr [g] w6 (((((w6.setCell ⟨g, k * 19 + 14, none⟩ (.slice a3 l0.length q3)).setCell ⟨g, k * 19 + 15, none⟩ (.slice a5 l1.length q5)).setCell ⟨g, k * 19 + 16, none⟩ (.int .i64 y16)).setCell ⟨g, k * 19 + 17, none⟩ (.slice a6 l2.length q6)).setCell ⟨g, k * 19 + 18, none⟩ (.string y18)) := (((((Fr.refl _ _).setCell (by simp) _).setCell (by simp) _).setCell (by simp) _).setCell (by simp) _).setCell (by simp) _
    have hn : ∀ E, 113 ∉ E → ∀ x, x ∈ [g] → ¬ NT wr.heap.size E w6 x := fun E hE x hx => by
      obtain rfl := List.mem_singleton.1 hx
      exact R6.out.not hE
    refine hQ _ _ _ _ _ _ _ _ _ _ _ _ _ _ _ _ _ _ _ _ _ _ _ _ _ _ _ _ _ _ _ ⟨_, _, _, _, _, _, (F6.nil).trans fs (fun _ h _ => h), r5, ?_, ?_, ?_⟩
    · exact ((s3.fr (NT.fr0 f5)).fr (NT.fr0 f6)).stay fs hB (hn _ (by decide))
    · exact (s5.fr (NT.fr0 f6)).stay fs hB (hn _ (by decide))
    · exact s6.stay fs hB (hn _ (by decide))
end Go.Proofs.Ytekfbafljilchaa
