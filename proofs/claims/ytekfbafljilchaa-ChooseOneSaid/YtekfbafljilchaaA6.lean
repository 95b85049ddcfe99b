/- lattice.Clone: a state's next three rows (region 7). -/
import Derived.Test.YtekfbafljilchaaA4
import Derived.Test.YtekfbafljilchaaO0
import Derived.Deep.RegionWith
import Derived.Deep.DrawnRows
set_option linter.unusedVariables false
set_option linter.unusedSimpArgs false
namespace Go.Proofs.Ytekfbafljilchaa
open Go.RowKit Go.Lib
attribute [local go_sem ↓] Go.wp_at_zero Go.wp_at_succ
set_option maxRecDepth 100000 in
set_option maxHeartbeats 8000000 in
theorem clone7 {Q : Exit → Act → World → Prop} {t0 t1 t2 t3 t5 t6 t7 t8 t9 t10 t11 t12 t13 t14 t15 t16 t17 t18 t19 t20 t21 t22 t23 t24 t25 t26 t27 t28 t29 t30 t31 t32 t33 t34 t35 t36 t37 t38 t39 t40 t41 t42 t43 t44 t45 t46 t47 t48 t49 t50 t51 t52 t53 t54 t55 t56 t57 t58 t59 t60 t61 t62 t63 t64 t65 t66 t67 t68 t69 t70 t71 t72 t73 t74 t75 t76 t77 t78 t79 t80 t81 t82 t83 t84 t85 t86 t87 t88 t89 t90 t91 t92 t93 t94 t95 t96 t97 t98 t99 t100 t101 t102 t103 t104 t105 t106 t107 t108 t109 t110 t111 t112 t113 t114 t115 t116 t117 t118 t119 t120 t121 t122 t123 t124 t125 t126 t127 t128 t129 t130 t131 t132 t133 t134 t135 t136 t137 t138 t139 t140 t141 t142 t143 t144 t145 t146 t147 t148 t149 t150 t151 t152 t153 t154 t155 t156 t157 t158 t159 t160 t161 t162 t163 t164 t165 t166 t167 t168 t169 t170 t171 t172 t173 t174 t175 t176 t177 t178 t179 t180 t181 t182 t183 t184 t185 t186 t187 t188 t189 t190 t191 t192 t193 t194 t195 t196 t197 t198 t199 t200 t201 t202 t203 : Value} {wr : World} {B B2 g k cap n : Nat} {css : List (List Value)} {p : Nat → Prop} {y0 y1 y2 y3 y4 y5 y6 y10 y11 y12 : Value} {A0 A1 A2 : Option Addr} {d0 d1 d2 : Nat} {l0 : List Int} {l1 : List Int} {l2 : List Int} (hB : B ≤ wr.heap.size) (hrow : RowAt 50 13 wr B2 g cap n css) (hcs : css[k]? = some [y0, y1, y2, y3, y4, y5, y6, .slice A0 l0.length d0, .slice A1 l1.length d1, .slice A2 l2.length d2, y10, y11, y12]) (h0 : Sl rInt p wr (.slice A0 l0.length d0) l0) (h1 : Sl rInt p wr (.slice A1 l1.length d1) l1) (h2 : Sl rInt p wr (.slice A2 l2.length d2) l2)
    (hQ : ∀ (u48 u49 u50 u51 u52 u53 u54 u55 u56 u57 u58 u59 u60 u61 u62 u63 u64 u65 u66 u67 u68 u69 u70 u71 : Value) (wx : World), (∃ A0 d0 A1 d1 A2 d2, Fr [g] wr wx ∧ RowAt 50 13 wx B2 g cap n (css.set k [y0, y1, y2, y3, y4, y5, y6, .slice A0 l0.length d0, .slice A1 l1.length d1, .slice A2 l2.length d2, y10, y11, y12]) ∧ Sl rInt (NT B [3] wx) wx (.slice A0 l0.length d0) l0 ∧ Sl rInt (NT B [3] wx) wx (.slice A1 l1.length d1) l1 ∧ Sl rInt (NT B [3] wx) wx (.slice A2 l2.length d2) l2) → Q .normal ⟨#[t0, t1, t2, t3, (.pointer (some ⟨g, k * 13, none⟩)), t5, t6, t7, t8, t9, t10, t11, t12, t13, t14, t15, t16, t17, t18, t19, t20, t21, t22, t23, t24, t25, t26, t27, t28, t29, t30, t31, t32, t33, t34, t35, t36, t37, t38, t39, t40, t41, t42, t43, t44, t45, t46, t47, u48, u49, u50, u51, u52, u53, u54, u55, u56, u57, u58, u59, u60, u61, u62, u63, u64, u65, u66, u67, u68, u69, u70, u71, t72, t73, t74, t75, t76, t77, t78, t79, t80, t81, t82, t83, t84, t85, t86, t87, t88, t89, t90, t91, t92, t93, t94, t95, t96, t97, t98, t99, t100, t101, t102, t103, t104, t105, t106, t107, t108, t109, t110, t111, t112, t113, t114, t115, t116, t117, t118, t119, t120, t121, t122, t123, t124, t125, t126, t127, t128, t129, t130, t131, t132, t133, t134, t135, t136, t137, t138, t139, t140, t141, t142, t143, t144, t145, t146, t147, t148, t149, t150, t151, t152, t153, t154, t155, t156, t157, t158, t159, t160, t161, t162, t163, t164, t165, t166, t167, t168, t169, t170, t171, t172, t173, t174, t175, t176, t177, t178, t179, t180, t181, t182, t183, t184, t185, t186, t187, t188, t189, t190, t191, t192, t193, t194, t195, t196, t197, t198, t199, t200, t201, t202, t203], []⟩ wx) :
    (regAt Try.f45 7).wp Try.prog Q ⟨#[t0, t1, t2, t3, (.pointer (some ⟨g, k * 13, none⟩)), t5, t6, t7, t8, t9, t10, t11, t12, t13, t14, t15, t16, t17, t18, t19, t20, t21, t22, t23, t24, t25, t26, t27, t28, t29, t30, t31, t32, t33, t34, t35, t36, t37, t38, t39, t40, t41, t42, t43, t44, t45, t46, t47, t48, t49, t50, t51, t52, t53, t54, t55, t56, t57, t58, t59, t60, t61, t62, t63, t64, t65, t66, t67, t68, t69, t70, t71, t72, t73, t74, t75, t76, t77, t78, t79, t80, t81, t82, t83, t84, t85, t86, t87, t88, t89, t90, t91, t92, t93, t94, t95, t96, t97, t98, t99, t100, t101, t102, t103, t104, t105, t106, t107, t108, t109, t110, t111, t112, t113, t114, t115, t116, t117, t118, t119, t120, t121, t122, t123, t124, t125, t126, t127, t128, t129, t130, t131, t132, t133, t134, t135, t136, t137, t138, t139, t140, t141, t142, t143, t144, t145, t146, t147, t148, t149, t150, t151, t152, t153, t154, t155, t156, t157, t158, t159, t160, t161, t162, t163, t164, t165, t166, t167, t168, t169, t170, t171, t172, t173, t174, t175, t176, t177, t178, t179, t180, t181, t182, t183, t184, t185, t186, t187, t188, t189, t190, t191, t192, t193, t194, t195, t196, t197, t198, t199, t200, t201, t202, t203], []⟩ wr := by
  refine Code.wp_mono (Q := OnlyN (fun a w => Q .normal a w)) onlyN_imp ?_
  conv => arg 2; whnf
  have hrl := hrow.lt
  have x0 := hrow.cell hcs (i := 7) rfl
  have x1 := hrow.cell hcs (i := 8) rfl
  have x2 := hrow.cell hcs (i := 9) rfl
  have HCS := Lib.hid hcs
  have HROW := Lib.hid hrow
  clear hcs hrow
  go_region_with (first
    | (go_at_call 82; (with_reducible refine (int_from wr _ _ _ _ ((Fr.refl _ _).drew) h0).mono ?_); rintro e w3 ⟨a3, q3, rfl, f3, s3⟩; have F3 := ((Fr.refl [] wr).drew).trans' f3; have y5 := (HROW.out.fr F3 (by simp)).cell HCS.out (i := 8) rfl; have y6 := (HROW.out.fr F3 (by simp)).cell HCS.out (i := 9) rfl)
    | (go_at_call 82; (with_reducible refine (int_from wr _ _ _ _ F3 h1).mono ?_); rintro e w5 ⟨a5, q5, rfl, f5, s5⟩; have F5 := F3.trans' f5; have z6 := (HROW.out.fr F5 (by simp)).cell HCS.out (i := 9) rfl)
    | (go_at_call 82; (with_reducible refine (int_from wr _ _ _ _ F5 h2).mono ?_); rintro e w6 ⟨a6, q6, rfl, f6, s6⟩; have F6 := F5.trans' f6; have R6 := Lib.hid (HROW.out.fr F6 (by simp)); have u3 := R6.out.cell HCS.out (i := 7) rfl; have u5 := R6.out.cell HCS.out (i := 8) rfl; have u6 := R6.out.cell HCS.out (i := 9) rfl; have uf := R6.out.free; have ul := R6.out.lt))
  all_goals
    have fs : Fr [g] w6 (((w6.setCell ⟨g, k * 13 + 7, none⟩ (.slice a3 l0.length q3)).setCell ⟨g, k * 13 + 8, none⟩ (.slice a5 l1.length q5)).setCell ⟨g, k * 13 + 9, none⟩ (.slice a6 l2.length q6)) := (((Fr.refl _ _).setCell (by simp) _).setCell (by simp) _).setCell (by simp) _
    have hn : ∀ E, 50 ∉ E → ∀ x, x ∈ [g] → ¬ NT wr.heap.size E w6 x := fun E hE x hx => by
      obtain rfl := List.mem_singleton.1 hx
      exact R6.out.not hE
    refine hQ _ _ _ _ _ _ _ _ _ _ _ _ _ _ _ _ _ _ _ _ _ _ _ _ _ ⟨_, _, _, _, _, _, (F6.nil).trans fs (fun _ h _ => h), R6.out.put3 HCS.out (by decide) (by decide) (by decide) _ _ _, ?_, ?_, ?_⟩
    · exact ((s3.fr (NT.fr0 f5)).fr (NT.fr0 f6)).stay fs hB (hn _ (by decide))
    · exact (s5.fr (NT.fr0 f6)).stay fs hB (hn _ (by decide))
    · exact s6.stay fs hB (hn _ (by decide))
end Go.Proofs.Ytekfbafljilchaa
