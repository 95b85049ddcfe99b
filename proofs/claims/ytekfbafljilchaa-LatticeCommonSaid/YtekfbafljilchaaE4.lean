/- lattice.New: are the kids the ones that were found (region 23; printed by r23.py). -/
import Derived.Test.YtekfbafljilchaaD0
import Derived.Test.YtekfbafljilchaaO0
import Derived.Deep.RegionHeld3
import Derived.Deep.DrawnRows
set_option linter.unusedVariables false
set_option linter.unusedSimpArgs false
namespace Go.Proofs.Ytekfbafljilchaa
open Go.RowKit Go.Lib
attribute [local go_sem ↓] Go.wp_at_zero Go.wp_at_succ

set_option maxRecDepth 100000 in
set_option maxHeartbeats 8000000 in
theorem new23 {Q : Exit → Act → World → Prop} {t0 t1 t2 t3 t4 t5 t7 t8 t9 t12 t13 t14 t15 t16 t17 t18 t19 t20 t21 t22 t23 t24 t25 t26 t27 t28 t29 t30 t31 t32 t33 t34 t35 t36 t37 t38 t39 t40 t41 t42 t43 t44 t45 t46 t47 t48 t49 t50 t51 t52 t53 t54 t55 t56 t57 t58 t59 t60 t61 t62 t63 t64 t65 t66 t67 t68 t69 t70 t71 t72 t73 t74 t75 t76 t77 t78 t79 t80 t81 t82 t83 t84 t85 t86 t87 t88 t89 t90 t91 t92 t93 t94 t95 t96 t97 t98 t99 t100 t101 t102 t103 t104 t105 t106 t107 t108 t109 t110 t111 t112 t113 t114 t115 t116 t117 t118 t119 t120 t121 t122 t123 t124 t125 t126 t127 t128 t129 t130 t131 t132 t133 t134 t135 t136 t137 t138 t139 t140 t141 t142 t143 t144 t145 t146 t147 t148 t149 t150 t151 t152 t153 t154 t155 t156 t157 t158 t159 t160 t161 t162 t163 t164 t165 t166 t167 t168 t169 t170 t171 t172 t173 t174 t175 t176 t177 t178 t179 t180 t181 t182 t183 t184 : Value} {wr : World} {sb fb i n : Nat} {a b : List Int} {A A2 : Option Addr} {d d2 : Nat} {p q : Nat → Prop} (hk : wr.cell? ⟨sb, 3, none⟩ = some (.slice A a.length d)) (hf : wr.cell? ⟨fb, i, none⟩ = some (.slice A2 b.length d2)) (ha : Sl rInt p wr (.slice A a.length d) a) (hb : Sl rInt q wr (.slice A2 b.length d2) b) (hi : i < n)
    (hQ : ∀ (u157 u158 u159 u160 u161 u162 u163 u164 : Value) (wx : World), (Fr [] wr wx ∧ u164 = .bool (!decide (a = b))) → Q .normal ⟨#[t0, t1, t2, t3, t4, t5, (.slice (some ⟨fb, 0, none⟩) n n), t7, t8, t9, (.int .i64 (i : Int)), (.pointer (some ⟨sb, 0, none⟩)), t12, t13, t14, t15, t16, t17, t18, t19, t20, t21, t22, t23, t24, t25, t26, t27, t28, t29, t30, t31, t32, t33, t34, t35, t36, t37, t38, t39, t40, t41, t42, t43, t44, t45, t46, t47, t48, t49, t50, t51, t52, t53, t54, t55, t56, t57, t58, t59, t60, t61, t62, t63, t64, t65, t66, t67, t68, t69, t70, t71, t72, t73, t74, t75, t76, t77, t78, t79, t80, t81, t82, t83, t84, t85, t86, t87, t88, t89, t90, t91, t92, t93, t94, t95, t96, t97, t98, t99, t100, t101, t102, t103, t104, t105, t106, t107, t108, t109, t110, t111, t112, t113, t114, t115, t116, t117, t118, t119, t120, t121, t122, t123, t124, t125, t126, t127, t128, t129, t130, t131, t132, t133, t134, t135, t136, t137, t138, t139, t140, t141, t142, t143, t144, t145, t146, t147, t148, t149, t150, t151, t152, t153, t154, t155, t156, u157, u158, u159, u160, u161, u162, u163, u164, t165, t166, t167, t168, t169, t170, t171, t172, t173, t174, t175, t176, t177, t178, t179, t180, t181, t182, t183, t184], []⟩ wx) :
    (regAt Try.f14 23).wp Try.prog Q ⟨#[t0, t1, t2, t3, t4, t5, (.slice (some ⟨fb, 0, none⟩) n n), t7, t8, t9, (.int .i64 (i : Int)), (.pointer (some ⟨sb, 0, none⟩)), t12, t13, t14, t15, t16, t17, t18, t19, t20, t21, t22, t23, t24, t25, t26, t27, t28, t29, t30, t31, t32, t33, t34, t35, t36, t37, t38, t39, t40, t41, t42, t43, t44, t45, t46, t47, t48, t49, t50, t51, t52, t53, t54, t55, t56, t57, t58, t59, t60, t61, t62, t63, t64, t65, t66, t67, t68, t69, t70, t71, t72, t73, t74, t75, t76, t77, t78, t79, t80, t81, t82, t83, t84, t85, t86, t87, t88, t89, t90, t91, t92, t93, t94, t95, t96, t97, t98, t99, t100, t101, t102, t103, t104, t105, t106, t107, t108, t109, t110, t111, t112, t113, t114, t115, t116, t117, t118, t119, t120, t121, t122, t123, t124, t125, t126, t127, t128, t129, t130, t131, t132, t133, t134, t135, t136, t137, t138, t139, t140, t141, t142, t143, t144, t145, t146, t147, t148, t149, t150, t151, t152, t153, t154, t155, t156, t157, t158, t159, t160, t161, t162, t163, t164, t165, t166, t167, t168, t169, t170, t171, t172, t173, t174, t175, t176, t177, t178, t179, t180, t181, t182, t183, t184], []⟩ wr := by
  refine Code.wp_mono (Q := OnlyN (fun a w => Q .normal a w)) onlyN_imp ?_
  conv => arg 2; whnf
  have hp0 : (0 : Int) ≤ (i : Int) := by omega
  have hp1 : (i : Int) < (n : Int) := by omega
  have HA := Lib.hid ha
  have HB := Lib.hid hb
  have hsl := World.block_lt_of_cell? wr _ hk
  have hfl := World.block_lt_of_cell? wr _ hf
  have HC : Hid (∀ w, Fr [] wr w → Calls Try.prog 51 #[.slice A a.length d, .slice A2 b.length d2] w fun e w' => e = .returned (.bool (decide (a = b))) ∧ Fr [] w w') := Lib.hid (fun w f => equal_any a b (fun _ => True) (fun _ => True) A A2 d d2 w (HA.out.fr fun k _ hk => ⟨trivial, f.block k hk (by simp)⟩) (HB.out.fr fun k _ hk => ⟨trivial, f.block k hk (by simp)⟩))
  clear ha hb
  go_region_held3 (fun w' => w'.cell? ⟨sb, 3, none⟩ = some (.slice A a.length d) ∧ w'.cell? ⟨fb, i, none⟩ = some (.slice A2 b.length d2)) (first | exact ⟨k1, k2⟩ | go_keep)
    ((go_at_call 51; refine (HC.out _ ((Fr.refl [] wr).drew)).mono ?_; rintro e w4 ⟨rfl, f4⟩; have F4 := ((Fr.refl [] wr).drew).trans' f4; have k1 : w4.cell? ⟨sb, 3, none⟩ = some (.slice A a.length d) := (World.cell?_of_block (F4.block sb hsl (by simp))).trans hk; have k2 : w4.cell? ⟨fb, i, none⟩ = some (.slice A2 b.length d2) := (World.cell?_of_block (F4.block fb hfl (by simp))).trans hf))
  all_goals
    refine hQ _ _ _ _ _ _ _ _ _ ⟨F4, ?_⟩
    rfl
end Go.Proofs.Ytekfbafljilchaa
