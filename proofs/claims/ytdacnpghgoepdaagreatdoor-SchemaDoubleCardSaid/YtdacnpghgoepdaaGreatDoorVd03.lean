/- The reckoner and what it is asked: part 4. -/
import Derived.Test.YtdacnpghgoepdaaGreatDoorProg
import Derived.KernelRfl
import Derived.Test.YtdacnpghgoepdaaGreatDoorVd02
/- The tables of the program, and that they are the program's. (By program.) -/
namespace Go.Vd
open Go.Proofs
set_option maxRecDepth 100000
/-- The zero value of a type. -/
def zeroOf (i : TypeInfo) : Value := match i.zero with
  | some z => z
  | none => undef
noncomputable def ty1 : TI := ⟨Tryz.t1.desc, 1, 8, zeroOf Tryz.t1, false⟩
noncomputable def ty2 : TI := ⟨Tryz.t2.desc, 1, 8, zeroOf Tryz.t2, false⟩
noncomputable def ty3 : TI := ⟨Tryz.t3.desc, 1, 8, zeroOf Tryz.t3, false⟩
noncomputable def ty4 : TI := ⟨Tryz.t4.desc, 1, 1, zeroOf Tryz.t4, false⟩
noncomputable def ty5 : TI := ⟨Tryz.t5.desc, 1, 1, zeroOf Tryz.t5, false⟩
noncomputable def ty6 : TI := ⟨Tryz.t5.desc, 1, 1, zeroOf Tryz.t6, false⟩
noncomputable def ty7 : TI := ⟨Tryz.t7.desc, 4, 24, zeroOf Tryz.t7, true⟩
noncomputable def ty8 : TI := ⟨Tryz.t7.desc, 4, 24, zeroOf Tryz.t8, true⟩
noncomputable def ty9 : TI := ⟨Tryz.t9.desc, 1, 16, zeroOf Tryz.t9, false⟩
noncomputable def ty10 : TI := ⟨Tryz.t9.desc, 1, 16, zeroOf Tryz.t10, false⟩
noncomputable def ty11 : TI := ⟨Tryz.t9.desc, 1, 16, zeroOf Tryz.t11, false⟩
noncomputable def ty12 : TI := ⟨Tryz.t12.desc, 1, 8, zeroOf Tryz.t12, false⟩
noncomputable def ty13 : TI := ⟨Tryz.t13.desc, 2, 24, zeroOf Tryz.t13, false⟩
noncomputable def ty14 : TI := ⟨Tryz.t13.desc, 2, 24, zeroOf Tryz.t14, false⟩
noncomputable def ty15 : TI := ⟨Tryz.t15.desc, 1, 8, zeroOf Tryz.t15, false⟩
noncomputable def ty16 : TI := ⟨Tryz.t16.desc, 1, 8, zeroOf Tryz.t16, false⟩
noncomputable def ty17 : TI := ⟨Tryz.t17.desc, 1, 8, zeroOf Tryz.t17, false⟩
noncomputable def ty18 : TI := ⟨Tryz.t18.desc, 1, 8, zeroOf Tryz.t18, false⟩
noncomputable def ty19 : TI := ⟨Tryz.t18.desc, 1, 8, zeroOf Tryz.t19, false⟩
noncomputable def ty20 : TI := ⟨Tryz.t20.desc, 1, 16, zeroOf Tryz.t20, false⟩
noncomputable def ty21 : TI := ⟨Tryz.t21.desc, 1, 4, zeroOf Tryz.t21, false⟩
noncomputable def ty22 : TI := ⟨Tryz.t22.desc, 1, 24, zeroOf Tryz.t22, false⟩
noncomputable def ty24 : TI := ⟨Tryz.t24.desc, 1, 8, zeroOf Tryz.t24, false⟩
noncomputable def ty25 : TI := ⟨Tryz.t25.desc, 1, 8, zeroOf Tryz.t25, false⟩
noncomputable def ty26 : TI := ⟨Tryz.t26.desc, 1, 24, zeroOf Tryz.t26, false⟩
noncomputable def ty27 : TI := ⟨Tryz.t27.desc, 1, 8, zeroOf Tryz.t27, false⟩
noncomputable def ty28 : TI := ⟨Tryz.t2.desc, 1, 8, zeroOf Tryz.t28, false⟩
noncomputable def ty30 : TI := ⟨Tryz.t30.desc, 1, 8, zeroOf Tryz.t30, false⟩
noncomputable def ty31 : TI := ⟨Tryz.t31.desc, 1, 8, zeroOf Tryz.t31, false⟩
noncomputable def ty32 : TI := ⟨Tryz.t32.desc, 1, 24, zeroOf Tryz.t32, false⟩
noncomputable def ty33 : TI := ⟨Tryz.t33.desc, 12, 208, zeroOf Tryz.t33, true⟩
noncomputable def ty34 : TI := ⟨Tryz.t33.desc, 12, 208, zeroOf Tryz.t34, true⟩
noncomputable def ty36 : TI := ⟨Tryz.t36.desc, 1, 8, zeroOf Tryz.t36, false⟩
noncomputable def ty37 : TI := ⟨Tryz.t37.desc, 1, 8, zeroOf Tryz.t37, false⟩
noncomputable def ty38 : TI := ⟨Tryz.t38.desc, 1, 8, zeroOf Tryz.t38, false⟩
noncomputable def ty39 : TI := ⟨Tryz.t39.desc, 1, 24, zeroOf Tryz.t39, false⟩
noncomputable def ty40 : TI := ⟨Tryz.t40.desc, 16, 272, zeroOf Tryz.t40, true⟩
noncomputable def ty41 : TI := ⟨Tryz.t40.desc, 16, 272, zeroOf Tryz.t41, true⟩
noncomputable def ty42 : TI := ⟨Tryz.t42.desc, 1, 8, zeroOf Tryz.t42, false⟩
noncomputable def ty43 : TI := ⟨Tryz.t43.desc, 1, 8, zeroOf Tryz.t43, false⟩
noncomputable def ty44 : TI := ⟨Tryz.t44.desc, 1, 8, zeroOf Tryz.t44, false⟩
noncomputable def ty45 : TI := ⟨Tryz.t45.desc, 1, 8, zeroOf Tryz.t45, false⟩
noncomputable def ty46 : TI := ⟨Tryz.t46.desc, 1, 8, zeroOf Tryz.t46, false⟩
noncomputable def ty47 : TI := ⟨Tryz.t47.desc, 1, 8, zeroOf Tryz.t47, false⟩
noncomputable def ty49 : TI := ⟨Tryz.t49.desc, 1, 8, zeroOf Tryz.t49, false⟩
noncomputable def ty50 : TI := ⟨Tryz.t50.desc, 1, 8, zeroOf Tryz.t50, false⟩
noncomputable def ty51 : TI := ⟨Tryz.t51.desc, 1, 8, zeroOf Tryz.t51, false⟩
noncomputable def ty52 : TI := ⟨Tryz.t52.desc, 1, 24, zeroOf Tryz.t52, false⟩
noncomputable def ty53 : TI := ⟨Tryz.t53.desc, 2, 32, zeroOf Tryz.t53, true⟩
noncomputable def ty54 : TI := ⟨Tryz.t53.desc, 2, 32, zeroOf Tryz.t54, true⟩
noncomputable def ty55 : TI := ⟨Tryz.t55.desc, 1, 8, zeroOf Tryz.t55, false⟩
noncomputable def ty56 : TI := ⟨Tryz.t56.desc, 1, 8, zeroOf Tryz.t56, false⟩
noncomputable def ty57 : TI := ⟨Tryz.t57.desc, 1, 8, zeroOf Tryz.t57, false⟩
noncomputable def ty58 : TI := ⟨Tryz.t58.desc, 1, 8, zeroOf Tryz.t58, false⟩
noncomputable def ty59 : TI := ⟨Tryz.t59.desc, 1, 8, zeroOf Tryz.t59, false⟩
noncomputable def ty60 : TI := ⟨Tryz.t60.desc, 1, 8, zeroOf Tryz.t60, false⟩
noncomputable def ty61 : TI := ⟨Tryz.t61.desc, 1, 8, zeroOf Tryz.t61, false⟩
noncomputable def ty62 : TI := ⟨Tryz.t62.desc, 1, 8, zeroOf Tryz.t62, false⟩
noncomputable def ty64 : TI := ⟨Tryz.t64.desc, 1, 8, zeroOf Tryz.t64, false⟩
noncomputable def ty65 : TI := ⟨Tryz.t65.desc, 1, 8, zeroOf Tryz.t65, false⟩
noncomputable def ty66 : TI := ⟨Tryz.t66.desc, 1, 8, zeroOf Tryz.t66, false⟩
noncomputable def ty67 : TI := ⟨Tryz.t67.desc, 2, 16, zeroOf Tryz.t67, true⟩
noncomputable def ty68 : TI := ⟨Tryz.t67.desc, 2, 16, zeroOf Tryz.t68, true⟩
noncomputable def ty70 : TI := ⟨Tryz.t70.desc, 0, 0, zeroOf Tryz.t70, true⟩
noncomputable def ty73 : TI := ⟨Tryz.t73.desc, 1, 8, zeroOf Tryz.t73, false⟩
noncomputable def ty74 : TI := ⟨Tryz.t74.desc, 4, 24, zeroOf Tryz.t74, true⟩
noncomputable def ty75 : TI := ⟨Tryz.t74.desc, 4, 24, zeroOf Tryz.t75, true⟩
noncomputable def ty76 : TI := ⟨Tryz.t76.desc, 1, 8, zeroOf Tryz.t76, false⟩
noncomputable def ty77 : TI := ⟨Tryz.t77.desc, 1, 8, zeroOf Tryz.t77, false⟩
noncomputable def ty78 : TI := ⟨Tryz.t78.desc, 1, 24, zeroOf Tryz.t78, false⟩
noncomputable def ty79 : TI := ⟨Tryz.t79.desc, 1, 8, zeroOf Tryz.t79, false⟩
noncomputable def ty80 : TI := ⟨Tryz.t80.desc, 1, 24, zeroOf Tryz.t80, false⟩
noncomputable def ty81 : TI := ⟨Tryz.t81.desc, 4, 72, zeroOf Tryz.t81, true⟩
noncomputable def ty82 : TI := ⟨Tryz.t81.desc, 4, 72, zeroOf Tryz.t82, true⟩
noncomputable def ty83 : TI := ⟨Tryz.t83.desc, 1, 8, zeroOf Tryz.t83, false⟩
noncomputable def ty84 : TI := ⟨Tryz.t84.desc, 3, 32, zeroOf Tryz.t84, true⟩
noncomputable def ty85 : TI := ⟨Tryz.t84.desc, 3, 32, zeroOf Tryz.t85, true⟩
noncomputable def ty86 : TI := ⟨Tryz.t86.desc, 1, 8, zeroOf Tryz.t86, false⟩
noncomputable def ty87 : TI := ⟨Tryz.t87.desc, 1, 24, zeroOf Tryz.t87, false⟩
noncomputable def ty88 : TI := ⟨Tryz.t87.desc, 1, 24, zeroOf Tryz.t88, false⟩
noncomputable def ty90 : TI := ⟨Tryz.t90.desc, 1, 8, zeroOf Tryz.t90, false⟩
noncomputable def ty91 : TI := ⟨Tryz.t91.desc, 1, 24, zeroOf Tryz.t91, false⟩
noncomputable def ty92 : TI := ⟨Tryz.t91.desc, 1, 24, zeroOf Tryz.t92, false⟩
noncomputable def ty93 : TI := ⟨Tryz.t93.desc, 2, 32, zeroOf Tryz.t93, true⟩
noncomputable def ty94 : TI := ⟨Tryz.t93.desc, 2, 32, zeroOf Tryz.t94, true⟩
noncomputable def ty95 : TI := ⟨Tryz.t95.desc, 11, 144, zeroOf Tryz.t95, true⟩
noncomputable def ty96 : TI := ⟨Tryz.t95.desc, 11, 144, zeroOf Tryz.t96, true⟩
noncomputable def ty98 : TI := ⟨Tryz.t98.desc, 1, 8, zeroOf Tryz.t98, false⟩
noncomputable def ty99 : TI := ⟨Tryz.t99.desc, 1, 8, zeroOf Tryz.t99, false⟩
noncomputable def ty100 : TI := ⟨Tryz.t100.desc, 1, 8, zeroOf Tryz.t100, false⟩
noncomputable def ty101 : TI := ⟨Tryz.t101.desc, 1, 8, zeroOf Tryz.t101, false⟩
noncomputable def ty102 : TI := ⟨Tryz.t102.desc, 1, 8, zeroOf Tryz.t102, false⟩
noncomputable def ty103 : TI := ⟨Tryz.t103.desc, 1, 8, zeroOf Tryz.t103, false⟩
noncomputable def ty104 : TI := ⟨Tryz.t104.desc, 1, 8, zeroOf Tryz.t104, false⟩
noncomputable def ty105 : TI := ⟨Tryz.t105.desc, 1, 24, zeroOf Tryz.t105, false⟩
noncomputable def ty107 : TI := ⟨Tryz.t107.desc, 1, 8, zeroOf Tryz.t107, false⟩
noncomputable def ty108 : TI := ⟨Tryz.t108.desc, 1, 8, zeroOf Tryz.t108, false⟩
noncomputable def ty109 : TI := ⟨Tryz.t109.desc, 1, 24, zeroOf Tryz.t109, true⟩
noncomputable def ty110 : TI := ⟨Tryz.t109.desc, 1, 24, zeroOf Tryz.t110, true⟩
noncomputable def ty111 : TI := ⟨Tryz.t111.desc, 14, 200, zeroOf Tryz.t111, true⟩
noncomputable def ty112 : TI := ⟨Tryz.t111.desc, 14, 200, zeroOf Tryz.t112, true⟩
noncomputable def ty114 : TI := ⟨Tryz.t114.desc, 1, 8, zeroOf Tryz.t114, false⟩
noncomputable def ty115 : TI := ⟨Tryz.t115.desc, 1, 8, zeroOf Tryz.t115, false⟩
noncomputable def ty117 : TI := ⟨Tryz.t117.desc, 1, 8, zeroOf Tryz.t117, false⟩
noncomputable def ty118 : TI := ⟨Tryz.t118.desc, 1, 8, zeroOf Tryz.t118, false⟩
noncomputable def ty119 : TI := ⟨Tryz.t119.desc, 2, 24, zeroOf Tryz.t119, true⟩
noncomputable def ty120 : TI := ⟨Tryz.t119.desc, 2, 24, zeroOf Tryz.t120, true⟩
noncomputable def ty121 : TI := ⟨Tryz.t121.desc, 1, 8, zeroOf Tryz.t121, false⟩
noncomputable def ty122 : TI := ⟨Tryz.t122.desc, 1, 8, zeroOf Tryz.t122, false⟩
noncomputable def ty123 : TI := ⟨Tryz.t123.desc, 1, 8, zeroOf Tryz.t123, false⟩
noncomputable def ty124 : TI := ⟨Tryz.t124.desc, 1, 8, zeroOf Tryz.t124, false⟩
noncomputable def ty125 : TI := ⟨Tryz.t125.desc, 3, 48, zeroOf Tryz.t125, false⟩
noncomputable def ty126 : TI := ⟨Tryz.t126.desc, 1, 8, zeroOf Tryz.t126, false⟩
noncomputable def ty127 : TI := ⟨Tryz.t127.desc, 1, 8, zeroOf Tryz.t127, false⟩
noncomputable def ty128 : TI := ⟨Tryz.t128.desc, 1, 8, zeroOf Tryz.t128, false⟩
noncomputable def ty130 : TI := ⟨Tryz.t130.desc, 1, 8, zeroOf Tryz.t130, false⟩
noncomputable def ty131 : TI := ⟨Tryz.t131.desc, 1, 8, zeroOf Tryz.t131, false⟩
noncomputable def ty132 : TI := ⟨Tryz.t132.desc, 1, 8, zeroOf Tryz.t132, false⟩
noncomputable def ty134 : TI := ⟨Tryz.t134.desc, 1, 8, zeroOf Tryz.t134, false⟩
noncomputable def ty136 : TI := ⟨Tryz.t136.desc, 1, 8, zeroOf Tryz.t136, false⟩
noncomputable def ty137 : TI := ⟨Tryz.t137.desc, 1, 8, zeroOf Tryz.t137, false⟩
noncomputable def ty138 : TI := ⟨Tryz.t138.desc, 2, 40, zeroOf Tryz.t138, true⟩
noncomputable def ty139 : TI := ⟨Tryz.t139.desc, 1, 24, zeroOf Tryz.t139, false⟩
noncomputable def ty140 : TI := ⟨Tryz.t140.desc, 1, 8, zeroOf Tryz.t140, false⟩
noncomputable def ty142 : TI := ⟨Tryz.t142.desc, 1, 8, zeroOf Tryz.t142, false⟩
noncomputable def ty143 : TI := ⟨Tryz.t143.desc, 2, 24, zeroOf Tryz.t143, true⟩
noncomputable def ty144 : TI := ⟨Tryz.t143.desc, 2, 24, zeroOf Tryz.t144, true⟩
noncomputable def ty145 : TI := ⟨Tryz.t145.desc, 1, 8, zeroOf Tryz.t145, false⟩
noncomputable def ty146 : TI := ⟨Tryz.t146.desc, 1, 8, zeroOf Tryz.t146, false⟩
noncomputable def ty147 : TI := ⟨Tryz.t147.desc, 1, 8, zeroOf Tryz.t147, false⟩
noncomputable def ty148 : TI := ⟨Tryz.t148.desc, 1, 8, zeroOf Tryz.t148, false⟩
noncomputable def ty149 : TI := ⟨Tryz.t149.desc, 1, 8, zeroOf Tryz.t149, false⟩
noncomputable def ty150 : TI := ⟨Tryz.t150.desc, 1, 8, zeroOf Tryz.t150, false⟩
noncomputable def ty151 : TI := ⟨Tryz.t151.desc, 1, 8, zeroOf Tryz.t151, false⟩
noncomputable def ty152 : TI := ⟨Tryz.t152.desc, 1, 8, zeroOf Tryz.t152, false⟩
noncomputable def ty153 : TI := ⟨Tryz.t153.desc, 1, 8, zeroOf Tryz.t153, false⟩
noncomputable def ty154 : TI := ⟨Tryz.t154.desc, 1, 8, zeroOf Tryz.t154, false⟩
noncomputable def ty155 : TI := ⟨Tryz.t155.desc, 1, 8, zeroOf Tryz.t155, false⟩
noncomputable def ty156 : TI := ⟨Tryz.t156.desc, 2, 24, zeroOf Tryz.t156, true⟩
noncomputable def ty157 : TI := ⟨Tryz.t156.desc, 2, 24, zeroOf Tryz.t157, true⟩
noncomputable def ty158 : TI := ⟨Tryz.t158.desc, 1, 8, zeroOf Tryz.t158, false⟩
noncomputable def ty160 : TI := ⟨Tryz.t160.desc, 1, 8, zeroOf Tryz.t160, false⟩
noncomputable def ty161 : TI := ⟨Tryz.t161.desc, 1, 8, zeroOf Tryz.t161, false⟩
noncomputable def ty162 : TI := ⟨Tryz.t162.desc, 1, 8, zeroOf Tryz.t162, false⟩
noncomputable def ty163 : TI := ⟨Tryz.t163.desc, 1, 8, zeroOf Tryz.t163, false⟩
noncomputable def ty164 : TI := ⟨Tryz.t164.desc, 1, 8, zeroOf Tryz.t164, false⟩
noncomputable def ty165 : TI := ⟨Tryz.t165.desc, 1, 8, zeroOf Tryz.t165, false⟩
noncomputable def ty166 : TI := ⟨Tryz.t166.desc, 2, 16, zeroOf Tryz.t166, false⟩
noncomputable def ty167 : TI := ⟨Tryz.t167.desc, 1, 24, zeroOf Tryz.t167, false⟩
noncomputable def ty168 : TI := ⟨Tryz.t168.desc, 1, 8, zeroOf Tryz.t168, false⟩
noncomputable def ty169 : TI := ⟨Tryz.t169.desc, 1, 8, zeroOf Tryz.t169, false⟩
noncomputable def ty170 : TI := ⟨Tryz.t170.desc, 1, 8, zeroOf Tryz.t170, false⟩
noncomputable def ty171 : TI := ⟨Tryz.t171.desc, 1, 8, zeroOf Tryz.t171, false⟩
noncomputable def ty172 : TI := ⟨Tryz.t172.desc, 4, 56, zeroOf Tryz.t172, true⟩
noncomputable def ty173 : TI := ⟨Tryz.t172.desc, 4, 56, zeroOf Tryz.t173, true⟩
noncomputable def ty174 : TI := ⟨Tryz.t174.desc, 1, 8, zeroOf Tryz.t174, false⟩
noncomputable def ty175 : TI := ⟨Tryz.t175.desc, 1, 16, zeroOf Tryz.t175, false⟩
noncomputable def ty176 : TI := ⟨Tryz.t175.desc, 1, 16, zeroOf Tryz.t176, false⟩
noncomputable def ty178 : TI := ⟨Tryz.t178.desc, 1, 8, zeroOf Tryz.t178, false⟩
noncomputable def ty179 : TI := ⟨Tryz.t179.desc, 1, 8, zeroOf Tryz.t179, false⟩
noncomputable def ty180 : TI := ⟨Tryz.t180.desc, 1, 8, zeroOf Tryz.t180, false⟩
noncomputable def ty181 : TI := ⟨Tryz.t181.desc, 1, 8, zeroOf Tryz.t181, false⟩
noncomputable def ty183 : TI := ⟨Tryz.t183.desc, 1, 8, zeroOf Tryz.t183, false⟩
noncomputable def ty184 : TI := ⟨Tryz.t184.desc, 1, 8, zeroOf Tryz.t184, false⟩
noncomputable def ty185 : TI := ⟨Tryz.t185.desc, 2, 32, zeroOf Tryz.t185, true⟩
noncomputable def ty186 : TI := ⟨Tryz.t185.desc, 2, 32, zeroOf Tryz.t186, true⟩
noncomputable def ty187 : TI := ⟨Tryz.t187.desc, 1, 8, zeroOf Tryz.t187, false⟩
noncomputable def ty188 : TI := ⟨Tryz.t188.desc, 1, 8, zeroOf Tryz.t188, false⟩
noncomputable def ty189 : TI := ⟨Tryz.t189.desc, 1, 8, zeroOf Tryz.t189, false⟩
noncomputable def ty190 : TI := ⟨Tryz.t190.desc, 1, 8, zeroOf Tryz.t190, false⟩
noncomputable def ty191 : TI := ⟨Tryz.t191.desc, 1, 8, zeroOf Tryz.t191, false⟩
noncomputable def ty192 : TI := ⟨Tryz.t192.desc, 1, 8, zeroOf Tryz.t192, false⟩
noncomputable def ty194 : TI := ⟨Tryz.t194.desc, 1, 8, zeroOf Tryz.t194, false⟩
noncomputable def ty195 : TI := ⟨Tryz.t195.desc, 1, 8, zeroOf Tryz.t195, false⟩
noncomputable def ty196 : TI := ⟨Tryz.t196.desc, 1, 8, zeroOf Tryz.t196, false⟩
noncomputable def ty197 : TI := ⟨Tryz.t197.desc, 1, 8, zeroOf Tryz.t197, false⟩
noncomputable def ty198 : TI := ⟨Tryz.t198.desc, 1, 24, zeroOf Tryz.t198, false⟩
noncomputable def ty199 : TI := ⟨Tryz.t199.desc, 1, 8, zeroOf Tryz.t199, false⟩
noncomputable def ty200 : TI := ⟨Tryz.t200.desc, 1, 8, zeroOf Tryz.t200, false⟩
noncomputable def ty201 : TI := ⟨Tryz.t201.desc, 2, 32, zeroOf Tryz.t201, true⟩
noncomputable def ty202 : TI := ⟨Tryz.t201.desc, 2, 32, zeroOf Tryz.t202, true⟩
noncomputable def ty203 : TI := ⟨Tryz.t203.desc, 1, 8, zeroOf Tryz.t203, false⟩
noncomputable def ty204 : TI := ⟨Tryz.t204.desc, 1, 8, zeroOf Tryz.t204, false⟩
noncomputable def ty205 : TI := ⟨Tryz.t205.desc, 256, 256, zeroOf Tryz.t205, false⟩
noncomputable def ty206 : TI := ⟨Tryz.t205.desc, 256, 256, zeroOf Tryz.t206, false⟩
noncomputable def ty208 : TI := ⟨Tryz.t208.desc, 1, 8, zeroOf Tryz.t208, false⟩
noncomputable def ty210 : TI := ⟨Tryz.t210.desc, 1, 8, zeroOf Tryz.t210, false⟩
noncomputable def ty211 : TI := ⟨Tryz.t211.desc, 1, 8, zeroOf Tryz.t211, false⟩
noncomputable def ty212 : TI := ⟨Tryz.t212.desc, 1, 8, zeroOf Tryz.t212, false⟩
noncomputable def ty213 : TI := ⟨Tryz.t213.desc, 1, 8, zeroOf Tryz.t213, false⟩
noncomputable def ty215 : TI := ⟨Tryz.t215.desc, 2, 24, zeroOf Tryz.t215, true⟩
noncomputable def ty216 : TI := ⟨Tryz.t215.desc, 2, 24, zeroOf Tryz.t216, true⟩
noncomputable def ty217 : TI := ⟨Tryz.t217.desc, 1, 8, zeroOf Tryz.t217, false⟩
noncomputable def ty218 : TI := ⟨Tryz.t218.desc, 1, 8, zeroOf Tryz.t218, false⟩
noncomputable def ty219 : TI := ⟨Tryz.t219.desc, 1, 8, zeroOf Tryz.t219, false⟩
noncomputable def ty220 : TI := ⟨Tryz.t220.desc, 1, 8, zeroOf Tryz.t220, false⟩
noncomputable def ty221 : TI := ⟨Tryz.t221.desc, 1, 8, zeroOf Tryz.t221, false⟩
noncomputable def ty222 : TI := ⟨Tryz.t222.desc, 1, 8, zeroOf Tryz.t222, false⟩
noncomputable def ty223 : TI := ⟨Tryz.t223.desc, 3, 3, zeroOf Tryz.t223, false⟩
noncomputable def ty224 : TI := ⟨Tryz.t224.desc, 1, 8, zeroOf Tryz.t224, false⟩
noncomputable def ty225 : TI := ⟨Tryz.t225.desc, 1, 8, zeroOf Tryz.t225, false⟩
noncomputable def ty227 : TI := ⟨Tryz.t227.desc, 1, 8, zeroOf Tryz.t227, false⟩
noncomputable def ty228 : TI := ⟨Tryz.t228.desc, 1, 8, zeroOf Tryz.t228, false⟩
noncomputable def ty229 : TI := ⟨Tryz.t229.desc, 1, 8, zeroOf Tryz.t229, false⟩
noncomputable def ty230 : TI := ⟨Tryz.t230.desc, 1, 8, zeroOf Tryz.t230, false⟩
noncomputable def ty231 : TI := ⟨Tryz.t231.desc, 1, 8, zeroOf Tryz.t231, false⟩
noncomputable def ty232 : TI := ⟨Tryz.t232.desc, 1, 8, zeroOf Tryz.t232, false⟩
noncomputable def ty233 : TI := ⟨Tryz.t233.desc, 1, 8, zeroOf Tryz.t233, false⟩
noncomputable def ty234 : TI := ⟨Tryz.t234.desc, 1, 8, zeroOf Tryz.t234, false⟩
noncomputable def ty235 : TI := ⟨Tryz.t235.desc, 1, 8, zeroOf Tryz.t235, false⟩
noncomputable def ty236 : TI := ⟨Tryz.t236.desc, 1, 8, zeroOf Tryz.t236, false⟩
noncomputable def ty237 : TI := ⟨Tryz.t2.desc, 1, 8, zeroOf Tryz.t237, false⟩
noncomputable def ty239 : TI := ⟨Tryz.t239.desc, 1, 8, zeroOf Tryz.t239, false⟩
noncomputable def ty240 : TI := ⟨Tryz.t240.desc, 1, 8, zeroOf Tryz.t240, false⟩
noncomputable def ty241 : TI := ⟨Tryz.t241.desc, 1, 8, zeroOf Tryz.t241, false⟩
noncomputable def ty242 : TI := ⟨Tryz.t242.desc, 1, 8, zeroOf Tryz.t242, false⟩
noncomputable def ty243 : TI := ⟨Tryz.t243.desc, 1, 8, zeroOf Tryz.t243, false⟩
noncomputable def ty244 : TI := ⟨Tryz.t244.desc, 1, 4, zeroOf Tryz.t244, false⟩
noncomputable def ty245 : TI := ⟨Tryz.t245.desc, 1, 8, zeroOf Tryz.t245, false⟩
noncomputable def ty246 : TI := ⟨Tryz.t246.desc, 1, 8, zeroOf Tryz.t246, false⟩
noncomputable def ty247 : TI := ⟨Tryz.t247.desc, 1, 8, zeroOf Tryz.t247, false⟩
noncomputable def ty248 : TI := ⟨Tryz.t248.desc, 1, 8, zeroOf Tryz.t248, false⟩
noncomputable def ty249 : TI := ⟨Tryz.t249.desc, 1, 8, zeroOf Tryz.t249, false⟩
noncomputable def ty251 : TI := ⟨Tryz.t251.desc, 1, 8, zeroOf Tryz.t251, false⟩
noncomputable def ty252 : TI := ⟨Tryz.t252.desc, 1, 8, zeroOf Tryz.t252, false⟩
noncomputable def ty253 : TI := ⟨Tryz.t2.desc, 1, 8, zeroOf Tryz.t253, false⟩
noncomputable def ty255 : TI := ⟨Tryz.t255.desc, 1, 8, zeroOf Tryz.t255, false⟩
noncomputable def ty256 : TI := ⟨Tryz.t256.desc, 1, 8, zeroOf Tryz.t256, false⟩
noncomputable def ty257 : TI := ⟨Tryz.t257.desc, 1, 8, zeroOf Tryz.t257, false⟩
noncomputable def ty258 : TI := ⟨Tryz.t258.desc, 1, 8, zeroOf Tryz.t258, false⟩
noncomputable def ty259 : TI := ⟨Tryz.t259.desc, 1, 8, zeroOf Tryz.t259, false⟩
noncomputable def ty261 : TI := ⟨Tryz.t261.desc, 1, 8, zeroOf Tryz.t261, false⟩
noncomputable def ty262 : TI := ⟨Tryz.t262.desc, 1, 8, zeroOf Tryz.t262, false⟩
noncomputable def ty263 : TI := ⟨Tryz.t263.desc, 1, 8, zeroOf Tryz.t263, false⟩
noncomputable def ty265 : TI := ⟨Tryz.t265.desc, 1, 8, zeroOf Tryz.t265, false⟩
noncomputable def ty266 : TI := ⟨Tryz.t266.desc, 1, 8, zeroOf Tryz.t266, false⟩
noncomputable def ty267 : TI := ⟨Tryz.t267.desc, 1, 8, zeroOf Tryz.t267, false⟩
noncomputable def ty268 : TI := ⟨Tryz.t12.desc, 1, 8, zeroOf Tryz.t268, false⟩
noncomputable def ty269 : TI := ⟨Tryz.t269.desc, 1, 8, zeroOf Tryz.t269, false⟩
noncomputable def ty270 : TI := ⟨Tryz.t270.desc, 1, 8, zeroOf Tryz.t270, false⟩
noncomputable def ty271 : TI := ⟨Tryz.t271.desc, 1, 8, zeroOf Tryz.t271, false⟩
noncomputable def ty272 : TI := ⟨Tryz.t272.desc, 1, 8, zeroOf Tryz.t272, false⟩
noncomputable def ty273 : TI := ⟨Tryz.t273.desc, 1, 8, zeroOf Tryz.t273, false⟩
noncomputable def ty274 : TI := ⟨Tryz.t274.desc, 1, 8, zeroOf Tryz.t274, false⟩
noncomputable def ty275 : TI := ⟨Tryz.t275.desc, 256, 256, zeroOf Tryz.t275, false⟩
noncomputable def ty276 : TI := ⟨Tryz.t276.desc, 2, 2, zeroOf Tryz.t276, true⟩
noncomputable def ty277 : TI := ⟨Tryz.t276.desc, 2, 2, zeroOf Tryz.t277, true⟩
noncomputable def ty278 : TI := ⟨Tryz.t278.desc, 32, 32, zeroOf Tryz.t278, false⟩
noncomputable def ty279 : TI := ⟨Tryz.t279.desc, 1, 8, zeroOf Tryz.t279, false⟩
noncomputable def ty280 : TI := ⟨Tryz.t280.desc, 1, 8, zeroOf Tryz.t280, false⟩
noncomputable def ty281 : TI := ⟨Tryz.t281.desc, 1, 8, zeroOf Tryz.t281, false⟩
noncomputable def ty283 : TI := ⟨Tryz.t283.desc, 1, 8, zeroOf Tryz.t283, false⟩
noncomputable def ty284 : TI := ⟨Tryz.t284.desc, 3, 48, zeroOf Tryz.t284, false⟩
noncomputable def ty285 : TI := ⟨Tryz.t284.desc, 3, 48, zeroOf Tryz.t285, false⟩
noncomputable def ty286 : TI := ⟨Tryz.t286.desc, 1, 8, zeroOf Tryz.t286, false⟩
noncomputable def ty287 : TI := ⟨Tryz.t287.desc, 1, 8, zeroOf Tryz.t287, false⟩
noncomputable def ty288 : TI := ⟨Tryz.t288.desc, 1, 8, zeroOf Tryz.t288, false⟩
noncomputable def ty290 : TI := ⟨Tryz.t290.desc, 1, 8, zeroOf Tryz.t290, false⟩
noncomputable def ty291 : TI := ⟨Tryz.t291.desc, 1, 8, zeroOf Tryz.t291, false⟩
noncomputable def ty292 : TI := ⟨Tryz.t292.desc, 1, 8, zeroOf Tryz.t292, false⟩
noncomputable def ty293 : TI := ⟨Tryz.t293.desc, 1, 16, zeroOf Tryz.t293, true⟩
noncomputable def ty294 : TI := ⟨Tryz.t293.desc, 1, 16, zeroOf Tryz.t294, true⟩
noncomputable def ty295 : TI := ⟨Tryz.t295.desc, 1, 8, zeroOf Tryz.t295, false⟩
noncomputable def ty296 : TI := ⟨Tryz.t296.desc, 1, 8, zeroOf Tryz.t296, false⟩
noncomputable def ty297 : TI := ⟨Tryz.t297.desc, 24, 24, zeroOf Tryz.t297, false⟩
noncomputable def ty298 : TI := ⟨Tryz.t298.desc, 1, 8, zeroOf Tryz.t298, false⟩
noncomputable def ty300 : TI := ⟨Tryz.t300.desc, 1, 8, zeroOf Tryz.t300, false⟩
noncomputable def ty301 : TI := ⟨Tryz.t301.desc, 1, 8, zeroOf Tryz.t301, false⟩
noncomputable def ty302 : TI := ⟨Tryz.t302.desc, 20, 160, zeroOf Tryz.t302, false⟩
noncomputable def ty303 : TI := ⟨Tryz.t303.desc, 65, 65, zeroOf Tryz.t303, false⟩
noncomputable def ty304 : TI := ⟨Tryz.t304.desc, 32, 32, zeroOf Tryz.t304, false⟩
noncomputable def ty305 : TI := ⟨Tryz.t305.desc, 64, 64, zeroOf Tryz.t305, false⟩
noncomputable def ty306 : TI := ⟨Tryz.t306.desc, 4, 40, zeroOf Tryz.t306, false⟩
noncomputable def ty307 : TI := ⟨Tryz.t306.desc, 4, 40, zeroOf Tryz.t307, false⟩
noncomputable def ty308 : TI := ⟨Tryz.t308.desc, 0, 0, zeroOf Tryz.t308, false⟩
noncomputable def ty309 : TI := ⟨Tryz.t309.desc, 0, 0, zeroOf Tryz.t309, false⟩
noncomputable def ty310 : TI := ⟨Tryz.t309.desc, 0, 0, zeroOf Tryz.t310, false⟩
noncomputable def ty311 : TI := ⟨Tryz.t311.desc, 1, 8, zeroOf Tryz.t311, false⟩
noncomputable def ty312 : TI := ⟨Tryz.t5.desc, 1, 1, zeroOf Tryz.t312, false⟩
noncomputable def ty313 : TI := ⟨Tryz.t5.desc, 1, 1, zeroOf Tryz.t313, false⟩
noncomputable def ty314 : TI := ⟨Tryz.t314.desc, 1, 8, zeroOf Tryz.t314, false⟩
noncomputable def ty315 : TI := ⟨Tryz.t21.desc, 1, 4, zeroOf Tryz.t315, false⟩
noncomputable def ty316 : TI := ⟨Tryz.t21.desc, 1, 4, zeroOf Tryz.t316, false⟩
noncomputable def ty317 : TI := ⟨Tryz.t317.desc, 11, 48, zeroOf Tryz.t317, false⟩
noncomputable def ty318 : TI := ⟨Tryz.t317.desc, 11, 48, zeroOf Tryz.t318, false⟩
noncomputable def tyT : T TI := (.node none (.node (some ty1) (.node (some ty3) (.node (some ty7) (.node (some ty15) (.node (some ty31) (.node none (.node (some ty127) (.node (some ty255) .nil .nil) .nil) (.node (some ty191) .nil .nil)) (.node (some ty95) (.node none (.node (some ty287) .nil .nil) .nil) (.node (some ty223) .nil .nil))) (.node (some ty47) (.node (some ty79) (.node (some ty143) (.node (some ty271) .nil .nil) .nil) .nil) (.node (some ty111) (.node (some ty175) (.node (some ty303) .nil .nil) .nil) (.node (some ty239) .nil .nil)))) (.node none (.node (some ty39) (.node none (.node none (.node (some ty263) .nil .nil) .nil) (.node (some ty199) .nil .nil)) (.node (some ty103) (.node (some ty167) (.node (some ty295) .nil .nil) .nil) (.node (some ty231) .nil .nil))) (.node (some ty55) (.node (some ty87) (.node (some ty151) (.node (some ty279) .nil .nil) .nil) (.node (some ty215) .nil .nil)) (.node (some ty119) (.node (some ty183) (.node (some ty311) .nil .nil) .nil) (.node (some ty247) .nil .nil))))) (.node (some ty11) (.node (some ty19) (.node none (.node (some ty67) (.node (some ty131) (.node (some ty259) .nil .nil) .nil) (.node (some ty195) .nil .nil)) (.node (some ty99) (.node (some ty163) (.node (some ty291) .nil .nil) .nil) (.node (some ty227) .nil .nil))) (.node (some ty51) (.node (some ty83) (.node (some ty147) (.node (some ty275) .nil .nil) .nil) (.node (some ty211) .nil .nil)) (.node (some ty115) (.node (some ty179) (.node (some ty307) .nil .nil) .nil) (.node (some ty243) .nil .nil)))) (.node (some ty27) (.node (some ty43) (.node (some ty75) (.node (some ty139) (.node (some ty267) .nil .nil) .nil) (.node (some ty203) .nil .nil)) (.node (some ty107) (.node (some ty171) .nil .nil) (.node (some ty235) .nil .nil))) (.node (some ty59) (.node (some ty91) (.node (some ty155) (.node (some ty283) .nil .nil) .nil) (.node (some ty219) .nil .nil)) (.node (some ty123) (.node (some ty187) (.node (some ty315) .nil .nil) .nil) (.node (some ty251) .nil .nil)))))) (.node (some ty5) (.node (some ty9) (.node (some ty17) (.node (some ty33) (.node (some ty65) (.node none (.node (some ty257) .nil .nil) .nil) .nil) (.node none (.node (some ty161) .nil .nil) (.node (some ty225) .nil .nil))) (.node (some ty49) (.node (some ty81) (.node (some ty145) (.node (some ty273) .nil .nil) .nil) .nil) (.node none (.node none (.node (some ty305) .nil .nil) .nil) (.node (some ty241) .nil .nil)))) (.node (some ty25) (.node (some ty41) (.node (some ty73) (.node (some ty137) (.node (some ty265) .nil .nil) .nil) (.node (some ty201) .nil .nil)) (.node (some ty105) (.node (some ty169) (.node (some ty297) .nil .nil) .nil) (.node (some ty233) .nil .nil))) (.node (some ty57) (.node none (.node (some ty153) (.node (some ty281) .nil .nil) .nil) (.node (some ty217) .nil .nil)) (.node (some ty121) (.node (some ty185) (.node (some ty313) .nil .nil) .nil) (.node (some ty249) .nil .nil))))) (.node (some ty13) (.node (some ty21) (.node (some ty37) (.node none (.node none (.node (some ty261) .nil .nil) .nil) (.node (some ty197) .nil .nil)) (.node (some ty101) (.node (some ty165) (.node (some ty293) .nil .nil) .nil) (.node (some ty229) .nil .nil))) (.node (some ty53) (.node (some ty85) (.node (some ty149) (.node (some ty277) .nil .nil) .nil) (.node (some ty213) .nil .nil)) (.node (some ty117) (.node (some ty181) (.node (some ty309) .nil .nil) .nil) (.node (some ty245) .nil .nil)))) (.node none (.node (some ty45) (.node (some ty77) (.node none (.node (some ty269) .nil .nil) .nil) (.node (some ty205) .nil .nil)) (.node (some ty109) (.node (some ty173) (.node (some ty301) .nil .nil) .nil) (.node (some ty237) .nil .nil))) (.node (some ty61) (.node (some ty93) (.node (some ty157) (.node (some ty285) .nil .nil) .nil) (.node (some ty221) .nil .nil)) (.node (some ty125) (.node (some ty189) (.node (some ty317) .nil .nil) .nil) (.node (some ty253) .nil .nil))))))) (.node (some ty2) (.node (some ty4) (.node (some ty8) (.node (some ty16) (.node (some ty32) (.node (some ty64) (.node (some ty128) (.node (some ty256) .nil .nil) .nil) (.node (some ty192) .nil .nil)) (.node (some ty96) (.node (some ty160) (.node (some ty288) .nil .nil) .nil) (.node (some ty224) .nil .nil))) (.node none (.node (some ty80) (.node (some ty144) (.node (some ty272) .nil .nil) .nil) (.node (some ty208) .nil .nil)) (.node (some ty112) (.node (some ty176) (.node (some ty304) .nil .nil) .nil) (.node (some ty240) .nil .nil)))) (.node (some ty24) (.node (some ty40) (.node none (.node (some ty136) .nil .nil) (.node (some ty200) .nil .nil)) (.node (some ty104) (.node (some ty168) (.node (some ty296) .nil .nil) .nil) (.node (some ty232) .nil .nil))) (.node (some ty56) (.node (some ty88) (.node (some ty152) (.node (some ty280) .nil .nil) .nil) (.node (some ty216) .nil .nil)) (.node (some ty120) (.node (some ty184) (.node (some ty312) .nil .nil) .nil) (.node (some ty248) .nil .nil))))) (.node (some ty12) (.node (some ty20) (.node (some ty36) (.node (some ty68) (.node (some ty132) .nil .nil) (.node (some ty196) .nil .nil)) (.node (some ty100) (.node (some ty164) (.node (some ty292) .nil .nil) .nil) (.node (some ty228) .nil .nil))) (.node (some ty52) (.node (some ty84) (.node (some ty148) (.node (some ty276) .nil .nil) .nil) (.node (some ty212) .nil .nil)) (.node none (.node (some ty180) (.node (some ty308) .nil .nil) .nil) (.node (some ty244) .nil .nil)))) (.node (some ty28) (.node (some ty44) (.node (some ty76) (.node (some ty140) (.node (some ty268) .nil .nil) .nil) (.node (some ty204) .nil .nil)) (.node (some ty108) (.node (some ty172) (.node (some ty300) .nil .nil) .nil) (.node (some ty236) .nil .nil))) (.node (some ty60) (.node (some ty92) (.node (some ty156) (.node (some ty284) .nil .nil) .nil) (.node (some ty220) .nil .nil)) (.node (some ty124) (.node (some ty188) (.node (some ty316) .nil .nil) .nil) (.node (some ty252) .nil .nil)))))) (.node (some ty6) (.node (some ty10) (.node (some ty18) (.node (some ty34) (.node (some ty66) (.node (some ty130) (.node (some ty258) .nil .nil) .nil) (.node (some ty194) .nil .nil)) (.node (some ty98) (.node (some ty162) (.node (some ty290) .nil .nil) .nil) .nil)) (.node (some ty50) (.node (some ty82) (.node (some ty146) (.node (some ty274) .nil .nil) .nil) (.node (some ty210) .nil .nil)) (.node (some ty114) (.node (some ty178) (.node (some ty306) .nil .nil) .nil) (.node (some ty242) .nil .nil)))) (.node (some ty26) (.node (some ty42) (.node (some ty74) (.node (some ty138) (.node (some ty266) .nil .nil) .nil) (.node (some ty202) .nil .nil)) (.node none (.node (some ty170) (.node (some ty298) .nil .nil) .nil) (.node (some ty234) .nil .nil))) (.node (some ty58) (.node (some ty90) (.node (some ty154) .nil .nil) (.node (some ty218) .nil .nil)) (.node (some ty122) (.node (some ty186) (.node (some ty314) .nil .nil) .nil) .nil)))) (.node (some ty14) (.node (some ty22) (.node (some ty38) (.node (some ty70) (.node (some ty134) (.node (some ty262) .nil .nil) .nil) (.node (some ty198) .nil .nil)) (.node (some ty102) (.node (some ty166) (.node (some ty294) .nil .nil) .nil) (.node (some ty230) .nil .nil))) (.node (some ty54) (.node (some ty86) (.node (some ty150) (.node (some ty278) .nil .nil) .nil) .nil) (.node (some ty118) (.node none (.node (some ty310) .nil .nil) .nil) (.node (some ty246) .nil .nil)))) (.node (some ty30) (.node (some ty46) (.node (some ty78) (.node (some ty142) (.node (some ty270) .nil .nil) .nil) (.node (some ty206) .nil .nil)) (.node (some ty110) (.node (some ty174) (.node (some ty302) .nil .nil) .nil) .nil)) (.node (some ty62) (.node (some ty94) (.node (some ty158) (.node (some ty286) .nil .nil) .nil) (.node (some ty222) .nil .nil)) (.node (some ty126) (.node (some ty190) (.node (some ty318) .nil .nil) .nil) .nil)))))))
noncomputable def fnT : T Func := (.node none (.node none (.node (some Tryz.f3) (.node (some Tryz.f7) (.node (some Tryz.f15) (.node (some Tryz.f31) (.node (some Tryz.f63) (.node (some Tryz.f127) .nil .nil) (.node (some Tryz.f191) .nil .nil)) (.node (some Tryz.f95) (.node (some Tryz.f159) .nil .nil) (.node (some Tryz.f223) .nil .nil))) (.node (some Tryz.f47) (.node (some Tryz.f79) (.node (some Tryz.f143) (.node (some Tryz.f271) .nil .nil) .nil) (.node (some Tryz.f207) .nil .nil)) (.node (some Tryz.f111) (.node (some Tryz.f175) .nil .nil) (.node (some Tryz.f239) .nil .nil)))) (.node (some Tryz.f23) (.node (some Tryz.f39) (.node (some Tryz.f71) (.node (some Tryz.f135) .nil .nil) (.node (some Tryz.f199) .nil .nil)) (.node (some Tryz.f103) (.node (some Tryz.f167) .nil .nil) (.node (some Tryz.f231) .nil .nil))) (.node (some Tryz.f55) (.node (some Tryz.f87) (.node (some Tryz.f151) (.node (some Tryz.f279) .nil .nil) .nil) .nil) (.node (some Tryz.f119) (.node (some Tryz.f183) .nil .nil) (.node (some Tryz.f247) .nil .nil))))) (.node (some Tryz.f11) (.node (some Tryz.f19) (.node (some Tryz.f35) (.node (some Tryz.f67) (.node (some Tryz.f131) (.node (some Tryz.f259) .nil .nil) .nil) (.node (some Tryz.f195) .nil .nil)) (.node (some Tryz.f99) (.node (some Tryz.f163) .nil .nil) (.node (some Tryz.f227) .nil .nil))) (.node (some Tryz.f51) (.node (some Tryz.f83) (.node (some Tryz.f147) (.node (some Tryz.f275) .nil .nil) .nil) (.node (some Tryz.f211) .nil .nil)) (.node (some Tryz.f115) (.node (some Tryz.f179) .nil .nil) (.node (some Tryz.f243) .nil .nil)))) (.node (some Tryz.f27) (.node (some Tryz.f43) (.node (some Tryz.f75) (.node (some Tryz.f139) (.node (some Tryz.f267) .nil .nil) .nil) (.node (some Tryz.f203) .nil .nil)) (.node (some Tryz.f107) (.node (some Tryz.f171) .nil .nil) (.node (some Tryz.f235) .nil .nil))) (.node (some Tryz.f59) (.node (some Tryz.f91) (.node (some Tryz.f155) (.node (some Tryz.f283) .nil .nil) .nil) (.node (some Tryz.f219) .nil .nil)) (.node (some Tryz.f123) (.node (some Tryz.f187) .nil .nil) (.node (some Tryz.f251) .nil .nil)))))) (.node (some Tryz.f5) (.node (some Tryz.f9) (.node (some Tryz.f17) (.node (some Tryz.f33) (.node (some Tryz.f65) (.node (some Tryz.f129) (.node (some Tryz.f257) .nil .nil) .nil) (.node (some Tryz.f193) .nil .nil)) (.node (some Tryz.f97) (.node (some Tryz.f161) .nil .nil) (.node (some Tryz.f225) .nil .nil))) (.node (some Tryz.f49) (.node (some Tryz.f81) (.node (some Tryz.f145) (.node (some Tryz.f273) .nil .nil) .nil) (.node (some Tryz.f209) .nil .nil)) (.node (some Tryz.f113) (.node (some Tryz.f177) .nil .nil) (.node (some Tryz.f241) .nil .nil)))) (.node (some Tryz.f25) (.node (some Tryz.f41) (.node (some Tryz.f73) (.node (some Tryz.f137) (.node (some Tryz.f265) .nil .nil) .nil) (.node (some Tryz.f201) .nil .nil)) (.node (some Tryz.f105) (.node (some Tryz.f169) .nil .nil) (.node (some Tryz.f233) .nil .nil))) (.node (some Tryz.f57) (.node (some Tryz.f89) (.node (some Tryz.f153) (.node (some Tryz.f281) .nil .nil) .nil) (.node (some Tryz.f217) .nil .nil)) (.node (some Tryz.f121) (.node (some Tryz.f185) .nil .nil) (.node (some Tryz.f249) .nil .nil))))) (.node (some Tryz.f13) (.node (some Tryz.f21) (.node (some Tryz.f37) (.node (some Tryz.f69) (.node (some Tryz.f133) (.node (some Tryz.f261) .nil .nil) .nil) (.node (some Tryz.f197) .nil .nil)) (.node (some Tryz.f101) (.node (some Tryz.f165) .nil .nil) (.node (some Tryz.f229) .nil .nil))) (.node (some Tryz.f53) (.node (some Tryz.f85) (.node (some Tryz.f149) (.node (some Tryz.f277) .nil .nil) .nil) (.node (some Tryz.f213) .nil .nil)) (.node (some Tryz.f117) (.node (some Tryz.f181) .nil .nil) (.node (some Tryz.f245) .nil .nil)))) (.node (some Tryz.f29) (.node (some Tryz.f45) (.node (some Tryz.f77) (.node (some Tryz.f141) (.node (some Tryz.f269) .nil .nil) .nil) (.node (some Tryz.f205) .nil .nil)) (.node (some Tryz.f109) (.node (some Tryz.f173) .nil .nil) (.node (some Tryz.f237) .nil .nil))) (.node (some Tryz.f61) (.node (some Tryz.f93) (.node (some Tryz.f157) (.node (some Tryz.f285) .nil .nil) .nil) (.node (some Tryz.f221) .nil .nil)) (.node (some Tryz.f125) (.node (some Tryz.f189) .nil .nil) (.node (some Tryz.f253) .nil .nil))))))) (.node (some Tryz.f2) (.node (some Tryz.f4) (.node (some Tryz.f8) (.node (some Tryz.f16) (.node (some Tryz.f32) (.node (some Tryz.f64) (.node (some Tryz.f128) (.node (some Tryz.f256) .nil .nil) .nil) (.node (some Tryz.f192) .nil .nil)) (.node (some Tryz.f96) (.node (some Tryz.f160) .nil .nil) (.node (some Tryz.f224) .nil .nil))) (.node (some Tryz.f48) (.node (some Tryz.f80) (.node (some Tryz.f144) (.node (some Tryz.f272) .nil .nil) .nil) (.node (some Tryz.f208) .nil .nil)) (.node (some Tryz.f112) (.node (some Tryz.f176) .nil .nil) (.node (some Tryz.f240) .nil .nil)))) (.node (some Tryz.f24) (.node (some Tryz.f40) (.node (some Tryz.f72) (.node (some Tryz.f136) (.node (some Tryz.f264) .nil .nil) .nil) (.node (some Tryz.f200) .nil .nil)) (.node (some Tryz.f104) (.node (some Tryz.f168) .nil .nil) (.node (some Tryz.f232) .nil .nil))) (.node (some Tryz.f56) (.node (some Tryz.f88) (.node (some Tryz.f152) (.node (some Tryz.f280) .nil .nil) .nil) (.node (some Tryz.f216) .nil .nil)) (.node (some Tryz.f120) (.node (some Tryz.f184) .nil .nil) (.node (some Tryz.f248) .nil .nil))))) (.node (some Tryz.f12) (.node (some Tryz.f20) (.node (some Tryz.f36) (.node (some Tryz.f68) (.node (some Tryz.f132) (.node (some Tryz.f260) .nil .nil) .nil) (.node (some Tryz.f196) .nil .nil)) (.node (some Tryz.f100) (.node (some Tryz.f164) .nil .nil) (.node (some Tryz.f228) .nil .nil))) (.node (some Tryz.f52) (.node (some Tryz.f84) (.node (some Tryz.f148) (.node (some Tryz.f276) .nil .nil) .nil) (.node (some Tryz.f212) .nil .nil)) (.node (some Tryz.f116) (.node (some Tryz.f180) .nil .nil) (.node (some Tryz.f244) .nil .nil)))) (.node (some Tryz.f28) (.node (some Tryz.f44) (.node (some Tryz.f76) (.node (some Tryz.f140) (.node (some Tryz.f268) .nil .nil) .nil) (.node (some Tryz.f204) .nil .nil)) (.node (some Tryz.f108) .nil (.node (some Tryz.f236) .nil .nil))) (.node (some Tryz.f60) (.node (some Tryz.f92) (.node (some Tryz.f156) (.node (some Tryz.f284) .nil .nil) .nil) (.node (some Tryz.f220) .nil .nil)) (.node (some Tryz.f124) (.node (some Tryz.f188) (.node (some Tryz.f316) .nil .nil) .nil) .nil))))) (.node (some Tryz.f6) (.node (some Tryz.f10) (.node (some Tryz.f18) (.node (some Tryz.f34) (.node (some Tryz.f66) (.node (some Tryz.f130) (.node (some Tryz.f258) .nil .nil) .nil) (.node (some Tryz.f194) .nil .nil)) (.node (some Tryz.f98) (.node (some Tryz.f162) .nil .nil) (.node (some Tryz.f226) .nil .nil))) (.node (some Tryz.f50) (.node (some Tryz.f82) (.node (some Tryz.f146) (.node (some Tryz.f274) .nil .nil) .nil) (.node (some Tryz.f210) .nil .nil)) (.node (some Tryz.f114) (.node (some Tryz.f178) .nil .nil) (.node (some Tryz.f242) .nil .nil)))) (.node (some Tryz.f26) (.node (some Tryz.f42) (.node (some Tryz.f74) (.node (some Tryz.f138) (.node (some Tryz.f266) .nil .nil) .nil) (.node (some Tryz.f202) .nil .nil)) (.node (some Tryz.f106) (.node (some Tryz.f170) .nil .nil) (.node (some Tryz.f234) .nil .nil))) (.node (some Tryz.f58) (.node (some Tryz.f90) (.node (some Tryz.f154) (.node (some Tryz.f282) .nil .nil) .nil) (.node (some Tryz.f218) .nil .nil)) (.node (some Tryz.f122) (.node (some Tryz.f186) .nil .nil) (.node (some Tryz.f250) .nil .nil))))) (.node (some Tryz.f14) (.node (some Tryz.f22) (.node (some Tryz.f38) (.node (some Tryz.f70) (.node (some Tryz.f134) (.node (some Tryz.f262) .nil .nil) .nil) (.node (some Tryz.f198) .nil .nil)) (.node (some Tryz.f102) (.node (some Tryz.f166) .nil .nil) (.node (some Tryz.f230) .nil .nil))) (.node (some Tryz.f54) (.node (some Tryz.f86) (.node (some Tryz.f150) (.node (some Tryz.f278) .nil .nil) .nil) (.node (some Tryz.f214) .nil .nil)) (.node (some Tryz.f118) (.node (some Tryz.f182) .nil .nil) (.node (some Tryz.f246) .nil .nil)))) (.node (some Tryz.f30) (.node (some Tryz.f46) (.node (some Tryz.f78) (.node (some Tryz.f142) (.node (some Tryz.f270) .nil .nil) .nil) (.node (some Tryz.f206) .nil .nil)) (.node (some Tryz.f110) (.node (some Tryz.f174) .nil .nil) (.node (some Tryz.f238) .nil .nil))) (.node (some Tryz.f62) (.node (some Tryz.f94) (.node (some Tryz.f158) .nil .nil) (.node (some Tryz.f222) .nil .nil)) (.node (some Tryz.f126) (.node (some Tryz.f190) .nil .nil) .nil)))))))
def ngN : Nat := 8
noncomputable def mkE (sum : Nat → Option (List Value → Heap → Option CR)) : Env := { ng := ngN, ty := fun t => tyT.get t, fn := fun f => fnT.get f, sum := sum }
def namesOK : TypeDesc → Bool
  | .struct fs => fs.toList.all fun f => !(f.name == "_")
  | _ => true
theorem names_ok {d : TypeDesc} {fs : Array Field} (hn : namesOK d = true) (h : d = .struct fs) : ∀ f ∈ fs.toList, f.name ≠ "_" := by
  subst h
  intro f hf e
  have := List.all_eq_true.1 hn f hf
  simp [e] at this
def FnOK (P : Program) (f : Nat) (fn : Func) : Prop := P.funcs[f]? = some fn ∧ (fn.name == "runtime.NumGoroutine") = false ∧ ∀ c, fn.body = some c → okCode ngN fn.ntmps c = true
theorem info_of {P : Program} {t : Nat} {z : Value} {s b : Nat} (h : (P.info? t).map (fun i => (i.zero, i.size, i.bytes)) = some (some z, s, b)) : ∃ i, P.info? t = some i ∧ i.size = s ∧ i.bytes = b ∧ i.zero = some z := by
  cases hi : P.info? t with
  | none => rw [hi] at h; cases h
  | some i =>
    rw [hi] at h
    injection h with h
    simp only [Prod.mk.injEq] at h
    exact ⟨i, rfl, h.2.1, h.2.2, h.1⟩
theorem tk1 : TyOK Tryz.prog 1 ty1 := ⟨by kernel_rfl, info_of (by kernel_rfl), by kernel_rfl, by kernel_rfl, (fun h => nomatch h), (fun _ => rfl), (fun h => nomatch h)⟩
theorem tk2 : TyOK Tryz.prog 2 ty2 := ⟨by kernel_rfl, info_of (by kernel_rfl), by kernel_rfl, by kernel_rfl, (fun h => nomatch h), (fun _ => rfl), (fun h => nomatch h)⟩
theorem tk3 : TyOK Tryz.prog 3 ty3 := ⟨by kernel_rfl, info_of (by kernel_rfl), by kernel_rfl, by kernel_rfl, (fun h => nomatch h), (fun _ => rfl), (fun h => nomatch h)⟩
theorem tk4 : TyOK Tryz.prog 4 ty4 := ⟨by kernel_rfl, info_of (by kernel_rfl), by kernel_rfl, by kernel_rfl, (fun h => nomatch h), (fun _ => rfl), (fun h => nomatch h)⟩
theorem tk5 : TyOK Tryz.prog 5 ty5 := ⟨by kernel_rfl, info_of (by kernel_rfl), by kernel_rfl, by kernel_rfl, (fun h => nomatch h), (fun _ => rfl), (fun h => nomatch h)⟩
theorem tk6 : TyOK Tryz.prog 6 ty6 := ⟨by kernel_rfl, info_of (by kernel_rfl), by kernel_rfl, by kernel_rfl, (fun h => nomatch h), (fun _ => rfl), (fun h => nomatch h)⟩
theorem tk7 : TyOK Tryz.prog 7 ty7 := ⟨by kernel_rfl, info_of (by kernel_rfl), by kernel_rfl, by kernel_rfl, (fun _ => ⟨_, rfl⟩), (fun h => nomatch h), (fun _ => ⟨by kernel_rfl, by kernel_rfl, fun fs h => names_ok (by kernel_rfl) h⟩)⟩
theorem tk8 : TyOK Tryz.prog 8 ty8 := ⟨by kernel_rfl, info_of (by kernel_rfl), by kernel_rfl, by kernel_rfl, (fun _ => ⟨_, rfl⟩), (fun h => nomatch h), (fun _ => ⟨by kernel_rfl, by kernel_rfl, fun fs h => names_ok (by kernel_rfl) h⟩)⟩
theorem tk9 : TyOK Tryz.prog 9 ty9 := ⟨by kernel_rfl, info_of (by kernel_rfl), by kernel_rfl, by kernel_rfl, (fun h => nomatch h), (fun _ => rfl), (fun h => nomatch h)⟩
theorem tk10 : TyOK Tryz.prog 10 ty10 := ⟨by kernel_rfl, info_of (by kernel_rfl), by kernel_rfl, by kernel_rfl, (fun h => nomatch h), (fun _ => rfl), (fun h => nomatch h)⟩
theorem tk11 : TyOK Tryz.prog 11 ty11 := ⟨by kernel_rfl, info_of (by kernel_rfl), by kernel_rfl, by kernel_rfl, (fun h => nomatch h), (fun _ => rfl), (fun h => nomatch h)⟩
theorem tk12 : TyOK Tryz.prog 12 ty12 := ⟨by kernel_rfl, info_of (by kernel_rfl), by kernel_rfl, by kernel_rfl, (fun h => nomatch h), (fun _ => rfl), (fun h => nomatch h)⟩
theorem tk13 : TyOK Tryz.prog 13 ty13 := ⟨by kernel_rfl, info_of (by kernel_rfl), by kernel_rfl, by kernel_rfl, (fun _ => ⟨_, rfl⟩), (fun h => nomatch h), (fun h => nomatch h)⟩
theorem tk14 : TyOK Tryz.prog 14 ty14 := ⟨by kernel_rfl, info_of (by kernel_rfl), by kernel_rfl, by kernel_rfl, (fun _ => ⟨_, rfl⟩), (fun h => nomatch h), (fun h => nomatch h)⟩
theorem tk15 : TyOK Tryz.prog 15 ty15 := ⟨by kernel_rfl, info_of (by kernel_rfl), by kernel_rfl, by kernel_rfl, (fun h => nomatch h), (fun _ => rfl), (fun h => nomatch h)⟩
theorem tk16 : TyOK Tryz.prog 16 ty16 := ⟨by kernel_rfl, info_of (by kernel_rfl), by kernel_rfl, by kernel_rfl, (fun h => nomatch h), (fun _ => rfl), (fun h => nomatch h)⟩
theorem tk17 : TyOK Tryz.prog 17 ty17 := ⟨by kernel_rfl, info_of (by kernel_rfl), by kernel_rfl, by kernel_rfl, (fun h => nomatch h), (fun _ => rfl), (fun h => nomatch h)⟩
theorem tk18 : TyOK Tryz.prog 18 ty18 := ⟨by kernel_rfl, info_of (by kernel_rfl), by kernel_rfl, by kernel_rfl, (fun _ => ⟨_, rfl⟩), (fun h => nomatch h), (fun h => nomatch h)⟩
theorem tk19 : TyOK Tryz.prog 19 ty19 := ⟨by kernel_rfl, info_of (by kernel_rfl), by kernel_rfl, by kernel_rfl, (fun _ => ⟨_, rfl⟩), (fun h => nomatch h), (fun h => nomatch h)⟩
theorem tk20 : TyOK Tryz.prog 20 ty20 := ⟨by kernel_rfl, info_of (by kernel_rfl), by kernel_rfl, by kernel_rfl, (fun h => nomatch h), (fun _ => rfl), (fun h => nomatch h)⟩
theorem tk21 : TyOK Tryz.prog 21 ty21 := ⟨by kernel_rfl, info_of (by kernel_rfl), by kernel_rfl, by kernel_rfl, (fun h => nomatch h), (fun _ => rfl), (fun h => nomatch h)⟩
theorem tk22 : TyOK Tryz.prog 22 ty22 := ⟨by kernel_rfl, info_of (by kernel_rfl), by kernel_rfl, by kernel_rfl, (fun h => nomatch h), (fun _ => rfl), (fun h => nomatch h)⟩
theorem tk24 : TyOK Tryz.prog 24 ty24 := ⟨by kernel_rfl, info_of (by kernel_rfl), by kernel_rfl, by kernel_rfl, (fun h => nomatch h), (fun _ => rfl), (fun h => nomatch h)⟩
theorem tk25 : TyOK Tryz.prog 25 ty25 := ⟨by kernel_rfl, info_of (by kernel_rfl), by kernel_rfl, by kernel_rfl, (fun h => nomatch h), (fun _ => rfl), (fun h => nomatch h)⟩
theorem tk26 : TyOK Tryz.prog 26 ty26 := ⟨by kernel_rfl, info_of (by kernel_rfl), by kernel_rfl, by kernel_rfl, (fun h => nomatch h), (fun _ => rfl), (fun h => nomatch h)⟩
theorem tk27 : TyOK Tryz.prog 27 ty27 := ⟨by kernel_rfl, info_of (by kernel_rfl), by kernel_rfl, by kernel_rfl, (fun h => nomatch h), (fun _ => rfl), (fun h => nomatch h)⟩
theorem tk28 : TyOK Tryz.prog 28 ty28 := ⟨by kernel_rfl, info_of (by kernel_rfl), by kernel_rfl, by kernel_rfl, (fun h => nomatch h), (fun _ => rfl), (fun h => nomatch h)⟩
theorem tk30 : TyOK Tryz.prog 30 ty30 := ⟨by kernel_rfl, info_of (by kernel_rfl), by kernel_rfl, by kernel_rfl, (fun h => nomatch h), (fun _ => rfl), (fun h => nomatch h)⟩
theorem tk31 : TyOK Tryz.prog 31 ty31 := ⟨by kernel_rfl, info_of (by kernel_rfl), by kernel_rfl, by kernel_rfl, (fun h => nomatch h), (fun _ => rfl), (fun h => nomatch h)⟩
theorem tk32 : TyOK Tryz.prog 32 ty32 := ⟨by kernel_rfl, info_of (by kernel_rfl), by kernel_rfl, by kernel_rfl, (fun h => nomatch h), (fun _ => rfl), (fun h => nomatch h)⟩
theorem tk33 : TyOK Tryz.prog 33 ty33 := ⟨by kernel_rfl, info_of (by kernel_rfl), by kernel_rfl, by kernel_rfl, (fun _ => ⟨_, rfl⟩), (fun h => nomatch h), (fun _ => ⟨by kernel_rfl, by kernel_rfl, fun fs h => names_ok (by kernel_rfl) h⟩)⟩
theorem tk34 : TyOK Tryz.prog 34 ty34 := ⟨by kernel_rfl, info_of (by kernel_rfl), by kernel_rfl, by kernel_rfl, (fun _ => ⟨_, rfl⟩), (fun h => nomatch h), (fun _ => ⟨by kernel_rfl, by kernel_rfl, fun fs h => names_ok (by kernel_rfl) h⟩)⟩
theorem tk36 : TyOK Tryz.prog 36 ty36 := ⟨by kernel_rfl, info_of (by kernel_rfl), by kernel_rfl, by kernel_rfl, (fun h => nomatch h), (fun _ => rfl), (fun h => nomatch h)⟩
theorem tk37 : TyOK Tryz.prog 37 ty37 := ⟨by kernel_rfl, info_of (by kernel_rfl), by kernel_rfl, by kernel_rfl, (fun h => nomatch h), (fun _ => rfl), (fun h => nomatch h)⟩
theorem tk38 : TyOK Tryz.prog 38 ty38 := ⟨by kernel_rfl, info_of (by kernel_rfl), by kernel_rfl, by kernel_rfl, (fun h => nomatch h), (fun _ => rfl), (fun h => nomatch h)⟩
theorem tk39 : TyOK Tryz.prog 39 ty39 := ⟨by kernel_rfl, info_of (by kernel_rfl), by kernel_rfl, by kernel_rfl, (fun h => nomatch h), (fun _ => rfl), (fun h => nomatch h)⟩
theorem tk40 : TyOK Tryz.prog 40 ty40 := ⟨by kernel_rfl, info_of (by kernel_rfl), by kernel_rfl, by kernel_rfl, (fun _ => ⟨_, rfl⟩), (fun h => nomatch h), (fun _ => ⟨by kernel_rfl, by kernel_rfl, fun fs h => names_ok (by kernel_rfl) h⟩)⟩
theorem tk41 : TyOK Tryz.prog 41 ty41 := ⟨by kernel_rfl, info_of (by kernel_rfl), by kernel_rfl, by kernel_rfl, (fun _ => ⟨_, rfl⟩), (fun h => nomatch h), (fun _ => ⟨by kernel_rfl, by kernel_rfl, fun fs h => names_ok (by kernel_rfl) h⟩)⟩
theorem tk42 : TyOK Tryz.prog 42 ty42 := ⟨by kernel_rfl, info_of (by kernel_rfl), by kernel_rfl, by kernel_rfl, (fun h => nomatch h), (fun _ => rfl), (fun h => nomatch h)⟩
theorem tk43 : TyOK Tryz.prog 43 ty43 := ⟨by kernel_rfl, info_of (by kernel_rfl), by kernel_rfl, by kernel_rfl, (fun h => nomatch h), (fun _ => rfl), (fun h => nomatch h)⟩
theorem tk44 : TyOK Tryz.prog 44 ty44 := ⟨by kernel_rfl, info_of (by kernel_rfl), by kernel_rfl, by kernel_rfl, (fun h => nomatch h), (fun _ => rfl), (fun h => nomatch h)⟩
theorem tk45 : TyOK Tryz.prog 45 ty45 := ⟨by kernel_rfl, info_of (by kernel_rfl), by kernel_rfl, by kernel_rfl, (fun h => nomatch h), (fun _ => rfl), (fun h => nomatch h)⟩
theorem tk46 : TyOK Tryz.prog 46 ty46 := ⟨by kernel_rfl, info_of (by kernel_rfl), by kernel_rfl, by kernel_rfl, (fun h => nomatch h), (fun _ => rfl), (fun h => nomatch h)⟩
theorem tk47 : TyOK Tryz.prog 47 ty47 := ⟨by kernel_rfl, info_of (by kernel_rfl), by kernel_rfl, by kernel_rfl, (fun h => nomatch h), (fun _ => rfl), (fun h => nomatch h)⟩
theorem tk49 : TyOK Tryz.prog 49 ty49 := ⟨by kernel_rfl, info_of (by kernel_rfl), by kernel_rfl, by kernel_rfl, (fun h => nomatch h), (fun _ => rfl), (fun h => nomatch h)⟩
theorem tk50 : TyOK Tryz.prog 50 ty50 := ⟨by kernel_rfl, info_of (by kernel_rfl), by kernel_rfl, by kernel_rfl, (fun h => nomatch h), (fun _ => rfl), (fun h => nomatch h)⟩
theorem tk51 : TyOK Tryz.prog 51 ty51 := ⟨by kernel_rfl, info_of (by kernel_rfl), by kernel_rfl, by kernel_rfl, (fun h => nomatch h), (fun _ => rfl), (fun h => nomatch h)⟩
theorem tk52 : TyOK Tryz.prog 52 ty52 := ⟨by kernel_rfl, info_of (by kernel_rfl), by kernel_rfl, by kernel_rfl, (fun h => nomatch h), (fun _ => rfl), (fun h => nomatch h)⟩
theorem tk53 : TyOK Tryz.prog 53 ty53 := ⟨by kernel_rfl, info_of (by kernel_rfl), by kernel_rfl, by kernel_rfl, (fun _ => ⟨_, rfl⟩), (fun h => nomatch h), (fun _ => ⟨by kernel_rfl, by kernel_rfl, fun fs h => names_ok (by kernel_rfl) h⟩)⟩
theorem tk54 : TyOK Tryz.prog 54 ty54 := ⟨by kernel_rfl, info_of (by kernel_rfl), by kernel_rfl, by kernel_rfl, (fun _ => ⟨_, rfl⟩), (fun h => nomatch h), (fun _ => ⟨by kernel_rfl, by kernel_rfl, fun fs h => names_ok (by kernel_rfl) h⟩)⟩
theorem tk55 : TyOK Tryz.prog 55 ty55 := ⟨by kernel_rfl, info_of (by kernel_rfl), by kernel_rfl, by kernel_rfl, (fun h => nomatch h), (fun _ => rfl), (fun h => nomatch h)⟩
theorem tk56 : TyOK Tryz.prog 56 ty56 := ⟨by kernel_rfl, info_of (by kernel_rfl), by kernel_rfl, by kernel_rfl, (fun h => nomatch h), (fun _ => rfl), (fun h => nomatch h)⟩
theorem tk57 : TyOK Tryz.prog 57 ty57 := ⟨by kernel_rfl, info_of (by kernel_rfl), by kernel_rfl, by kernel_rfl, (fun h => nomatch h), (fun _ => rfl), (fun h => nomatch h)⟩
theorem tk58 : TyOK Tryz.prog 58 ty58 := ⟨by kernel_rfl, info_of (by kernel_rfl), by kernel_rfl, by kernel_rfl, (fun h => nomatch h), (fun _ => rfl), (fun h => nomatch h)⟩
theorem tk59 : TyOK Tryz.prog 59 ty59 := ⟨by kernel_rfl, info_of (by kernel_rfl), by kernel_rfl, by kernel_rfl, (fun h => nomatch h), (fun _ => rfl), (fun h => nomatch h)⟩
theorem tk60 : TyOK Tryz.prog 60 ty60 := ⟨by kernel_rfl, info_of (by kernel_rfl), by kernel_rfl, by kernel_rfl, (fun h => nomatch h), (fun _ => rfl), (fun h => nomatch h)⟩
theorem tk61 : TyOK Tryz.prog 61 ty61 := ⟨by kernel_rfl, info_of (by kernel_rfl), by kernel_rfl, by kernel_rfl, (fun h => nomatch h), (fun _ => rfl), (fun h => nomatch h)⟩
theorem tk62 : TyOK Tryz.prog 62 ty62 := ⟨by kernel_rfl, info_of (by kernel_rfl), by kernel_rfl, by kernel_rfl, (fun h => nomatch h), (fun _ => rfl), (fun h => nomatch h)⟩
theorem tk64 : TyOK Tryz.prog 64 ty64 := ⟨by kernel_rfl, info_of (by kernel_rfl), by kernel_rfl, by kernel_rfl, (fun h => nomatch h), (fun _ => rfl), (fun h => nomatch h)⟩
theorem tk65 : TyOK Tryz.prog 65 ty65 := ⟨by kernel_rfl, info_of (by kernel_rfl), by kernel_rfl, by kernel_rfl, (fun h => nomatch h), (fun _ => rfl), (fun h => nomatch h)⟩
theorem tk66 : TyOK Tryz.prog 66 ty66 := ⟨by kernel_rfl, info_of (by kernel_rfl), by kernel_rfl, by kernel_rfl, (fun h => nomatch h), (fun _ => rfl), (fun h => nomatch h)⟩
theorem tk67 : TyOK Tryz.prog 67 ty67 := ⟨by kernel_rfl, info_of (by kernel_rfl), by kernel_rfl, by kernel_rfl, (fun _ => ⟨_, rfl⟩), (fun h => nomatch h), (fun _ => ⟨by kernel_rfl, by kernel_rfl, fun fs h => names_ok (by kernel_rfl) h⟩)⟩
theorem tk68 : TyOK Tryz.prog 68 ty68 := ⟨by kernel_rfl, info_of (by kernel_rfl), by kernel_rfl, by kernel_rfl, (fun _ => ⟨_, rfl⟩), (fun h => nomatch h), (fun _ => ⟨by kernel_rfl, by kernel_rfl, fun fs h => names_ok (by kernel_rfl) h⟩)⟩
theorem tk70 : TyOK Tryz.prog 70 ty70 := ⟨by kernel_rfl, info_of (by kernel_rfl), by kernel_rfl, by kernel_rfl, (fun _ => ⟨_, rfl⟩), (fun h => nomatch h), (fun _ => ⟨by kernel_rfl, by kernel_rfl, fun fs h => names_ok (by kernel_rfl) h⟩)⟩
theorem tk73 : TyOK Tryz.prog 73 ty73 := ⟨by kernel_rfl, info_of (by kernel_rfl), by kernel_rfl, by kernel_rfl, (fun h => nomatch h), (fun _ => rfl), (fun h => nomatch h)⟩
theorem tk74 : TyOK Tryz.prog 74 ty74 := ⟨by kernel_rfl, info_of (by kernel_rfl), by kernel_rfl, by kernel_rfl, (fun _ => ⟨_, rfl⟩), (fun h => nomatch h), (fun _ => ⟨by kernel_rfl, by kernel_rfl, fun fs h => names_ok (by kernel_rfl) h⟩)⟩
theorem tk75 : TyOK Tryz.prog 75 ty75 := ⟨by kernel_rfl, info_of (by kernel_rfl), by kernel_rfl, by kernel_rfl, (fun _ => ⟨_, rfl⟩), (fun h => nomatch h), (fun _ => ⟨by kernel_rfl, by kernel_rfl, fun fs h => names_ok (by kernel_rfl) h⟩)⟩
theorem tk76 : TyOK Tryz.prog 76 ty76 := ⟨by kernel_rfl, info_of (by kernel_rfl), by kernel_rfl, by kernel_rfl, (fun h => nomatch h), (fun _ => rfl), (fun h => nomatch h)⟩
theorem tk77 : TyOK Tryz.prog 77 ty77 := ⟨by kernel_rfl, info_of (by kernel_rfl), by kernel_rfl, by kernel_rfl, (fun h => nomatch h), (fun _ => rfl), (fun h => nomatch h)⟩
theorem tk78 : TyOK Tryz.prog 78 ty78 := ⟨by kernel_rfl, info_of (by kernel_rfl), by kernel_rfl, by kernel_rfl, (fun h => nomatch h), (fun _ => rfl), (fun h => nomatch h)⟩
theorem tk79 : TyOK Tryz.prog 79 ty79 := ⟨by kernel_rfl, info_of (by kernel_rfl), by kernel_rfl, by kernel_rfl, (fun h => nomatch h), (fun _ => rfl), (fun h => nomatch h)⟩
theorem tk80 : TyOK Tryz.prog 80 ty80 := ⟨by kernel_rfl, info_of (by kernel_rfl), by kernel_rfl, by kernel_rfl, (fun h => nomatch h), (fun _ => rfl), (fun h => nomatch h)⟩
theorem tk81 : TyOK Tryz.prog 81 ty81 := ⟨by kernel_rfl, info_of (by kernel_rfl), by kernel_rfl, by kernel_rfl, (fun _ => ⟨_, rfl⟩), (fun h => nomatch h), (fun _ => ⟨by kernel_rfl, by kernel_rfl, fun fs h => names_ok (by kernel_rfl) h⟩)⟩
theorem tk82 : TyOK Tryz.prog 82 ty82 := ⟨by kernel_rfl, info_of (by kernel_rfl), by kernel_rfl, by kernel_rfl, (fun _ => ⟨_, rfl⟩), (fun h => nomatch h), (fun _ => ⟨by kernel_rfl, by kernel_rfl, fun fs h => names_ok (by kernel_rfl) h⟩)⟩
theorem tk83 : TyOK Tryz.prog 83 ty83 := ⟨by kernel_rfl, info_of (by kernel_rfl), by kernel_rfl, by kernel_rfl, (fun h => nomatch h), (fun _ => rfl), (fun h => nomatch h)⟩
theorem tk84 : TyOK Tryz.prog 84 ty84 := ⟨by kernel_rfl, info_of (by kernel_rfl), by kernel_rfl, by kernel_rfl, (fun _ => ⟨_, rfl⟩), (fun h => nomatch h), (fun _ => ⟨by kernel_rfl, by kernel_rfl, fun fs h => names_ok (by kernel_rfl) h⟩)⟩
theorem tk85 : TyOK Tryz.prog 85 ty85 := ⟨by kernel_rfl, info_of (by kernel_rfl), by kernel_rfl, by kernel_rfl, (fun _ => ⟨_, rfl⟩), (fun h => nomatch h), (fun _ => ⟨by kernel_rfl, by kernel_rfl, fun fs h => names_ok (by kernel_rfl) h⟩)⟩
theorem tk86 : TyOK Tryz.prog 86 ty86 := ⟨by kernel_rfl, info_of (by kernel_rfl), by kernel_rfl, by kernel_rfl, (fun h => nomatch h), (fun _ => rfl), (fun h => nomatch h)⟩
theorem tk87 : TyOK Tryz.prog 87 ty87 := ⟨by kernel_rfl, info_of (by kernel_rfl), by kernel_rfl, by kernel_rfl, (fun h => nomatch h), (fun _ => rfl), (fun h => nomatch h)⟩
theorem tk88 : TyOK Tryz.prog 88 ty88 := ⟨by kernel_rfl, info_of (by kernel_rfl), by kernel_rfl, by kernel_rfl, (fun h => nomatch h), (fun _ => rfl), (fun h => nomatch h)⟩
theorem tk90 : TyOK Tryz.prog 90 ty90 := ⟨by kernel_rfl, info_of (by kernel_rfl), by kernel_rfl, by kernel_rfl, (fun h => nomatch h), (fun _ => rfl), (fun h => nomatch h)⟩
theorem tk91 : TyOK Tryz.prog 91 ty91 := ⟨by kernel_rfl, info_of (by kernel_rfl), by kernel_rfl, by kernel_rfl, (fun h => nomatch h), (fun _ => rfl), (fun h => nomatch h)⟩
theorem tk92 : TyOK Tryz.prog 92 ty92 := ⟨by kernel_rfl, info_of (by kernel_rfl), by kernel_rfl, by kernel_rfl, (fun h => nomatch h), (fun _ => rfl), (fun h => nomatch h)⟩
theorem tk93 : TyOK Tryz.prog 93 ty93 := ⟨by kernel_rfl, info_of (by kernel_rfl), by kernel_rfl, by kernel_rfl, (fun _ => ⟨_, rfl⟩), (fun h => nomatch h), (fun _ => ⟨by kernel_rfl, by kernel_rfl, fun fs h => names_ok (by kernel_rfl) h⟩)⟩
theorem tk94 : TyOK Tryz.prog 94 ty94 := ⟨by kernel_rfl, info_of (by kernel_rfl), by kernel_rfl, by kernel_rfl, (fun _ => ⟨_, rfl⟩), (fun h => nomatch h), (fun _ => ⟨by kernel_rfl, by kernel_rfl, fun fs h => names_ok (by kernel_rfl) h⟩)⟩
theorem tk95 : TyOK Tryz.prog 95 ty95 := ⟨by kernel_rfl, info_of (by kernel_rfl), by kernel_rfl, by kernel_rfl, (fun _ => ⟨_, rfl⟩), (fun h => nomatch h), (fun _ => ⟨by kernel_rfl, by kernel_rfl, fun fs h => names_ok (by kernel_rfl) h⟩)⟩
theorem tk96 : TyOK Tryz.prog 96 ty96 := ⟨by kernel_rfl, info_of (by kernel_rfl), by kernel_rfl, by kernel_rfl, (fun _ => ⟨_, rfl⟩), (fun h => nomatch h), (fun _ => ⟨by kernel_rfl, by kernel_rfl, fun fs h => names_ok (by kernel_rfl) h⟩)⟩
theorem tk98 : TyOK Tryz.prog 98 ty98 := ⟨by kernel_rfl, info_of (by kernel_rfl), by kernel_rfl, by kernel_rfl, (fun h => nomatch h), (fun _ => rfl), (fun h => nomatch h)⟩
theorem tk99 : TyOK Tryz.prog 99 ty99 := ⟨by kernel_rfl, info_of (by kernel_rfl), by kernel_rfl, by kernel_rfl, (fun h => nomatch h), (fun _ => rfl), (fun h => nomatch h)⟩
theorem tk100 : TyOK Tryz.prog 100 ty100 := ⟨by kernel_rfl, info_of (by kernel_rfl), by kernel_rfl, by kernel_rfl, (fun h => nomatch h), (fun _ => rfl), (fun h => nomatch h)⟩
theorem tk101 : TyOK Tryz.prog 101 ty101 := ⟨by kernel_rfl, info_of (by kernel_rfl), by kernel_rfl, by kernel_rfl, (fun h => nomatch h), (fun _ => rfl), (fun h => nomatch h)⟩
theorem tk102 : TyOK Tryz.prog 102 ty102 := ⟨by kernel_rfl, info_of (by kernel_rfl), by kernel_rfl, by kernel_rfl, (fun h => nomatch h), (fun _ => rfl), (fun h => nomatch h)⟩
theorem tk103 : TyOK Tryz.prog 103 ty103 := ⟨by kernel_rfl, info_of (by kernel_rfl), by kernel_rfl, by kernel_rfl, (fun h => nomatch h), (fun _ => rfl), (fun h => nomatch h)⟩
theorem tk104 : TyOK Tryz.prog 104 ty104 := ⟨by kernel_rfl, info_of (by kernel_rfl), by kernel_rfl, by kernel_rfl, (fun h => nomatch h), (fun _ => rfl), (fun h => nomatch h)⟩
theorem tk105 : TyOK Tryz.prog 105 ty105 := ⟨by kernel_rfl, info_of (by kernel_rfl), by kernel_rfl, by kernel_rfl, (fun h => nomatch h), (fun _ => rfl), (fun h => nomatch h)⟩
theorem tk107 : TyOK Tryz.prog 107 ty107 := ⟨by kernel_rfl, info_of (by kernel_rfl), by kernel_rfl, by kernel_rfl, (fun h => nomatch h), (fun _ => rfl), (fun h => nomatch h)⟩
theorem tk108 : TyOK Tryz.prog 108 ty108 := ⟨by kernel_rfl, info_of (by kernel_rfl), by kernel_rfl, by kernel_rfl, (fun h => nomatch h), (fun _ => rfl), (fun h => nomatch h)⟩
theorem tk109 : TyOK Tryz.prog 109 ty109 := ⟨by kernel_rfl, info_of (by kernel_rfl), by kernel_rfl, by kernel_rfl, (fun _ => ⟨_, rfl⟩), (fun h => nomatch h), (fun _ => ⟨by kernel_rfl, by kernel_rfl, fun fs h => names_ok (by kernel_rfl) h⟩)⟩
theorem tk110 : TyOK Tryz.prog 110 ty110 := ⟨by kernel_rfl, info_of (by kernel_rfl), by kernel_rfl, by kernel_rfl, (fun _ => ⟨_, rfl⟩), (fun h => nomatch h), (fun _ => ⟨by kernel_rfl, by kernel_rfl, fun fs h => names_ok (by kernel_rfl) h⟩)⟩
theorem tk111 : TyOK Tryz.prog 111 ty111 := ⟨by kernel_rfl, info_of (by kernel_rfl), by kernel_rfl, by kernel_rfl, (fun _ => ⟨_, rfl⟩), (fun h => nomatch h), (fun _ => ⟨by kernel_rfl, by kernel_rfl, fun fs h => names_ok (by kernel_rfl) h⟩)⟩
theorem tk112 : TyOK Tryz.prog 112 ty112 := ⟨by kernel_rfl, info_of (by kernel_rfl), by kernel_rfl, by kernel_rfl, (fun _ => ⟨_, rfl⟩), (fun h => nomatch h), (fun _ => ⟨by kernel_rfl, by kernel_rfl, fun fs h => names_ok (by kernel_rfl) h⟩)⟩
theorem tk114 : TyOK Tryz.prog 114 ty114 := ⟨by kernel_rfl, info_of (by kernel_rfl), by kernel_rfl, by kernel_rfl, (fun h => nomatch h), (fun _ => rfl), (fun h => nomatch h)⟩
theorem tk115 : TyOK Tryz.prog 115 ty115 := ⟨by kernel_rfl, info_of (by kernel_rfl), by kernel_rfl, by kernel_rfl, (fun h => nomatch h), (fun _ => rfl), (fun h => nomatch h)⟩
theorem tk117 : TyOK Tryz.prog 117 ty117 := ⟨by kernel_rfl, info_of (by kernel_rfl), by kernel_rfl, by kernel_rfl, (fun h => nomatch h), (fun _ => rfl), (fun h => nomatch h)⟩
theorem tk118 : TyOK Tryz.prog 118 ty118 := ⟨by kernel_rfl, info_of (by kernel_rfl), by kernel_rfl, by kernel_rfl, (fun h => nomatch h), (fun _ => rfl), (fun h => nomatch h)⟩
theorem tk119 : TyOK Tryz.prog 119 ty119 := ⟨by kernel_rfl, info_of (by kernel_rfl), by kernel_rfl, by kernel_rfl, (fun _ => ⟨_, rfl⟩), (fun h => nomatch h), (fun _ => ⟨by kernel_rfl, by kernel_rfl, fun fs h => names_ok (by kernel_rfl) h⟩)⟩
theorem tk120 : TyOK Tryz.prog 120 ty120 := ⟨by kernel_rfl, info_of (by kernel_rfl), by kernel_rfl, by kernel_rfl, (fun _ => ⟨_, rfl⟩), (fun h => nomatch h), (fun _ => ⟨by kernel_rfl, by kernel_rfl, fun fs h => names_ok (by kernel_rfl) h⟩)⟩
theorem tk121 : TyOK Tryz.prog 121 ty121 := ⟨by kernel_rfl, info_of (by kernel_rfl), by kernel_rfl, by kernel_rfl, (fun h => nomatch h), (fun _ => rfl), (fun h => nomatch h)⟩
theorem tk122 : TyOK Tryz.prog 122 ty122 := ⟨by kernel_rfl, info_of (by kernel_rfl), by kernel_rfl, by kernel_rfl, (fun h => nomatch h), (fun _ => rfl), (fun h => nomatch h)⟩
theorem tk123 : TyOK Tryz.prog 123 ty123 := ⟨by kernel_rfl, info_of (by kernel_rfl), by kernel_rfl, by kernel_rfl, (fun h => nomatch h), (fun _ => rfl), (fun h => nomatch h)⟩
theorem tk124 : TyOK Tryz.prog 124 ty124 := ⟨by kernel_rfl, info_of (by kernel_rfl), by kernel_rfl, by kernel_rfl, (fun h => nomatch h), (fun _ => rfl), (fun h => nomatch h)⟩
theorem tk125 : TyOK Tryz.prog 125 ty125 := ⟨by kernel_rfl, info_of (by kernel_rfl), by kernel_rfl, by kernel_rfl, (fun _ => ⟨_, rfl⟩), (fun h => nomatch h), (fun h => nomatch h)⟩
theorem tk126 : TyOK Tryz.prog 126 ty126 := ⟨by kernel_rfl, info_of (by kernel_rfl), by kernel_rfl, by kernel_rfl, (fun h => nomatch h), (fun _ => rfl), (fun h => nomatch h)⟩
theorem tk127 : TyOK Tryz.prog 127 ty127 := ⟨by kernel_rfl, info_of (by kernel_rfl), by kernel_rfl, by kernel_rfl, (fun h => nomatch h), (fun _ => rfl), (fun h => nomatch h)⟩
theorem tk128 : TyOK Tryz.prog 128 ty128 := ⟨by kernel_rfl, info_of (by kernel_rfl), by kernel_rfl, by kernel_rfl, (fun h => nomatch h), (fun _ => rfl), (fun h => nomatch h)⟩
theorem tk130 : TyOK Tryz.prog 130 ty130 := ⟨by kernel_rfl, info_of (by kernel_rfl), by kernel_rfl, by kernel_rfl, (fun h => nomatch h), (fun _ => rfl), (fun h => nomatch h)⟩
theorem tk131 : TyOK Tryz.prog 131 ty131 := ⟨by kernel_rfl, info_of (by kernel_rfl), by kernel_rfl, by kernel_rfl, (fun h => nomatch h), (fun _ => rfl), (fun h => nomatch h)⟩
theorem tk132 : TyOK Tryz.prog 132 ty132 := ⟨by kernel_rfl, info_of (by kernel_rfl), by kernel_rfl, by kernel_rfl, (fun h => nomatch h), (fun _ => rfl), (fun h => nomatch h)⟩
theorem tk134 : TyOK Tryz.prog 134 ty134 := ⟨by kernel_rfl, info_of (by kernel_rfl), by kernel_rfl, by kernel_rfl, (fun h => nomatch h), (fun _ => rfl), (fun h => nomatch h)⟩
theorem tk136 : TyOK Tryz.prog 136 ty136 := ⟨by kernel_rfl, info_of (by kernel_rfl), by kernel_rfl, by kernel_rfl, (fun h => nomatch h), (fun _ => rfl), (fun h => nomatch h)⟩
theorem tk137 : TyOK Tryz.prog 137 ty137 := ⟨by kernel_rfl, info_of (by kernel_rfl), by kernel_rfl, by kernel_rfl, (fun h => nomatch h), (fun _ => rfl), (fun h => nomatch h)⟩
theorem tk138 : TyOK Tryz.prog 138 ty138 := ⟨by kernel_rfl, info_of (by kernel_rfl), by kernel_rfl, by kernel_rfl, (fun _ => ⟨_, rfl⟩), (fun h => nomatch h), (fun _ => ⟨by kernel_rfl, by kernel_rfl, fun fs h => names_ok (by kernel_rfl) h⟩)⟩
theorem tk139 : TyOK Tryz.prog 139 ty139 := ⟨by kernel_rfl, info_of (by kernel_rfl), by kernel_rfl, by kernel_rfl, (fun h => nomatch h), (fun _ => rfl), (fun h => nomatch h)⟩
theorem tk140 : TyOK Tryz.prog 140 ty140 := ⟨by kernel_rfl, info_of (by kernel_rfl), by kernel_rfl, by kernel_rfl, (fun h => nomatch h), (fun _ => rfl), (fun h => nomatch h)⟩
theorem tk142 : TyOK Tryz.prog 142 ty142 := ⟨by kernel_rfl, info_of (by kernel_rfl), by kernel_rfl, by kernel_rfl, (fun h => nomatch h), (fun _ => rfl), (fun h => nomatch h)⟩
theorem tk143 : TyOK Tryz.prog 143 ty143 := ⟨by kernel_rfl, info_of (by kernel_rfl), by kernel_rfl, by kernel_rfl, (fun _ => ⟨_, rfl⟩), (fun h => nomatch h), (fun _ => ⟨by kernel_rfl, by kernel_rfl, fun fs h => names_ok (by kernel_rfl) h⟩)⟩
theorem tk144 : TyOK Tryz.prog 144 ty144 := ⟨by kernel_rfl, info_of (by kernel_rfl), by kernel_rfl, by kernel_rfl, (fun _ => ⟨_, rfl⟩), (fun h => nomatch h), (fun _ => ⟨by kernel_rfl, by kernel_rfl, fun fs h => names_ok (by kernel_rfl) h⟩)⟩
theorem tk145 : TyOK Tryz.prog 145 ty145 := ⟨by kernel_rfl, info_of (by kernel_rfl), by kernel_rfl, by kernel_rfl, (fun h => nomatch h), (fun _ => rfl), (fun h => nomatch h)⟩
theorem tk146 : TyOK Tryz.prog 146 ty146 := ⟨by kernel_rfl, info_of (by kernel_rfl), by kernel_rfl, by kernel_rfl, (fun h => nomatch h), (fun _ => rfl), (fun h => nomatch h)⟩
theorem tk147 : TyOK Tryz.prog 147 ty147 := ⟨by kernel_rfl, info_of (by kernel_rfl), by kernel_rfl, by kernel_rfl, (fun h => nomatch h), (fun _ => rfl), (fun h => nomatch h)⟩
theorem tk148 : TyOK Tryz.prog 148 ty148 := ⟨by kernel_rfl, info_of (by kernel_rfl), by kernel_rfl, by kernel_rfl, (fun h => nomatch h), (fun _ => rfl), (fun h => nomatch h)⟩
theorem tk149 : TyOK Tryz.prog 149 ty149 := ⟨by kernel_rfl, info_of (by kernel_rfl), by kernel_rfl, by kernel_rfl, (fun h => nomatch h), (fun _ => rfl), (fun h => nomatch h)⟩
theorem tk150 : TyOK Tryz.prog 150 ty150 := ⟨by kernel_rfl, info_of (by kernel_rfl), by kernel_rfl, by kernel_rfl, (fun h => nomatch h), (fun _ => rfl), (fun h => nomatch h)⟩
theorem tk151 : TyOK Tryz.prog 151 ty151 := ⟨by kernel_rfl, info_of (by kernel_rfl), by kernel_rfl, by kernel_rfl, (fun h => nomatch h), (fun _ => rfl), (fun h => nomatch h)⟩
theorem tk152 : TyOK Tryz.prog 152 ty152 := ⟨by kernel_rfl, info_of (by kernel_rfl), by kernel_rfl, by kernel_rfl, (fun h => nomatch h), (fun _ => rfl), (fun h => nomatch h)⟩
theorem tk153 : TyOK Tryz.prog 153 ty153 := ⟨by kernel_rfl, info_of (by kernel_rfl), by kernel_rfl, by kernel_rfl, (fun h => nomatch h), (fun _ => rfl), (fun h => nomatch h)⟩
theorem tk154 : TyOK Tryz.prog 154 ty154 := ⟨by kernel_rfl, info_of (by kernel_rfl), by kernel_rfl, by kernel_rfl, (fun h => nomatch h), (fun _ => rfl), (fun h => nomatch h)⟩
theorem tk155 : TyOK Tryz.prog 155 ty155 := ⟨by kernel_rfl, info_of (by kernel_rfl), by kernel_rfl, by kernel_rfl, (fun h => nomatch h), (fun _ => rfl), (fun h => nomatch h)⟩
theorem tk156 : TyOK Tryz.prog 156 ty156 := ⟨by kernel_rfl, info_of (by kernel_rfl), by kernel_rfl, by kernel_rfl, (fun _ => ⟨_, rfl⟩), (fun h => nomatch h), (fun _ => ⟨by kernel_rfl, by kernel_rfl, fun fs h => names_ok (by kernel_rfl) h⟩)⟩
theorem tk157 : TyOK Tryz.prog 157 ty157 := ⟨by kernel_rfl, info_of (by kernel_rfl), by kernel_rfl, by kernel_rfl, (fun _ => ⟨_, rfl⟩), (fun h => nomatch h), (fun _ => ⟨by kernel_rfl, by kernel_rfl, fun fs h => names_ok (by kernel_rfl) h⟩)⟩
theorem tk158 : TyOK Tryz.prog 158 ty158 := ⟨by kernel_rfl, info_of (by kernel_rfl), by kernel_rfl, by kernel_rfl, (fun h => nomatch h), (fun _ => rfl), (fun h => nomatch h)⟩
theorem tk160 : TyOK Tryz.prog 160 ty160 := ⟨by kernel_rfl, info_of (by kernel_rfl), by kernel_rfl, by kernel_rfl, (fun h => nomatch h), (fun _ => rfl), (fun h => nomatch h)⟩
theorem tk161 : TyOK Tryz.prog 161 ty161 := ⟨by kernel_rfl, info_of (by kernel_rfl), by kernel_rfl, by kernel_rfl, (fun h => nomatch h), (fun _ => rfl), (fun h => nomatch h)⟩
theorem tk162 : TyOK Tryz.prog 162 ty162 := ⟨by kernel_rfl, info_of (by kernel_rfl), by kernel_rfl, by kernel_rfl, (fun h => nomatch h), (fun _ => rfl), (fun h => nomatch h)⟩
theorem tk163 : TyOK Tryz.prog 163 ty163 := ⟨by kernel_rfl, info_of (by kernel_rfl), by kernel_rfl, by kernel_rfl, (fun h => nomatch h), (fun _ => rfl), (fun h => nomatch h)⟩
theorem tk164 : TyOK Tryz.prog 164 ty164 := ⟨by kernel_rfl, info_of (by kernel_rfl), by kernel_rfl, by kernel_rfl, (fun h => nomatch h), (fun _ => rfl), (fun h => nomatch h)⟩
theorem tk165 : TyOK Tryz.prog 165 ty165 := ⟨by kernel_rfl, info_of (by kernel_rfl), by kernel_rfl, by kernel_rfl, (fun h => nomatch h), (fun _ => rfl), (fun h => nomatch h)⟩
theorem tk166 : TyOK Tryz.prog 166 ty166 := ⟨by kernel_rfl, info_of (by kernel_rfl), by kernel_rfl, by kernel_rfl, (fun _ => ⟨_, rfl⟩), (fun h => nomatch h), (fun h => nomatch h)⟩
theorem tk167 : TyOK Tryz.prog 167 ty167 := ⟨by kernel_rfl, info_of (by kernel_rfl), by kernel_rfl, by kernel_rfl, (fun h => nomatch h), (fun _ => rfl), (fun h => nomatch h)⟩
theorem tk168 : TyOK Tryz.prog 168 ty168 := ⟨by kernel_rfl, info_of (by kernel_rfl), by kernel_rfl, by kernel_rfl, (fun h => nomatch h), (fun _ => rfl), (fun h => nomatch h)⟩
theorem tk169 : TyOK Tryz.prog 169 ty169 := ⟨by kernel_rfl, info_of (by kernel_rfl), by kernel_rfl, by kernel_rfl, (fun h => nomatch h), (fun _ => rfl), (fun h => nomatch h)⟩
theorem tk170 : TyOK Tryz.prog 170 ty170 := ⟨by kernel_rfl, info_of (by kernel_rfl), by kernel_rfl, by kernel_rfl, (fun h => nomatch h), (fun _ => rfl), (fun h => nomatch h)⟩
theorem tk171 : TyOK Tryz.prog 171 ty171 := ⟨by kernel_rfl, info_of (by kernel_rfl), by kernel_rfl, by kernel_rfl, (fun h => nomatch h), (fun _ => rfl), (fun h => nomatch h)⟩
theorem tk172 : TyOK Tryz.prog 172 ty172 := ⟨by kernel_rfl, info_of (by kernel_rfl), by kernel_rfl, by kernel_rfl, (fun _ => ⟨_, rfl⟩), (fun h => nomatch h), (fun _ => ⟨by kernel_rfl, by kernel_rfl, fun fs h => names_ok (by kernel_rfl) h⟩)⟩
theorem tk173 : TyOK Tryz.prog 173 ty173 := ⟨by kernel_rfl, info_of (by kernel_rfl), by kernel_rfl, by kernel_rfl, (fun _ => ⟨_, rfl⟩), (fun h => nomatch h), (fun _ => ⟨by kernel_rfl, by kernel_rfl, fun fs h => names_ok (by kernel_rfl) h⟩)⟩
theorem tk174 : TyOK Tryz.prog 174 ty174 := ⟨by kernel_rfl, info_of (by kernel_rfl), by kernel_rfl, by kernel_rfl, (fun h => nomatch h), (fun _ => rfl), (fun h => nomatch h)⟩
theorem tk175 : TyOK Tryz.prog 175 ty175 := ⟨by kernel_rfl, info_of (by kernel_rfl), by kernel_rfl, by kernel_rfl, (fun h => nomatch h), (fun _ => rfl), (fun h => nomatch h)⟩
theorem tk176 : TyOK Tryz.prog 176 ty176 := ⟨by kernel_rfl, info_of (by kernel_rfl), by kernel_rfl, by kernel_rfl, (fun h => nomatch h), (fun _ => rfl), (fun h => nomatch h)⟩
theorem tk178 : TyOK Tryz.prog 178 ty178 := ⟨by kernel_rfl, info_of (by kernel_rfl), by kernel_rfl, by kernel_rfl, (fun h => nomatch h), (fun _ => rfl), (fun h => nomatch h)⟩
theorem tk179 : TyOK Tryz.prog 179 ty179 := ⟨by kernel_rfl, info_of (by kernel_rfl), by kernel_rfl, by kernel_rfl, (fun h => nomatch h), (fun _ => rfl), (fun h => nomatch h)⟩
theorem tk180 : TyOK Tryz.prog 180 ty180 := ⟨by kernel_rfl, info_of (by kernel_rfl), by kernel_rfl, by kernel_rfl, (fun h => nomatch h), (fun _ => rfl), (fun h => nomatch h)⟩
theorem tk181 : TyOK Tryz.prog 181 ty181 := ⟨by kernel_rfl, info_of (by kernel_rfl), by kernel_rfl, by kernel_rfl, (fun h => nomatch h), (fun _ => rfl), (fun h => nomatch h)⟩
theorem tk183 : TyOK Tryz.prog 183 ty183 := ⟨by kernel_rfl, info_of (by kernel_rfl), by kernel_rfl, by kernel_rfl, (fun h => nomatch h), (fun _ => rfl), (fun h => nomatch h)⟩
theorem tk184 : TyOK Tryz.prog 184 ty184 := ⟨by kernel_rfl, info_of (by kernel_rfl), by kernel_rfl, by kernel_rfl, (fun h => nomatch h), (fun _ => rfl), (fun h => nomatch h)⟩
theorem tk185 : TyOK Tryz.prog 185 ty185 := ⟨by kernel_rfl, info_of (by kernel_rfl), by kernel_rfl, by kernel_rfl, (fun _ => ⟨_, rfl⟩), (fun h => nomatch h), (fun _ => ⟨by kernel_rfl, by kernel_rfl, fun fs h => names_ok (by kernel_rfl) h⟩)⟩
theorem tk186 : TyOK Tryz.prog 186 ty186 := ⟨by kernel_rfl, info_of (by kernel_rfl), by kernel_rfl, by kernel_rfl, (fun _ => ⟨_, rfl⟩), (fun h => nomatch h), (fun _ => ⟨by kernel_rfl, by kernel_rfl, fun fs h => names_ok (by kernel_rfl) h⟩)⟩
theorem tk187 : TyOK Tryz.prog 187 ty187 := ⟨by kernel_rfl, info_of (by kernel_rfl), by kernel_rfl, by kernel_rfl, (fun h => nomatch h), (fun _ => rfl), (fun h => nomatch h)⟩
theorem tk188 : TyOK Tryz.prog 188 ty188 := ⟨by kernel_rfl, info_of (by kernel_rfl), by kernel_rfl, by kernel_rfl, (fun h => nomatch h), (fun _ => rfl), (fun h => nomatch h)⟩
theorem tk189 : TyOK Tryz.prog 189 ty189 := ⟨by kernel_rfl, info_of (by kernel_rfl), by kernel_rfl, by kernel_rfl, (fun h => nomatch h), (fun _ => rfl), (fun h => nomatch h)⟩
theorem tk190 : TyOK Tryz.prog 190 ty190 := ⟨by kernel_rfl, info_of (by kernel_rfl), by kernel_rfl, by kernel_rfl, (fun h => nomatch h), (fun _ => rfl), (fun h => nomatch h)⟩
theorem tk191 : TyOK Tryz.prog 191 ty191 := ⟨by kernel_rfl, info_of (by kernel_rfl), by kernel_rfl, by kernel_rfl, (fun h => nomatch h), (fun _ => rfl), (fun h => nomatch h)⟩
theorem tk192 : TyOK Tryz.prog 192 ty192 := ⟨by kernel_rfl, info_of (by kernel_rfl), by kernel_rfl, by kernel_rfl, (fun h => nomatch h), (fun _ => rfl), (fun h => nomatch h)⟩
theorem tk194 : TyOK Tryz.prog 194 ty194 := ⟨by kernel_rfl, info_of (by kernel_rfl), by kernel_rfl, by kernel_rfl, (fun h => nomatch h), (fun _ => rfl), (fun h => nomatch h)⟩
theorem tk195 : TyOK Tryz.prog 195 ty195 := ⟨by kernel_rfl, info_of (by kernel_rfl), by kernel_rfl, by kernel_rfl, (fun h => nomatch h), (fun _ => rfl), (fun h => nomatch h)⟩
theorem tk196 : TyOK Tryz.prog 196 ty196 := ⟨by kernel_rfl, info_of (by kernel_rfl), by kernel_rfl, by kernel_rfl, (fun h => nomatch h), (fun _ => rfl), (fun h => nomatch h)⟩
theorem tk197 : TyOK Tryz.prog 197 ty197 := ⟨by kernel_rfl, info_of (by kernel_rfl), by kernel_rfl, by kernel_rfl, (fun h => nomatch h), (fun _ => rfl), (fun h => nomatch h)⟩
theorem tk198 : TyOK Tryz.prog 198 ty198 := ⟨by kernel_rfl, info_of (by kernel_rfl), by kernel_rfl, by kernel_rfl, (fun h => nomatch h), (fun _ => rfl), (fun h => nomatch h)⟩
theorem tk199 : TyOK Tryz.prog 199 ty199 := ⟨by kernel_rfl, info_of (by kernel_rfl), by kernel_rfl, by kernel_rfl, (fun h => nomatch h), (fun _ => rfl), (fun h => nomatch h)⟩
theorem tk200 : TyOK Tryz.prog 200 ty200 := ⟨by kernel_rfl, info_of (by kernel_rfl), by kernel_rfl, by kernel_rfl, (fun h => nomatch h), (fun _ => rfl), (fun h => nomatch h)⟩
theorem tk201 : TyOK Tryz.prog 201 ty201 := ⟨by kernel_rfl, info_of (by kernel_rfl), by kernel_rfl, by kernel_rfl, (fun _ => ⟨_, rfl⟩), (fun h => nomatch h), (fun _ => ⟨by kernel_rfl, by kernel_rfl, fun fs h => names_ok (by kernel_rfl) h⟩)⟩
theorem tk202 : TyOK Tryz.prog 202 ty202 := ⟨by kernel_rfl, info_of (by kernel_rfl), by kernel_rfl, by kernel_rfl, (fun _ => ⟨_, rfl⟩), (fun h => nomatch h), (fun _ => ⟨by kernel_rfl, by kernel_rfl, fun fs h => names_ok (by kernel_rfl) h⟩)⟩
theorem tk203 : TyOK Tryz.prog 203 ty203 := ⟨by kernel_rfl, info_of (by kernel_rfl), by kernel_rfl, by kernel_rfl, (fun h => nomatch h), (fun _ => rfl), (fun h => nomatch h)⟩
theorem tk204 : TyOK Tryz.prog 204 ty204 := ⟨by kernel_rfl, info_of (by kernel_rfl), by kernel_rfl, by kernel_rfl, (fun h => nomatch h), (fun _ => rfl), (fun h => nomatch h)⟩
theorem tk205 : TyOK Tryz.prog 205 ty205 := ⟨by kernel_rfl, info_of (by kernel_rfl), by kernel_rfl, by kernel_rfl, (fun _ => ⟨_, rfl⟩), (fun h => nomatch h), (fun h => nomatch h)⟩
theorem tk206 : TyOK Tryz.prog 206 ty206 := ⟨by kernel_rfl, info_of (by kernel_rfl), by kernel_rfl, by kernel_rfl, (fun _ => ⟨_, rfl⟩), (fun h => nomatch h), (fun h => nomatch h)⟩
theorem tk208 : TyOK Tryz.prog 208 ty208 := ⟨by kernel_rfl, info_of (by kernel_rfl), by kernel_rfl, by kernel_rfl, (fun h => nomatch h), (fun _ => rfl), (fun h => nomatch h)⟩
theorem tk210 : TyOK Tryz.prog 210 ty210 := ⟨by kernel_rfl, info_of (by kernel_rfl), by kernel_rfl, by kernel_rfl, (fun h => nomatch h), (fun _ => rfl), (fun h => nomatch h)⟩
theorem tk211 : TyOK Tryz.prog 211 ty211 := ⟨by kernel_rfl, info_of (by kernel_rfl), by kernel_rfl, by kernel_rfl, (fun h => nomatch h), (fun _ => rfl), (fun h => nomatch h)⟩
theorem tk212 : TyOK Tryz.prog 212 ty212 := ⟨by kernel_rfl, info_of (by kernel_rfl), by kernel_rfl, by kernel_rfl, (fun h => nomatch h), (fun _ => rfl), (fun h => nomatch h)⟩
theorem tk213 : TyOK Tryz.prog 213 ty213 := ⟨by kernel_rfl, info_of (by kernel_rfl), by kernel_rfl, by kernel_rfl, (fun h => nomatch h), (fun _ => rfl), (fun h => nomatch h)⟩
theorem tk215 : TyOK Tryz.prog 215 ty215 := ⟨by kernel_rfl, info_of (by kernel_rfl), by kernel_rfl, by kernel_rfl, (fun _ => ⟨_, rfl⟩), (fun h => nomatch h), (fun _ => ⟨by kernel_rfl, by kernel_rfl, fun fs h => names_ok (by kernel_rfl) h⟩)⟩
theorem tk216 : TyOK Tryz.prog 216 ty216 := ⟨by kernel_rfl, info_of (by kernel_rfl), by kernel_rfl, by kernel_rfl, (fun _ => ⟨_, rfl⟩), (fun h => nomatch h), (fun _ => ⟨by kernel_rfl, by kernel_rfl, fun fs h => names_ok (by kernel_rfl) h⟩)⟩
theorem tk217 : TyOK Tryz.prog 217 ty217 := ⟨by kernel_rfl, info_of (by kernel_rfl), by kernel_rfl, by kernel_rfl, (fun h => nomatch h), (fun _ => rfl), (fun h => nomatch h)⟩
theorem tk218 : TyOK Tryz.prog 218 ty218 := ⟨by kernel_rfl, info_of (by kernel_rfl), by kernel_rfl, by kernel_rfl, (fun h => nomatch h), (fun _ => rfl), (fun h => nomatch h)⟩
theorem tk219 : TyOK Tryz.prog 219 ty219 := ⟨by kernel_rfl, info_of (by kernel_rfl), by kernel_rfl, by kernel_rfl, (fun h => nomatch h), (fun _ => rfl), (fun h => nomatch h)⟩
theorem tk220 : TyOK Tryz.prog 220 ty220 := ⟨by kernel_rfl, info_of (by kernel_rfl), by kernel_rfl, by kernel_rfl, (fun h => nomatch h), (fun _ => rfl), (fun h => nomatch h)⟩
theorem tk221 : TyOK Tryz.prog 221 ty221 := ⟨by kernel_rfl, info_of (by kernel_rfl), by kernel_rfl, by kernel_rfl, (fun h => nomatch h), (fun _ => rfl), (fun h => nomatch h)⟩
theorem tk222 : TyOK Tryz.prog 222 ty222 := ⟨by kernel_rfl, info_of (by kernel_rfl), by kernel_rfl, by kernel_rfl, (fun h => nomatch h), (fun _ => rfl), (fun h => nomatch h)⟩
theorem tk223 : TyOK Tryz.prog 223 ty223 := ⟨by kernel_rfl, info_of (by kernel_rfl), by kernel_rfl, by kernel_rfl, (fun _ => ⟨_, rfl⟩), (fun h => nomatch h), (fun h => nomatch h)⟩
theorem tk224 : TyOK Tryz.prog 224 ty224 := ⟨by kernel_rfl, info_of (by kernel_rfl), by kernel_rfl, by kernel_rfl, (fun h => nomatch h), (fun _ => rfl), (fun h => nomatch h)⟩
theorem tk225 : TyOK Tryz.prog 225 ty225 := ⟨by kernel_rfl, info_of (by kernel_rfl), by kernel_rfl, by kernel_rfl, (fun h => nomatch h), (fun _ => rfl), (fun h => nomatch h)⟩
theorem tk227 : TyOK Tryz.prog 227 ty227 := ⟨by kernel_rfl, info_of (by kernel_rfl), by kernel_rfl, by kernel_rfl, (fun h => nomatch h), (fun _ => rfl), (fun h => nomatch h)⟩
theorem tk228 : TyOK Tryz.prog 228 ty228 := ⟨by kernel_rfl, info_of (by kernel_rfl), by kernel_rfl, by kernel_rfl, (fun h => nomatch h), (fun _ => rfl), (fun h => nomatch h)⟩
theorem tk229 : TyOK Tryz.prog 229 ty229 := ⟨by kernel_rfl, info_of (by kernel_rfl), by kernel_rfl, by kernel_rfl, (fun h => nomatch h), (fun _ => rfl), (fun h => nomatch h)⟩
theorem tk230 : TyOK Tryz.prog 230 ty230 := ⟨by kernel_rfl, info_of (by kernel_rfl), by kernel_rfl, by kernel_rfl, (fun h => nomatch h), (fun _ => rfl), (fun h => nomatch h)⟩
theorem tk231 : TyOK Tryz.prog 231 ty231 := ⟨by kernel_rfl, info_of (by kernel_rfl), by kernel_rfl, by kernel_rfl, (fun h => nomatch h), (fun _ => rfl), (fun h => nomatch h)⟩
theorem tk232 : TyOK Tryz.prog 232 ty232 := ⟨by kernel_rfl, info_of (by kernel_rfl), by kernel_rfl, by kernel_rfl, (fun h => nomatch h), (fun _ => rfl), (fun h => nomatch h)⟩
theorem tk233 : TyOK Tryz.prog 233 ty233 := ⟨by kernel_rfl, info_of (by kernel_rfl), by kernel_rfl, by kernel_rfl, (fun h => nomatch h), (fun _ => rfl), (fun h => nomatch h)⟩
theorem tk234 : TyOK Tryz.prog 234 ty234 := ⟨by kernel_rfl, info_of (by kernel_rfl), by kernel_rfl, by kernel_rfl, (fun h => nomatch h), (fun _ => rfl), (fun h => nomatch h)⟩
theorem tk235 : TyOK Tryz.prog 235 ty235 := ⟨by kernel_rfl, info_of (by kernel_rfl), by kernel_rfl, by kernel_rfl, (fun h => nomatch h), (fun _ => rfl), (fun h => nomatch h)⟩
theorem tk236 : TyOK Tryz.prog 236 ty236 := ⟨by kernel_rfl, info_of (by kernel_rfl), by kernel_rfl, by kernel_rfl, (fun h => nomatch h), (fun _ => rfl), (fun h => nomatch h)⟩
theorem tk237 : TyOK Tryz.prog 237 ty237 := ⟨by kernel_rfl, info_of (by kernel_rfl), by kernel_rfl, by kernel_rfl, (fun h => nomatch h), (fun _ => rfl), (fun h => nomatch h)⟩
theorem tk239 : TyOK Tryz.prog 239 ty239 := ⟨by kernel_rfl, info_of (by kernel_rfl), by kernel_rfl, by kernel_rfl, (fun h => nomatch h), (fun _ => rfl), (fun h => nomatch h)⟩
theorem tk240 : TyOK Tryz.prog 240 ty240 := ⟨by kernel_rfl, info_of (by kernel_rfl), by kernel_rfl, by kernel_rfl, (fun h => nomatch h), (fun _ => rfl), (fun h => nomatch h)⟩
theorem tk241 : TyOK Tryz.prog 241 ty241 := ⟨by kernel_rfl, info_of (by kernel_rfl), by kernel_rfl, by kernel_rfl, (fun h => nomatch h), (fun _ => rfl), (fun h => nomatch h)⟩
theorem tk242 : TyOK Tryz.prog 242 ty242 := ⟨by kernel_rfl, info_of (by kernel_rfl), by kernel_rfl, by kernel_rfl, (fun h => nomatch h), (fun _ => rfl), (fun h => nomatch h)⟩
theorem tk243 : TyOK Tryz.prog 243 ty243 := ⟨by kernel_rfl, info_of (by kernel_rfl), by kernel_rfl, by kernel_rfl, (fun h => nomatch h), (fun _ => rfl), (fun h => nomatch h)⟩
theorem tk244 : TyOK Tryz.prog 244 ty244 := ⟨by kernel_rfl, info_of (by kernel_rfl), by kernel_rfl, by kernel_rfl, (fun h => nomatch h), (fun _ => rfl), (fun h => nomatch h)⟩
theorem tk245 : TyOK Tryz.prog 245 ty245 := ⟨by kernel_rfl, info_of (by kernel_rfl), by kernel_rfl, by kernel_rfl, (fun h => nomatch h), (fun _ => rfl), (fun h => nomatch h)⟩
theorem tk246 : TyOK Tryz.prog 246 ty246 := ⟨by kernel_rfl, info_of (by kernel_rfl), by kernel_rfl, by kernel_rfl, (fun h => nomatch h), (fun _ => rfl), (fun h => nomatch h)⟩
theorem tk247 : TyOK Tryz.prog 247 ty247 := ⟨by kernel_rfl, info_of (by kernel_rfl), by kernel_rfl, by kernel_rfl, (fun h => nomatch h), (fun _ => rfl), (fun h => nomatch h)⟩
theorem tk248 : TyOK Tryz.prog 248 ty248 := ⟨by kernel_rfl, info_of (by kernel_rfl), by kernel_rfl, by kernel_rfl, (fun h => nomatch h), (fun _ => rfl), (fun h => nomatch h)⟩
theorem tk249 : TyOK Tryz.prog 249 ty249 := ⟨by kernel_rfl, info_of (by kernel_rfl), by kernel_rfl, by kernel_rfl, (fun h => nomatch h), (fun _ => rfl), (fun h => nomatch h)⟩
theorem tk251 : TyOK Tryz.prog 251 ty251 := ⟨by kernel_rfl, info_of (by kernel_rfl), by kernel_rfl, by kernel_rfl, (fun h => nomatch h), (fun _ => rfl), (fun h => nomatch h)⟩
theorem tk252 : TyOK Tryz.prog 252 ty252 := ⟨by kernel_rfl, info_of (by kernel_rfl), by kernel_rfl, by kernel_rfl, (fun h => nomatch h), (fun _ => rfl), (fun h => nomatch h)⟩
theorem tk253 : TyOK Tryz.prog 253 ty253 := ⟨by kernel_rfl, info_of (by kernel_rfl), by kernel_rfl, by kernel_rfl, (fun h => nomatch h), (fun _ => rfl), (fun h => nomatch h)⟩
theorem tk255 : TyOK Tryz.prog 255 ty255 := ⟨by kernel_rfl, info_of (by kernel_rfl), by kernel_rfl, by kernel_rfl, (fun h => nomatch h), (fun _ => rfl), (fun h => nomatch h)⟩
theorem tk256 : TyOK Tryz.prog 256 ty256 := ⟨by kernel_rfl, info_of (by kernel_rfl), by kernel_rfl, by kernel_rfl, (fun h => nomatch h), (fun _ => rfl), (fun h => nomatch h)⟩
theorem tk257 : TyOK Tryz.prog 257 ty257 := ⟨by kernel_rfl, info_of (by kernel_rfl), by kernel_rfl, by kernel_rfl, (fun h => nomatch h), (fun _ => rfl), (fun h => nomatch h)⟩
theorem tk258 : TyOK Tryz.prog 258 ty258 := ⟨by kernel_rfl, info_of (by kernel_rfl), by kernel_rfl, by kernel_rfl, (fun h => nomatch h), (fun _ => rfl), (fun h => nomatch h)⟩
theorem tk259 : TyOK Tryz.prog 259 ty259 := ⟨by kernel_rfl, info_of (by kernel_rfl), by kernel_rfl, by kernel_rfl, (fun h => nomatch h), (fun _ => rfl), (fun h => nomatch h)⟩
theorem tk261 : TyOK Tryz.prog 261 ty261 := ⟨by kernel_rfl, info_of (by kernel_rfl), by kernel_rfl, by kernel_rfl, (fun h => nomatch h), (fun _ => rfl), (fun h => nomatch h)⟩
theorem tk262 : TyOK Tryz.prog 262 ty262 := ⟨by kernel_rfl, info_of (by kernel_rfl), by kernel_rfl, by kernel_rfl, (fun h => nomatch h), (fun _ => rfl), (fun h => nomatch h)⟩
theorem tk263 : TyOK Tryz.prog 263 ty263 := ⟨by kernel_rfl, info_of (by kernel_rfl), by kernel_rfl, by kernel_rfl, (fun h => nomatch h), (fun _ => rfl), (fun h => nomatch h)⟩
theorem tk265 : TyOK Tryz.prog 265 ty265 := ⟨by kernel_rfl, info_of (by kernel_rfl), by kernel_rfl, by kernel_rfl, (fun h => nomatch h), (fun _ => rfl), (fun h => nomatch h)⟩
theorem tk266 : TyOK Tryz.prog 266 ty266 := ⟨by kernel_rfl, info_of (by kernel_rfl), by kernel_rfl, by kernel_rfl, (fun h => nomatch h), (fun _ => rfl), (fun h => nomatch h)⟩
theorem tk267 : TyOK Tryz.prog 267 ty267 := ⟨by kernel_rfl, info_of (by kernel_rfl), by kernel_rfl, by kernel_rfl, (fun h => nomatch h), (fun _ => rfl), (fun h => nomatch h)⟩
theorem tk268 : TyOK Tryz.prog 268 ty268 := ⟨by kernel_rfl, info_of (by kernel_rfl), by kernel_rfl, by kernel_rfl, (fun h => nomatch h), (fun _ => rfl), (fun h => nomatch h)⟩
theorem tk269 : TyOK Tryz.prog 269 ty269 := ⟨by kernel_rfl, info_of (by kernel_rfl), by kernel_rfl, by kernel_rfl, (fun h => nomatch h), (fun _ => rfl), (fun h => nomatch h)⟩
theorem tk270 : TyOK Tryz.prog 270 ty270 := ⟨by kernel_rfl, info_of (by kernel_rfl), by kernel_rfl, by kernel_rfl, (fun h => nomatch h), (fun _ => rfl), (fun h => nomatch h)⟩
theorem tk271 : TyOK Tryz.prog 271 ty271 := ⟨by kernel_rfl, info_of (by kernel_rfl), by kernel_rfl, by kernel_rfl, (fun h => nomatch h), (fun _ => rfl), (fun h => nomatch h)⟩
theorem tk272 : TyOK Tryz.prog 272 ty272 := ⟨by kernel_rfl, info_of (by kernel_rfl), by kernel_rfl, by kernel_rfl, (fun h => nomatch h), (fun _ => rfl), (fun h => nomatch h)⟩
theorem tk273 : TyOK Tryz.prog 273 ty273 := ⟨by kernel_rfl, info_of (by kernel_rfl), by kernel_rfl, by kernel_rfl, (fun h => nomatch h), (fun _ => rfl), (fun h => nomatch h)⟩
theorem tk274 : TyOK Tryz.prog 274 ty274 := ⟨by kernel_rfl, info_of (by kernel_rfl), by kernel_rfl, by kernel_rfl, (fun h => nomatch h), (fun _ => rfl), (fun h => nomatch h)⟩
theorem tk275 : TyOK Tryz.prog 275 ty275 := ⟨by kernel_rfl, info_of (by kernel_rfl), by kernel_rfl, by kernel_rfl, (fun _ => ⟨_, rfl⟩), (fun h => nomatch h), (fun h => nomatch h)⟩
theorem tk276 : TyOK Tryz.prog 276 ty276 := ⟨by kernel_rfl, info_of (by kernel_rfl), by kernel_rfl, by kernel_rfl, (fun _ => ⟨_, rfl⟩), (fun h => nomatch h), (fun _ => ⟨by kernel_rfl, by kernel_rfl, fun fs h => names_ok (by kernel_rfl) h⟩)⟩
theorem tk277 : TyOK Tryz.prog 277 ty277 := ⟨by kernel_rfl, info_of (by kernel_rfl), by kernel_rfl, by kernel_rfl, (fun _ => ⟨_, rfl⟩), (fun h => nomatch h), (fun _ => ⟨by kernel_rfl, by kernel_rfl, fun fs h => names_ok (by kernel_rfl) h⟩)⟩
theorem tk278 : TyOK Tryz.prog 278 ty278 := ⟨by kernel_rfl, info_of (by kernel_rfl), by kernel_rfl, by kernel_rfl, (fun _ => ⟨_, rfl⟩), (fun h => nomatch h), (fun h => nomatch h)⟩
theorem tk279 : TyOK Tryz.prog 279 ty279 := ⟨by kernel_rfl, info_of (by kernel_rfl), by kernel_rfl, by kernel_rfl, (fun h => nomatch h), (fun _ => rfl), (fun h => nomatch h)⟩
theorem tk280 : TyOK Tryz.prog 280 ty280 := ⟨by kernel_rfl, info_of (by kernel_rfl), by kernel_rfl, by kernel_rfl, (fun h => nomatch h), (fun _ => rfl), (fun h => nomatch h)⟩
theorem tk281 : TyOK Tryz.prog 281 ty281 := ⟨by kernel_rfl, info_of (by kernel_rfl), by kernel_rfl, by kernel_rfl, (fun h => nomatch h), (fun _ => rfl), (fun h => nomatch h)⟩
theorem tk283 : TyOK Tryz.prog 283 ty283 := ⟨by kernel_rfl, info_of (by kernel_rfl), by kernel_rfl, by kernel_rfl, (fun h => nomatch h), (fun _ => rfl), (fun h => nomatch h)⟩
theorem tk284 : TyOK Tryz.prog 284 ty284 := ⟨by kernel_rfl, info_of (by kernel_rfl), by kernel_rfl, by kernel_rfl, (fun _ => ⟨_, rfl⟩), (fun h => nomatch h), (fun h => nomatch h)⟩
theorem tk285 : TyOK Tryz.prog 285 ty285 := ⟨by kernel_rfl, info_of (by kernel_rfl), by kernel_rfl, by kernel_rfl, (fun _ => ⟨_, rfl⟩), (fun h => nomatch h), (fun h => nomatch h)⟩
theorem tk286 : TyOK Tryz.prog 286 ty286 := ⟨by kernel_rfl, info_of (by kernel_rfl), by kernel_rfl, by kernel_rfl, (fun h => nomatch h), (fun _ => rfl), (fun h => nomatch h)⟩
theorem tk287 : TyOK Tryz.prog 287 ty287 := ⟨by kernel_rfl, info_of (by kernel_rfl), by kernel_rfl, by kernel_rfl, (fun h => nomatch h), (fun _ => rfl), (fun h => nomatch h)⟩
theorem tk288 : TyOK Tryz.prog 288 ty288 := ⟨by kernel_rfl, info_of (by kernel_rfl), by kernel_rfl, by kernel_rfl, (fun h => nomatch h), (fun _ => rfl), (fun h => nomatch h)⟩
theorem tk290 : TyOK Tryz.prog 290 ty290 := ⟨by kernel_rfl, info_of (by kernel_rfl), by kernel_rfl, by kernel_rfl, (fun h => nomatch h), (fun _ => rfl), (fun h => nomatch h)⟩
theorem tk291 : TyOK Tryz.prog 291 ty291 := ⟨by kernel_rfl, info_of (by kernel_rfl), by kernel_rfl, by kernel_rfl, (fun h => nomatch h), (fun _ => rfl), (fun h => nomatch h)⟩
theorem tk292 : TyOK Tryz.prog 292 ty292 := ⟨by kernel_rfl, info_of (by kernel_rfl), by kernel_rfl, by kernel_rfl, (fun h => nomatch h), (fun _ => rfl), (fun h => nomatch h)⟩
theorem tk293 : TyOK Tryz.prog 293 ty293 := ⟨by kernel_rfl, info_of (by kernel_rfl), by kernel_rfl, by kernel_rfl, (fun _ => ⟨_, rfl⟩), (fun h => nomatch h), (fun _ => ⟨by kernel_rfl, by kernel_rfl, fun fs h => names_ok (by kernel_rfl) h⟩)⟩
theorem tk294 : TyOK Tryz.prog 294 ty294 := ⟨by kernel_rfl, info_of (by kernel_rfl), by kernel_rfl, by kernel_rfl, (fun _ => ⟨_, rfl⟩), (fun h => nomatch h), (fun _ => ⟨by kernel_rfl, by kernel_rfl, fun fs h => names_ok (by kernel_rfl) h⟩)⟩
theorem tk295 : TyOK Tryz.prog 295 ty295 := ⟨by kernel_rfl, info_of (by kernel_rfl), by kernel_rfl, by kernel_rfl, (fun h => nomatch h), (fun _ => rfl), (fun h => nomatch h)⟩
theorem tk296 : TyOK Tryz.prog 296 ty296 := ⟨by kernel_rfl, info_of (by kernel_rfl), by kernel_rfl, by kernel_rfl, (fun h => nomatch h), (fun _ => rfl), (fun h => nomatch h)⟩
theorem tk297 : TyOK Tryz.prog 297 ty297 := ⟨by kernel_rfl, info_of (by kernel_rfl), by kernel_rfl, by kernel_rfl, (fun _ => ⟨_, rfl⟩), (fun h => nomatch h), (fun h => nomatch h)⟩
theorem tk298 : TyOK Tryz.prog 298 ty298 := ⟨by kernel_rfl, info_of (by kernel_rfl), by kernel_rfl, by kernel_rfl, (fun h => nomatch h), (fun _ => rfl), (fun h => nomatch h)⟩
theorem tk300 : TyOK Tryz.prog 300 ty300 := ⟨by kernel_rfl, info_of (by kernel_rfl), by kernel_rfl, by kernel_rfl, (fun h => nomatch h), (fun _ => rfl), (fun h => nomatch h)⟩
theorem tk301 : TyOK Tryz.prog 301 ty301 := ⟨by kernel_rfl, info_of (by kernel_rfl), by kernel_rfl, by kernel_rfl, (fun h => nomatch h), (fun _ => rfl), (fun h => nomatch h)⟩
theorem tk302 : TyOK Tryz.prog 302 ty302 := ⟨by kernel_rfl, info_of (by kernel_rfl), by kernel_rfl, by kernel_rfl, (fun _ => ⟨_, rfl⟩), (fun h => nomatch h), (fun h => nomatch h)⟩
theorem tk303 : TyOK Tryz.prog 303 ty303 := ⟨by kernel_rfl, info_of (by kernel_rfl), by kernel_rfl, by kernel_rfl, (fun _ => ⟨_, rfl⟩), (fun h => nomatch h), (fun h => nomatch h)⟩
theorem tk304 : TyOK Tryz.prog 304 ty304 := ⟨by kernel_rfl, info_of (by kernel_rfl), by kernel_rfl, by kernel_rfl, (fun _ => ⟨_, rfl⟩), (fun h => nomatch h), (fun h => nomatch h)⟩
theorem tk305 : TyOK Tryz.prog 305 ty305 := ⟨by kernel_rfl, info_of (by kernel_rfl), by kernel_rfl, by kernel_rfl, (fun _ => ⟨_, rfl⟩), (fun h => nomatch h), (fun h => nomatch h)⟩
theorem tk306 : TyOK Tryz.prog 306 ty306 := ⟨by kernel_rfl, info_of (by kernel_rfl), by kernel_rfl, by kernel_rfl, (fun _ => ⟨_, rfl⟩), (fun h => nomatch h), (fun h => nomatch h)⟩
theorem tk307 : TyOK Tryz.prog 307 ty307 := ⟨by kernel_rfl, info_of (by kernel_rfl), by kernel_rfl, by kernel_rfl, (fun _ => ⟨_, rfl⟩), (fun h => nomatch h), (fun h => nomatch h)⟩
theorem tk308 : TyOK Tryz.prog 308 ty308 := ⟨by kernel_rfl, info_of (by kernel_rfl), by kernel_rfl, by kernel_rfl, (fun _ => ⟨_, rfl⟩), (fun h => nomatch h), (fun h => nomatch h)⟩
theorem tk309 : TyOK Tryz.prog 309 ty309 := ⟨by kernel_rfl, info_of (by kernel_rfl), by kernel_rfl, by kernel_rfl, (fun _ => ⟨_, rfl⟩), (fun h => nomatch h), (fun h => nomatch h)⟩
theorem tk310 : TyOK Tryz.prog 310 ty310 := ⟨by kernel_rfl, info_of (by kernel_rfl), by kernel_rfl, by kernel_rfl, (fun _ => ⟨_, rfl⟩), (fun h => nomatch h), (fun h => nomatch h)⟩
theorem tk311 : TyOK Tryz.prog 311 ty311 := ⟨by kernel_rfl, info_of (by kernel_rfl), by kernel_rfl, by kernel_rfl, (fun h => nomatch h), (fun _ => rfl), (fun h => nomatch h)⟩
theorem tk312 : TyOK Tryz.prog 312 ty312 := ⟨by kernel_rfl, info_of (by kernel_rfl), by kernel_rfl, by kernel_rfl, (fun h => nomatch h), (fun _ => rfl), (fun h => nomatch h)⟩
theorem tk313 : TyOK Tryz.prog 313 ty313 := ⟨by kernel_rfl, info_of (by kernel_rfl), by kernel_rfl, by kernel_rfl, (fun h => nomatch h), (fun _ => rfl), (fun h => nomatch h)⟩
theorem tk314 : TyOK Tryz.prog 314 ty314 := ⟨by kernel_rfl, info_of (by kernel_rfl), by kernel_rfl, by kernel_rfl, (fun h => nomatch h), (fun _ => rfl), (fun h => nomatch h)⟩
theorem tk315 : TyOK Tryz.prog 315 ty315 := ⟨by kernel_rfl, info_of (by kernel_rfl), by kernel_rfl, by kernel_rfl, (fun h => nomatch h), (fun _ => rfl), (fun h => nomatch h)⟩
theorem tk316 : TyOK Tryz.prog 316 ty316 := ⟨by kernel_rfl, info_of (by kernel_rfl), by kernel_rfl, by kernel_rfl, (fun h => nomatch h), (fun _ => rfl), (fun h => nomatch h)⟩
theorem tk317 : TyOK Tryz.prog 317 ty317 := ⟨by kernel_rfl, info_of (by kernel_rfl), by kernel_rfl, by kernel_rfl, (fun _ => ⟨_, rfl⟩), (fun h => nomatch h), (fun h => nomatch h)⟩
theorem tk318 : TyOK Tryz.prog 318 ty318 := ⟨by kernel_rfl, info_of (by kernel_rfl), by kernel_rfl, by kernel_rfl, (fun _ => ⟨_, rfl⟩), (fun h => nomatch h), (fun h => nomatch h)⟩
theorem fk2 : FnOK Tryz.prog 2 Tryz.f2 := ⟨Tryz.func2, by kernel_rfl, fun c h => by injection h with h; subst h; kernel_rfl⟩
theorem fk3 : FnOK Tryz.prog 3 Tryz.f3 := ⟨Tryz.func3, by kernel_rfl, fun c h => by injection h with h; subst h; kernel_rfl⟩
theorem fk4 : FnOK Tryz.prog 4 Tryz.f4 := ⟨Tryz.func4, by kernel_rfl, fun c h => by injection h with h; subst h; kernel_rfl⟩
theorem fk5 : FnOK Tryz.prog 5 Tryz.f5 := ⟨Tryz.func5, by kernel_rfl, fun c h => by injection h with h; subst h; kernel_rfl⟩
theorem fk6 : FnOK Tryz.prog 6 Tryz.f6 := ⟨Tryz.func6, by kernel_rfl, fun c h => by injection h with h; subst h; kernel_rfl⟩
theorem fk7 : FnOK Tryz.prog 7 Tryz.f7 := ⟨Tryz.func7, by kernel_rfl, fun c h => by injection h with h; subst h; kernel_rfl⟩
theorem fk8 : FnOK Tryz.prog 8 Tryz.f8 := ⟨Tryz.func8, by kernel_rfl, fun c h => by injection h with h; subst h; kernel_rfl⟩
theorem fk9 : FnOK Tryz.prog 9 Tryz.f9 := ⟨Tryz.func9, by kernel_rfl, fun c h => by injection h with h; subst h; kernel_rfl⟩
theorem fk10 : FnOK Tryz.prog 10 Tryz.f10 := ⟨Tryz.func10, by kernel_rfl, fun c h => by injection h with h; subst h; kernel_rfl⟩
theorem fk11 : FnOK Tryz.prog 11 Tryz.f11 := ⟨Tryz.func11, by kernel_rfl, fun c h => by injection h with h; subst h; kernel_rfl⟩
theorem fk12 : FnOK Tryz.prog 12 Tryz.f12 := ⟨Tryz.func12, by kernel_rfl, fun c h => by injection h with h; subst h; kernel_rfl⟩
theorem fk13 : FnOK Tryz.prog 13 Tryz.f13 := ⟨Tryz.func13, by kernel_rfl, fun c h => by injection h with h; subst h; kernel_rfl⟩
theorem fk14 : FnOK Tryz.prog 14 Tryz.f14 := ⟨Tryz.func14, by kernel_rfl, fun c h => by injection h with h; subst h; kernel_rfl⟩
theorem fk15 : FnOK Tryz.prog 15 Tryz.f15 := ⟨Tryz.func15, by kernel_rfl, fun c h => by injection h with h; subst h; kernel_rfl⟩
theorem fk16 : FnOK Tryz.prog 16 Tryz.f16 := ⟨Tryz.func16, by kernel_rfl, fun c h => by injection h with h; subst h; kernel_rfl⟩
theorem fk17 : FnOK Tryz.prog 17 Tryz.f17 := ⟨Tryz.func17, by kernel_rfl, fun c h => by injection h with h; subst h; kernel_rfl⟩
theorem fk18 : FnOK Tryz.prog 18 Tryz.f18 := ⟨Tryz.func18, by kernel_rfl, fun c h => by injection h with h; subst h; kernel_rfl⟩
theorem fk19 : FnOK Tryz.prog 19 Tryz.f19 := ⟨Tryz.func19, by kernel_rfl, fun c h => by injection h with h; subst h; kernel_rfl⟩
theorem fk20 : FnOK Tryz.prog 20 Tryz.f20 := ⟨Tryz.func20, by kernel_rfl, fun c h => by injection h with h; subst h; kernel_rfl⟩
theorem fk21 : FnOK Tryz.prog 21 Tryz.f21 := ⟨Tryz.func21, by kernel_rfl, fun c h => by injection h with h; subst h; kernel_rfl⟩
theorem fk22 : FnOK Tryz.prog 22 Tryz.f22 := ⟨Tryz.func22, by kernel_rfl, fun c h => by injection h with h; subst h; kernel_rfl⟩
theorem fk23 : FnOK Tryz.prog 23 Tryz.f23 := ⟨Tryz.func23, by kernel_rfl, fun c h => by injection h with h; subst h; kernel_rfl⟩
theorem fk24 : FnOK Tryz.prog 24 Tryz.f24 := ⟨Tryz.func24, by kernel_rfl, fun c h => by injection h with h; subst h; kernel_rfl⟩
theorem fk25 : FnOK Tryz.prog 25 Tryz.f25 := ⟨Tryz.func25, by kernel_rfl, fun c h => by injection h with h; subst h; kernel_rfl⟩
theorem fk26 : FnOK Tryz.prog 26 Tryz.f26 := ⟨Tryz.func26, by kernel_rfl, fun c h => by injection h with h; subst h; kernel_rfl⟩
theorem fk27 : FnOK Tryz.prog 27 Tryz.f27 := ⟨Tryz.func27, by kernel_rfl, fun c h => by injection h with h; subst h; kernel_rfl⟩
theorem fk28 : FnOK Tryz.prog 28 Tryz.f28 := ⟨Tryz.func28, by kernel_rfl, fun c h => by injection h with h; subst h; kernel_rfl⟩
theorem fk29 : FnOK Tryz.prog 29 Tryz.f29 := ⟨Tryz.func29, by kernel_rfl, fun c h => by injection h with h; subst h; kernel_rfl⟩
theorem fk30 : FnOK Tryz.prog 30 Tryz.f30 := ⟨Tryz.func30, by kernel_rfl, fun c h => by injection h with h; subst h; kernel_rfl⟩
theorem fk31 : FnOK Tryz.prog 31 Tryz.f31 := ⟨Tryz.func31, by kernel_rfl, fun c h => by injection h with h; subst h; kernel_rfl⟩
theorem fk32 : FnOK Tryz.prog 32 Tryz.f32 := ⟨Tryz.func32, by kernel_rfl, fun c h => by injection h with h; subst h; kernel_rfl⟩
theorem fk33 : FnOK Tryz.prog 33 Tryz.f33 := ⟨Tryz.func33, by kernel_rfl, fun c h => by injection h with h; subst h; kernel_rfl⟩
theorem fk34 : FnOK Tryz.prog 34 Tryz.f34 := ⟨Tryz.func34, by kernel_rfl, fun c h => by injection h with h; subst h; kernel_rfl⟩
theorem fk35 : FnOK Tryz.prog 35 Tryz.f35 := ⟨Tryz.func35, by kernel_rfl, fun c h => by injection h with h; subst h; kernel_rfl⟩
theorem fk36 : FnOK Tryz.prog 36 Tryz.f36 := ⟨Tryz.func36, by kernel_rfl, fun c h => by injection h with h; subst h; kernel_rfl⟩
theorem fk37 : FnOK Tryz.prog 37 Tryz.f37 := ⟨Tryz.func37, by kernel_rfl, fun c h => by injection h with h; subst h; kernel_rfl⟩
theorem fk38 : FnOK Tryz.prog 38 Tryz.f38 := ⟨Tryz.func38, by kernel_rfl, fun c h => by injection h with h; subst h; kernel_rfl⟩
theorem fk39 : FnOK Tryz.prog 39 Tryz.f39 := ⟨Tryz.func39, by kernel_rfl, fun c h => by injection h with h; subst h; kernel_rfl⟩
theorem fk40 : FnOK Tryz.prog 40 Tryz.f40 := ⟨Tryz.func40, by kernel_rfl, fun c h => by injection h with h; subst h; kernel_rfl⟩
theorem fk41 : FnOK Tryz.prog 41 Tryz.f41 := ⟨Tryz.func41, by kernel_rfl, fun c h => by injection h with h; subst h; kernel_rfl⟩
theorem fk42 : FnOK Tryz.prog 42 Tryz.f42 := ⟨Tryz.func42, by kernel_rfl, fun c h => by injection h with h; subst h; kernel_rfl⟩
theorem fk43 : FnOK Tryz.prog 43 Tryz.f43 := ⟨Tryz.func43, by kernel_rfl, fun c h => by injection h with h; subst h; kernel_rfl⟩
theorem fk44 : FnOK Tryz.prog 44 Tryz.f44 := ⟨Tryz.func44, by kernel_rfl, fun c h => by injection h with h; subst h; kernel_rfl⟩
theorem fk45 : FnOK Tryz.prog 45 Tryz.f45 := ⟨Tryz.func45, by kernel_rfl, fun c h => by injection h with h; subst h; kernel_rfl⟩
theorem fk46 : FnOK Tryz.prog 46 Tryz.f46 := ⟨Tryz.func46, by kernel_rfl, fun c h => by injection h with h; subst h; kernel_rfl⟩
theorem fk47 : FnOK Tryz.prog 47 Tryz.f47 := ⟨Tryz.func47, by kernel_rfl, fun c h => by injection h with h; subst h; kernel_rfl⟩
theorem fk48 : FnOK Tryz.prog 48 Tryz.f48 := ⟨Tryz.func48, by kernel_rfl, fun c h => by injection h with h; subst h; kernel_rfl⟩
theorem fk49 : FnOK Tryz.prog 49 Tryz.f49 := ⟨Tryz.func49, by kernel_rfl, fun c h => by injection h with h; subst h; kernel_rfl⟩
theorem fk50 : FnOK Tryz.prog 50 Tryz.f50 := ⟨Tryz.func50, by kernel_rfl, fun c h => by injection h with h; subst h; kernel_rfl⟩
theorem fk51 : FnOK Tryz.prog 51 Tryz.f51 := ⟨Tryz.func51, by kernel_rfl, fun c h => by injection h with h; subst h; kernel_rfl⟩
theorem fk52 : FnOK Tryz.prog 52 Tryz.f52 := ⟨Tryz.func52, by kernel_rfl, fun c h => by injection h with h; subst h; kernel_rfl⟩
theorem fk53 : FnOK Tryz.prog 53 Tryz.f53 := ⟨Tryz.func53, by kernel_rfl, fun c h => by injection h with h; subst h; kernel_rfl⟩
theorem fk54 : FnOK Tryz.prog 54 Tryz.f54 := ⟨Tryz.func54, by kernel_rfl, fun c h => by injection h with h; subst h; kernel_rfl⟩
theorem fk55 : FnOK Tryz.prog 55 Tryz.f55 := ⟨Tryz.func55, by kernel_rfl, fun c h => by injection h with h; subst h; kernel_rfl⟩
theorem fk56 : FnOK Tryz.prog 56 Tryz.f56 := ⟨Tryz.func56, by kernel_rfl, fun c h => by injection h with h; subst h; kernel_rfl⟩
theorem fk57 : FnOK Tryz.prog 57 Tryz.f57 := ⟨Tryz.func57, by kernel_rfl, fun c h => by injection h with h; subst h; kernel_rfl⟩
theorem fk58 : FnOK Tryz.prog 58 Tryz.f58 := ⟨Tryz.func58, by kernel_rfl, fun c h => by injection h with h; subst h; kernel_rfl⟩
theorem fk59 : FnOK Tryz.prog 59 Tryz.f59 := ⟨Tryz.func59, by kernel_rfl, fun c h => by injection h with h; subst h; kernel_rfl⟩
theorem fk60 : FnOK Tryz.prog 60 Tryz.f60 := ⟨Tryz.func60, by kernel_rfl, fun c h => by injection h with h; subst h; kernel_rfl⟩
theorem fk61 : FnOK Tryz.prog 61 Tryz.f61 := ⟨Tryz.func61, by kernel_rfl, fun c h => by injection h with h; subst h; kernel_rfl⟩
theorem fk62 : FnOK Tryz.prog 62 Tryz.f62 := ⟨Tryz.func62, by kernel_rfl, fun c h => by injection h with h; subst h; kernel_rfl⟩
theorem fk63 : FnOK Tryz.prog 63 Tryz.f63 := ⟨Tryz.func63, by kernel_rfl, fun c h => by injection h with h; subst h; kernel_rfl⟩
theorem fk64 : FnOK Tryz.prog 64 Tryz.f64 := ⟨Tryz.func64, by kernel_rfl, fun c h => by injection h with h; subst h; kernel_rfl⟩
theorem fk65 : FnOK Tryz.prog 65 Tryz.f65 := ⟨Tryz.func65, by kernel_rfl, fun c h => by injection h with h; subst h; kernel_rfl⟩
theorem fk66 : FnOK Tryz.prog 66 Tryz.f66 := ⟨Tryz.func66, by kernel_rfl, fun c h => by injection h with h; subst h; kernel_rfl⟩
theorem fk67 : FnOK Tryz.prog 67 Tryz.f67 := ⟨Tryz.func67, by kernel_rfl, fun c h => by injection h with h; subst h; kernel_rfl⟩
theorem fk68 : FnOK Tryz.prog 68 Tryz.f68 := ⟨Tryz.func68, by kernel_rfl, fun c h => by injection h with h; subst h; kernel_rfl⟩
theorem fk69 : FnOK Tryz.prog 69 Tryz.f69 := ⟨Tryz.func69, by kernel_rfl, fun c h => by injection h with h; subst h; kernel_rfl⟩
theorem fk70 : FnOK Tryz.prog 70 Tryz.f70 := ⟨Tryz.func70, by kernel_rfl, fun c h => by injection h with h; subst h; kernel_rfl⟩
theorem fk71 : FnOK Tryz.prog 71 Tryz.f71 := ⟨Tryz.func71, by kernel_rfl, fun c h => by injection h with h; subst h; kernel_rfl⟩
theorem fk72 : FnOK Tryz.prog 72 Tryz.f72 := ⟨Tryz.func72, by kernel_rfl, fun c h => by injection h with h; subst h; kernel_rfl⟩
theorem fk73 : FnOK Tryz.prog 73 Tryz.f73 := ⟨Tryz.func73, by kernel_rfl, fun c h => by injection h with h; subst h; kernel_rfl⟩
theorem fk74 : FnOK Tryz.prog 74 Tryz.f74 := ⟨Tryz.func74, by kernel_rfl, fun c h => by injection h with h; subst h; kernel_rfl⟩
theorem fk75 : FnOK Tryz.prog 75 Tryz.f75 := ⟨Tryz.func75, by kernel_rfl, fun c h => by injection h with h; subst h; kernel_rfl⟩
theorem fk76 : FnOK Tryz.prog 76 Tryz.f76 := ⟨Tryz.func76, by kernel_rfl, fun c h => by injection h with h; subst h; kernel_rfl⟩
theorem fk77 : FnOK Tryz.prog 77 Tryz.f77 := ⟨Tryz.func77, by kernel_rfl, fun c h => by injection h with h; subst h; kernel_rfl⟩
theorem fk78 : FnOK Tryz.prog 78 Tryz.f78 := ⟨Tryz.func78, by kernel_rfl, fun c h => by injection h with h; subst h; kernel_rfl⟩
theorem fk79 : FnOK Tryz.prog 79 Tryz.f79 := ⟨Tryz.func79, by kernel_rfl, fun c h => by injection h with h; subst h; kernel_rfl⟩
theorem fk80 : FnOK Tryz.prog 80 Tryz.f80 := ⟨Tryz.func80, by kernel_rfl, fun c h => by injection h with h; subst h; kernel_rfl⟩
theorem fk81 : FnOK Tryz.prog 81 Tryz.f81 := ⟨Tryz.func81, by kernel_rfl, fun c h => by injection h with h; subst h; kernel_rfl⟩
theorem fk82 : FnOK Tryz.prog 82 Tryz.f82 := ⟨Tryz.func82, by kernel_rfl, fun c h => by injection h with h; subst h; kernel_rfl⟩
theorem fk83 : FnOK Tryz.prog 83 Tryz.f83 := ⟨Tryz.func83, by kernel_rfl, fun c h => by injection h with h; subst h; kernel_rfl⟩
theorem fk84 : FnOK Tryz.prog 84 Tryz.f84 := ⟨Tryz.func84, by kernel_rfl, fun c h => by injection h with h; subst h; kernel_rfl⟩
theorem fk85 : FnOK Tryz.prog 85 Tryz.f85 := ⟨Tryz.func85, by kernel_rfl, fun c h => by injection h with h; subst h; kernel_rfl⟩
theorem fk86 : FnOK Tryz.prog 86 Tryz.f86 := ⟨Tryz.func86, by kernel_rfl, fun c h => by injection h with h; subst h; kernel_rfl⟩
theorem fk87 : FnOK Tryz.prog 87 Tryz.f87 := ⟨Tryz.func87, by kernel_rfl, fun c h => by injection h with h; subst h; kernel_rfl⟩
theorem fk88 : FnOK Tryz.prog 88 Tryz.f88 := ⟨Tryz.func88, by kernel_rfl, fun c h => by injection h with h; subst h; kernel_rfl⟩
theorem fk89 : FnOK Tryz.prog 89 Tryz.f89 := ⟨Tryz.func89, by kernel_rfl, fun c h => by injection h with h; subst h; kernel_rfl⟩
theorem fk90 : FnOK Tryz.prog 90 Tryz.f90 := ⟨Tryz.func90, by kernel_rfl, fun c h => by injection h with h; subst h; kernel_rfl⟩
theorem fk91 : FnOK Tryz.prog 91 Tryz.f91 := ⟨Tryz.func91, by kernel_rfl, fun c h => by injection h with h; subst h; kernel_rfl⟩
theorem fk92 : FnOK Tryz.prog 92 Tryz.f92 := ⟨Tryz.func92, by kernel_rfl, fun c h => by injection h with h; subst h; kernel_rfl⟩
theorem fk93 : FnOK Tryz.prog 93 Tryz.f93 := ⟨Tryz.func93, by kernel_rfl, fun c h => by injection h with h; subst h; kernel_rfl⟩
theorem fk94 : FnOK Tryz.prog 94 Tryz.f94 := ⟨Tryz.func94, by kernel_rfl, fun c h => by injection h with h; subst h; kernel_rfl⟩
theorem fk95 : FnOK Tryz.prog 95 Tryz.f95 := ⟨Tryz.func95, by kernel_rfl, fun c h => by injection h with h; subst h; kernel_rfl⟩
theorem fk96 : FnOK Tryz.prog 96 Tryz.f96 := ⟨Tryz.func96, by kernel_rfl, fun c h => by injection h with h; subst h; kernel_rfl⟩
theorem fk97 : FnOK Tryz.prog 97 Tryz.f97 := ⟨Tryz.func97, by kernel_rfl, fun c h => by injection h with h; subst h; kernel_rfl⟩
theorem fk98 : FnOK Tryz.prog 98 Tryz.f98 := ⟨Tryz.func98, by kernel_rfl, fun c h => by injection h with h; subst h; kernel_rfl⟩
theorem fk99 : FnOK Tryz.prog 99 Tryz.f99 := ⟨Tryz.func99, by kernel_rfl, fun c h => by injection h with h; subst h; kernel_rfl⟩
theorem fk100 : FnOK Tryz.prog 100 Tryz.f100 := ⟨Tryz.func100, by kernel_rfl, fun c h => by injection h with h; subst h; kernel_rfl⟩
theorem fk101 : FnOK Tryz.prog 101 Tryz.f101 := ⟨Tryz.func101, by kernel_rfl, fun c h => by injection h with h; subst h; kernel_rfl⟩
theorem fk102 : FnOK Tryz.prog 102 Tryz.f102 := ⟨Tryz.func102, by kernel_rfl, fun c h => by injection h with h; subst h; kernel_rfl⟩
theorem fk103 : FnOK Tryz.prog 103 Tryz.f103 := ⟨Tryz.func103, by kernel_rfl, fun c h => by injection h with h; subst h; kernel_rfl⟩
theorem fk104 : FnOK Tryz.prog 104 Tryz.f104 := ⟨Tryz.func104, by kernel_rfl, fun c h => by injection h with h; subst h; kernel_rfl⟩
theorem fk105 : FnOK Tryz.prog 105 Tryz.f105 := ⟨Tryz.func105, by kernel_rfl, fun c h => by injection h with h; subst h; kernel_rfl⟩
theorem fk106 : FnOK Tryz.prog 106 Tryz.f106 := ⟨Tryz.func106, by kernel_rfl, fun c h => by injection h with h; subst h; kernel_rfl⟩
theorem fk107 : FnOK Tryz.prog 107 Tryz.f107 := ⟨Tryz.func107, by kernel_rfl, fun c h => by injection h with h; subst h; kernel_rfl⟩
theorem fk108 : FnOK Tryz.prog 108 Tryz.f108 := ⟨Tryz.func108, by kernel_rfl, fun c h => by injection h with h; subst h; kernel_rfl⟩
theorem fk109 : FnOK Tryz.prog 109 Tryz.f109 := ⟨Tryz.func109, by kernel_rfl, fun c h => by injection h with h; subst h; kernel_rfl⟩
theorem fk110 : FnOK Tryz.prog 110 Tryz.f110 := ⟨Tryz.func110, by kernel_rfl, fun c h => by injection h with h; subst h; kernel_rfl⟩
theorem fk111 : FnOK Tryz.prog 111 Tryz.f111 := ⟨Tryz.func111, by kernel_rfl, fun c h => by injection h with h; subst h; kernel_rfl⟩
theorem fk112 : FnOK Tryz.prog 112 Tryz.f112 := ⟨Tryz.func112, by kernel_rfl, fun c h => by injection h with h; subst h; kernel_rfl⟩
theorem fk113 : FnOK Tryz.prog 113 Tryz.f113 := ⟨Tryz.func113, by kernel_rfl, fun c h => by injection h with h; subst h; kernel_rfl⟩
theorem fk114 : FnOK Tryz.prog 114 Tryz.f114 := ⟨Tryz.func114, by kernel_rfl, fun c h => by injection h with h; subst h; kernel_rfl⟩
theorem fk115 : FnOK Tryz.prog 115 Tryz.f115 := ⟨Tryz.func115, by kernel_rfl, fun c h => by injection h with h; subst h; kernel_rfl⟩
theorem fk116 : FnOK Tryz.prog 116 Tryz.f116 := ⟨Tryz.func116, by kernel_rfl, fun c h => by injection h with h; subst h; kernel_rfl⟩
theorem fk117 : FnOK Tryz.prog 117 Tryz.f117 := ⟨Tryz.func117, by kernel_rfl, fun c h => by injection h with h; subst h; kernel_rfl⟩
theorem fk118 : FnOK Tryz.prog 118 Tryz.f118 := ⟨Tryz.func118, by kernel_rfl, fun c h => by injection h with h; subst h; kernel_rfl⟩
theorem fk119 : FnOK Tryz.prog 119 Tryz.f119 := ⟨Tryz.func119, by kernel_rfl, fun c h => by injection h with h; subst h; kernel_rfl⟩
theorem fk120 : FnOK Tryz.prog 120 Tryz.f120 := ⟨Tryz.func120, by kernel_rfl, fun c h => by injection h with h; subst h; kernel_rfl⟩
theorem fk121 : FnOK Tryz.prog 121 Tryz.f121 := ⟨Tryz.func121, by kernel_rfl, fun c h => by injection h with h; subst h; kernel_rfl⟩
theorem fk122 : FnOK Tryz.prog 122 Tryz.f122 := ⟨Tryz.func122, by kernel_rfl, fun c h => by injection h with h; subst h; kernel_rfl⟩
theorem fk123 : FnOK Tryz.prog 123 Tryz.f123 := ⟨Tryz.func123, by kernel_rfl, fun c h => by injection h with h; subst h; kernel_rfl⟩
theorem fk124 : FnOK Tryz.prog 124 Tryz.f124 := ⟨Tryz.func124, by kernel_rfl, fun c h => by injection h with h; subst h; kernel_rfl⟩
theorem fk125 : FnOK Tryz.prog 125 Tryz.f125 := ⟨Tryz.func125, by kernel_rfl, fun c h => by injection h with h; subst h; kernel_rfl⟩
theorem fk126 : FnOK Tryz.prog 126 Tryz.f126 := ⟨Tryz.func126, by kernel_rfl, fun c h => by injection h with h; subst h; kernel_rfl⟩
theorem fk127 : FnOK Tryz.prog 127 Tryz.f127 := ⟨Tryz.func127, by kernel_rfl, fun c h => by injection h with h; subst h; kernel_rfl⟩
theorem fk128 : FnOK Tryz.prog 128 Tryz.f128 := ⟨Tryz.func128, by kernel_rfl, fun c h => by injection h with h; subst h; kernel_rfl⟩
theorem fk129 : FnOK Tryz.prog 129 Tryz.f129 := ⟨Tryz.func129, by kernel_rfl, fun c h => by injection h with h; subst h; kernel_rfl⟩
theorem fk130 : FnOK Tryz.prog 130 Tryz.f130 := ⟨Tryz.func130, by kernel_rfl, fun c h => by injection h with h; subst h; kernel_rfl⟩
theorem fk131 : FnOK Tryz.prog 131 Tryz.f131 := ⟨Tryz.func131, by kernel_rfl, fun c h => by injection h with h; subst h; kernel_rfl⟩
theorem fk132 : FnOK Tryz.prog 132 Tryz.f132 := ⟨Tryz.func132, by kernel_rfl, fun c h => by injection h with h; subst h; kernel_rfl⟩
theorem fk133 : FnOK Tryz.prog 133 Tryz.f133 := ⟨Tryz.func133, by kernel_rfl, fun c h => by injection h with h; subst h; kernel_rfl⟩
theorem fk134 : FnOK Tryz.prog 134 Tryz.f134 := ⟨Tryz.func134, by kernel_rfl, fun c h => by injection h with h; subst h; kernel_rfl⟩
theorem fk135 : FnOK Tryz.prog 135 Tryz.f135 := ⟨Tryz.func135, by kernel_rfl, fun c h => by injection h with h; subst h; kernel_rfl⟩
theorem fk136 : FnOK Tryz.prog 136 Tryz.f136 := ⟨Tryz.func136, by kernel_rfl, fun c h => by injection h with h; subst h; kernel_rfl⟩
theorem fk137 : FnOK Tryz.prog 137 Tryz.f137 := ⟨Tryz.func137, by kernel_rfl, fun c h => by injection h with h; subst h; kernel_rfl⟩
theorem fk138 : FnOK Tryz.prog 138 Tryz.f138 := ⟨Tryz.func138, by kernel_rfl, fun c h => by injection h with h; subst h; kernel_rfl⟩
theorem fk139 : FnOK Tryz.prog 139 Tryz.f139 := ⟨Tryz.func139, by kernel_rfl, fun c h => by injection h with h; subst h; kernel_rfl⟩
theorem fk140 : FnOK Tryz.prog 140 Tryz.f140 := ⟨Tryz.func140, by kernel_rfl, fun c h => by injection h with h; subst h; kernel_rfl⟩
theorem fk141 : FnOK Tryz.prog 141 Tryz.f141 := ⟨Tryz.func141, by kernel_rfl, fun c h => by injection h with h; subst h; kernel_rfl⟩
theorem fk142 : FnOK Tryz.prog 142 Tryz.f142 := ⟨Tryz.func142, by kernel_rfl, fun c h => by injection h with h; subst h; kernel_rfl⟩
theorem fk143 : FnOK Tryz.prog 143 Tryz.f143 := ⟨Tryz.func143, by kernel_rfl, fun c h => by injection h with h; subst h; kernel_rfl⟩
theorem fk144 : FnOK Tryz.prog 144 Tryz.f144 := ⟨Tryz.func144, by kernel_rfl, fun c h => by injection h with h; subst h; kernel_rfl⟩
theorem fk145 : FnOK Tryz.prog 145 Tryz.f145 := ⟨Tryz.func145, by kernel_rfl, fun c h => by injection h with h; subst h; kernel_rfl⟩
theorem fk146 : FnOK Tryz.prog 146 Tryz.f146 := ⟨Tryz.func146, by kernel_rfl, fun c h => by injection h with h; subst h; kernel_rfl⟩
theorem fk147 : FnOK Tryz.prog 147 Tryz.f147 := ⟨Tryz.func147, by kernel_rfl, fun c h => by injection h with h; subst h; kernel_rfl⟩
theorem fk148 : FnOK Tryz.prog 148 Tryz.f148 := ⟨Tryz.func148, by kernel_rfl, fun c h => by injection h with h; subst h; kernel_rfl⟩
theorem fk149 : FnOK Tryz.prog 149 Tryz.f149 := ⟨Tryz.func149, by kernel_rfl, fun c h => by injection h with h; subst h; kernel_rfl⟩
theorem fk150 : FnOK Tryz.prog 150 Tryz.f150 := ⟨Tryz.func150, by kernel_rfl, fun c h => by injection h with h; subst h; kernel_rfl⟩
theorem fk151 : FnOK Tryz.prog 151 Tryz.f151 := ⟨Tryz.func151, by kernel_rfl, fun c h => by injection h with h; subst h; kernel_rfl⟩
theorem fk152 : FnOK Tryz.prog 152 Tryz.f152 := ⟨Tryz.func152, by kernel_rfl, fun c h => by injection h with h; subst h; kernel_rfl⟩
theorem fk153 : FnOK Tryz.prog 153 Tryz.f153 := ⟨Tryz.func153, by kernel_rfl, fun c h => by injection h with h; subst h; kernel_rfl⟩
theorem fk154 : FnOK Tryz.prog 154 Tryz.f154 := ⟨Tryz.func154, by kernel_rfl, fun c h => by injection h with h; subst h; kernel_rfl⟩
theorem fk155 : FnOK Tryz.prog 155 Tryz.f155 := ⟨Tryz.func155, by kernel_rfl, fun c h => by injection h with h; subst h; kernel_rfl⟩
theorem fk156 : FnOK Tryz.prog 156 Tryz.f156 := ⟨Tryz.func156, by kernel_rfl, fun c h => by injection h with h; subst h; kernel_rfl⟩
theorem fk157 : FnOK Tryz.prog 157 Tryz.f157 := ⟨Tryz.func157, by kernel_rfl, fun c h => by injection h with h; subst h; kernel_rfl⟩
theorem fk158 : FnOK Tryz.prog 158 Tryz.f158 := ⟨Tryz.func158, by kernel_rfl, fun c h => by injection h with h; subst h; kernel_rfl⟩
theorem fk159 : FnOK Tryz.prog 159 Tryz.f159 := ⟨Tryz.func159, by kernel_rfl, fun c h => by injection h with h; subst h; kernel_rfl⟩
theorem fk160 : FnOK Tryz.prog 160 Tryz.f160 := ⟨Tryz.func160, by kernel_rfl, fun c h => by injection h with h; subst h; kernel_rfl⟩
theorem fk161 : FnOK Tryz.prog 161 Tryz.f161 := ⟨Tryz.func161, by kernel_rfl, fun c h => by injection h with h; subst h; kernel_rfl⟩
theorem fk162 : FnOK Tryz.prog 162 Tryz.f162 := ⟨Tryz.func162, by kernel_rfl, fun c h => by injection h with h; subst h; kernel_rfl⟩
theorem fk163 : FnOK Tryz.prog 163 Tryz.f163 := ⟨Tryz.func163, by kernel_rfl, fun c h => by injection h with h; subst h; kernel_rfl⟩
theorem fk164 : FnOK Tryz.prog 164 Tryz.f164 := ⟨Tryz.func164, by kernel_rfl, fun c h => by injection h with h; subst h; kernel_rfl⟩
theorem fk165 : FnOK Tryz.prog 165 Tryz.f165 := ⟨Tryz.func165, by kernel_rfl, fun c h => by injection h with h; subst h; kernel_rfl⟩
theorem fk166 : FnOK Tryz.prog 166 Tryz.f166 := ⟨Tryz.func166, by kernel_rfl, fun c h => by injection h with h; subst h; kernel_rfl⟩
theorem fk167 : FnOK Tryz.prog 167 Tryz.f167 := ⟨Tryz.func167, by kernel_rfl, fun c h => by injection h with h; subst h; kernel_rfl⟩
theorem fk168 : FnOK Tryz.prog 168 Tryz.f168 := ⟨Tryz.func168, by kernel_rfl, fun c h => by injection h with h; subst h; kernel_rfl⟩
theorem fk169 : FnOK Tryz.prog 169 Tryz.f169 := ⟨Tryz.func169, by kernel_rfl, fun c h => by injection h with h; subst h; kernel_rfl⟩
theorem fk170 : FnOK Tryz.prog 170 Tryz.f170 := ⟨Tryz.func170, by kernel_rfl, fun c h => by injection h with h; subst h; kernel_rfl⟩
theorem fk171 : FnOK Tryz.prog 171 Tryz.f171 := ⟨Tryz.func171, by kernel_rfl, fun c h => by injection h with h; subst h; kernel_rfl⟩
theorem fk173 : FnOK Tryz.prog 173 Tryz.f173 := ⟨Tryz.func173, by kernel_rfl, fun c h => by injection h with h; subst h; kernel_rfl⟩
theorem fk174 : FnOK Tryz.prog 174 Tryz.f174 := ⟨Tryz.func174, by kernel_rfl, fun c h => by injection h with h; subst h; kernel_rfl⟩
theorem fk175 : FnOK Tryz.prog 175 Tryz.f175 := ⟨Tryz.func175, by kernel_rfl, fun c h => by injection h with h; subst h; kernel_rfl⟩
theorem fk176 : FnOK Tryz.prog 176 Tryz.f176 := ⟨Tryz.func176, by kernel_rfl, fun c h => by injection h with h; subst h; kernel_rfl⟩
theorem fk177 : FnOK Tryz.prog 177 Tryz.f177 := ⟨Tryz.func177, by kernel_rfl, fun c h => by injection h with h; subst h; kernel_rfl⟩
theorem fk178 : FnOK Tryz.prog 178 Tryz.f178 := ⟨Tryz.func178, by kernel_rfl, fun c h => by injection h with h; subst h; kernel_rfl⟩
theorem fk179 : FnOK Tryz.prog 179 Tryz.f179 := ⟨Tryz.func179, by kernel_rfl, fun c h => by injection h with h; subst h; kernel_rfl⟩
theorem fk180 : FnOK Tryz.prog 180 Tryz.f180 := ⟨Tryz.func180, by kernel_rfl, fun c h => by injection h with h; subst h; kernel_rfl⟩
theorem fk181 : FnOK Tryz.prog 181 Tryz.f181 := ⟨Tryz.func181, by kernel_rfl, fun c h => by injection h with h; subst h; kernel_rfl⟩
theorem fk182 : FnOK Tryz.prog 182 Tryz.f182 := ⟨Tryz.func182, by kernel_rfl, fun c h => by injection h with h; subst h; kernel_rfl⟩
theorem fk183 : FnOK Tryz.prog 183 Tryz.f183 := ⟨Tryz.func183, by kernel_rfl, fun c h => by injection h with h; subst h; kernel_rfl⟩
theorem fk184 : FnOK Tryz.prog 184 Tryz.f184 := ⟨Tryz.func184, by kernel_rfl, fun c h => by injection h with h; subst h; kernel_rfl⟩
theorem fk185 : FnOK Tryz.prog 185 Tryz.f185 := ⟨Tryz.func185, by kernel_rfl, fun c h => by injection h with h; subst h; kernel_rfl⟩
theorem fk186 : FnOK Tryz.prog 186 Tryz.f186 := ⟨Tryz.func186, by kernel_rfl, fun c h => by injection h with h; subst h; kernel_rfl⟩
theorem fk187 : FnOK Tryz.prog 187 Tryz.f187 := ⟨Tryz.func187, by kernel_rfl, fun c h => by injection h with h; subst h; kernel_rfl⟩
theorem fk188 : FnOK Tryz.prog 188 Tryz.f188 := ⟨Tryz.func188, by kernel_rfl, fun c h => by injection h with h; subst h; kernel_rfl⟩
theorem fk189 : FnOK Tryz.prog 189 Tryz.f189 := ⟨Tryz.func189, by kernel_rfl, fun c h => by injection h with h; subst h; kernel_rfl⟩
theorem fk190 : FnOK Tryz.prog 190 Tryz.f190 := ⟨Tryz.func190, by kernel_rfl, fun c h => by injection h with h; subst h; kernel_rfl⟩
theorem fk191 : FnOK Tryz.prog 191 Tryz.f191 := ⟨Tryz.func191, by kernel_rfl, fun c h => by injection h with h; subst h; kernel_rfl⟩
theorem fk192 : FnOK Tryz.prog 192 Tryz.f192 := ⟨Tryz.func192, by kernel_rfl, fun c h => by injection h with h; subst h; kernel_rfl⟩
theorem fk193 : FnOK Tryz.prog 193 Tryz.f193 := ⟨Tryz.func193, by kernel_rfl, fun c h => by injection h with h; subst h; kernel_rfl⟩
theorem fk194 : FnOK Tryz.prog 194 Tryz.f194 := ⟨Tryz.func194, by kernel_rfl, fun c h => by injection h with h; subst h; kernel_rfl⟩
theorem fk195 : FnOK Tryz.prog 195 Tryz.f195 := ⟨Tryz.func195, by kernel_rfl, fun c h => by injection h with h; subst h; kernel_rfl⟩
theorem fk196 : FnOK Tryz.prog 196 Tryz.f196 := ⟨Tryz.func196, by kernel_rfl, fun c h => by injection h with h; subst h; kernel_rfl⟩
theorem fk197 : FnOK Tryz.prog 197 Tryz.f197 := ⟨Tryz.func197, by kernel_rfl, fun c h => by injection h with h; subst h; kernel_rfl⟩
theorem fk198 : FnOK Tryz.prog 198 Tryz.f198 := ⟨Tryz.func198, by kernel_rfl, fun c h => by injection h with h; subst h; kernel_rfl⟩
theorem fk199 : FnOK Tryz.prog 199 Tryz.f199 := ⟨Tryz.func199, by kernel_rfl, fun c h => by injection h with h; subst h; kernel_rfl⟩
theorem fk200 : FnOK Tryz.prog 200 Tryz.f200 := ⟨Tryz.func200, by kernel_rfl, fun c h => by injection h with h; subst h; kernel_rfl⟩
theorem fk201 : FnOK Tryz.prog 201 Tryz.f201 := ⟨Tryz.func201, by kernel_rfl, fun c h => by injection h with h; subst h; kernel_rfl⟩
theorem fk202 : FnOK Tryz.prog 202 Tryz.f202 := ⟨Tryz.func202, by kernel_rfl, fun c h => by injection h with h; subst h; kernel_rfl⟩
theorem fk203 : FnOK Tryz.prog 203 Tryz.f203 := ⟨Tryz.func203, by kernel_rfl, fun c h => by injection h with h; subst h; kernel_rfl⟩
theorem fk204 : FnOK Tryz.prog 204 Tryz.f204 := ⟨Tryz.func204, by kernel_rfl, fun c h => by injection h with h; subst h; kernel_rfl⟩
theorem fk205 : FnOK Tryz.prog 205 Tryz.f205 := ⟨Tryz.func205, by kernel_rfl, fun c h => by injection h with h; subst h; kernel_rfl⟩
theorem fk206 : FnOK Tryz.prog 206 Tryz.f206 := ⟨Tryz.func206, by kernel_rfl, fun c h => by injection h with h; subst h; kernel_rfl⟩
theorem fk207 : FnOK Tryz.prog 207 Tryz.f207 := ⟨Tryz.func207, by kernel_rfl, fun c h => by injection h with h; subst h; kernel_rfl⟩
theorem fk208 : FnOK Tryz.prog 208 Tryz.f208 := ⟨Tryz.func208, by kernel_rfl, fun c h => by injection h with h; subst h; kernel_rfl⟩
theorem fk209 : FnOK Tryz.prog 209 Tryz.f209 := ⟨Tryz.func209, by kernel_rfl, fun c h => by injection h with h; subst h; kernel_rfl⟩
theorem fk210 : FnOK Tryz.prog 210 Tryz.f210 := ⟨Tryz.func210, by kernel_rfl, fun c h => by injection h with h; subst h; kernel_rfl⟩
theorem fk211 : FnOK Tryz.prog 211 Tryz.f211 := ⟨Tryz.func211, by kernel_rfl, fun c h => by injection h with h; subst h; kernel_rfl⟩
theorem fk212 : FnOK Tryz.prog 212 Tryz.f212 := ⟨Tryz.func212, by kernel_rfl, fun c h => by injection h with h; subst h; kernel_rfl⟩
theorem fk213 : FnOK Tryz.prog 213 Tryz.f213 := ⟨Tryz.func213, by kernel_rfl, fun c h => by injection h with h; subst h; kernel_rfl⟩
theorem fk214 : FnOK Tryz.prog 214 Tryz.f214 := ⟨Tryz.func214, by kernel_rfl, fun c h => by injection h with h; subst h; kernel_rfl⟩
theorem fk216 : FnOK Tryz.prog 216 Tryz.f216 := ⟨Tryz.func216, by kernel_rfl, fun c h => by injection h with h; subst h; kernel_rfl⟩
theorem fk217 : FnOK Tryz.prog 217 Tryz.f217 := ⟨Tryz.func217, by kernel_rfl, fun c h => by injection h with h; subst h; kernel_rfl⟩
theorem fk218 : FnOK Tryz.prog 218 Tryz.f218 := ⟨Tryz.func218, by kernel_rfl, fun c h => by injection h with h; subst h; kernel_rfl⟩
theorem fk219 : FnOK Tryz.prog 219 Tryz.f219 := ⟨Tryz.func219, by kernel_rfl, fun c h => by injection h with h; subst h; kernel_rfl⟩
theorem fk220 : FnOK Tryz.prog 220 Tryz.f220 := ⟨Tryz.func220, by kernel_rfl, fun c h => by injection h with h; subst h; kernel_rfl⟩
theorem fk221 : FnOK Tryz.prog 221 Tryz.f221 := ⟨Tryz.func221, by kernel_rfl, fun c h => by injection h with h; subst h; kernel_rfl⟩
theorem fk222 : FnOK Tryz.prog 222 Tryz.f222 := ⟨Tryz.func222, by kernel_rfl, fun c h => by injection h with h; subst h; kernel_rfl⟩
theorem fk223 : FnOK Tryz.prog 223 Tryz.f223 := ⟨Tryz.func223, by kernel_rfl, fun c h => by injection h with h; subst h; kernel_rfl⟩
theorem fk224 : FnOK Tryz.prog 224 Tryz.f224 := ⟨Tryz.func224, by kernel_rfl, fun c h => by injection h with h; subst h; kernel_rfl⟩
theorem fk225 : FnOK Tryz.prog 225 Tryz.f225 := ⟨Tryz.func225, by kernel_rfl, fun c h => by injection h with h; subst h; kernel_rfl⟩
theorem fk226 : FnOK Tryz.prog 226 Tryz.f226 := ⟨Tryz.func226, by kernel_rfl, fun c h => by injection h with h; subst h; kernel_rfl⟩
theorem fk227 : FnOK Tryz.prog 227 Tryz.f227 := ⟨Tryz.func227, by kernel_rfl, fun c h => by injection h with h; subst h; kernel_rfl⟩
theorem fk228 : FnOK Tryz.prog 228 Tryz.f228 := ⟨Tryz.func228, by kernel_rfl, fun c h => by injection h with h; subst h; kernel_rfl⟩
theorem fk229 : FnOK Tryz.prog 229 Tryz.f229 := ⟨Tryz.func229, by kernel_rfl, fun c h => by injection h with h; subst h; kernel_rfl⟩
theorem fk230 : FnOK Tryz.prog 230 Tryz.f230 := ⟨Tryz.func230, by kernel_rfl, fun c h => by injection h with h; subst h; kernel_rfl⟩
theorem fk231 : FnOK Tryz.prog 231 Tryz.f231 := ⟨Tryz.func231, by kernel_rfl, fun c h => by injection h with h; subst h; kernel_rfl⟩
theorem fk232 : FnOK Tryz.prog 232 Tryz.f232 := ⟨Tryz.func232, by kernel_rfl, fun c h => by injection h with h; subst h; kernel_rfl⟩
theorem fk233 : FnOK Tryz.prog 233 Tryz.f233 := ⟨Tryz.func233, by kernel_rfl, fun c h => by injection h with h; subst h; kernel_rfl⟩
theorem fk234 : FnOK Tryz.prog 234 Tryz.f234 := ⟨Tryz.func234, by kernel_rfl, fun c h => by injection h with h; subst h; kernel_rfl⟩
theorem fk235 : FnOK Tryz.prog 235 Tryz.f235 := ⟨Tryz.func235, by kernel_rfl, fun c h => by injection h with h; subst h; kernel_rfl⟩
theorem fk236 : FnOK Tryz.prog 236 Tryz.f236 := ⟨Tryz.func236, by kernel_rfl, fun c h => by injection h with h; subst h; kernel_rfl⟩
theorem fk237 : FnOK Tryz.prog 237 Tryz.f237 := ⟨Tryz.func237, by kernel_rfl, fun c h => by injection h with h; subst h; kernel_rfl⟩
theorem fk238 : FnOK Tryz.prog 238 Tryz.f238 := ⟨Tryz.func238, by kernel_rfl, fun c h => by injection h with h; subst h; kernel_rfl⟩
theorem fk239 : FnOK Tryz.prog 239 Tryz.f239 := ⟨Tryz.func239, by kernel_rfl, fun c h => by injection h with h; subst h; kernel_rfl⟩
theorem fk240 : FnOK Tryz.prog 240 Tryz.f240 := ⟨Tryz.func240, by kernel_rfl, fun c h => by injection h with h; subst h; kernel_rfl⟩
theorem fk241 : FnOK Tryz.prog 241 Tryz.f241 := ⟨Tryz.func241, by kernel_rfl, fun c h => by injection h with h; subst h; kernel_rfl⟩
theorem fk242 : FnOK Tryz.prog 242 Tryz.f242 := ⟨Tryz.func242, by kernel_rfl, fun c h => by injection h with h; subst h; kernel_rfl⟩
theorem fk243 : FnOK Tryz.prog 243 Tryz.f243 := ⟨Tryz.func243, by kernel_rfl, fun c h => by injection h with h; subst h; kernel_rfl⟩
theorem fk244 : FnOK Tryz.prog 244 Tryz.f244 := ⟨Tryz.func244, by kernel_rfl, fun c h => by injection h with h; subst h; kernel_rfl⟩
theorem fk245 : FnOK Tryz.prog 245 Tryz.f245 := ⟨Tryz.func245, by kernel_rfl, fun c h => by injection h with h; subst h; kernel_rfl⟩
theorem fk246 : FnOK Tryz.prog 246 Tryz.f246 := ⟨Tryz.func246, by kernel_rfl, fun c h => by injection h with h; subst h; kernel_rfl⟩
theorem fk247 : FnOK Tryz.prog 247 Tryz.f247 := ⟨Tryz.func247, by kernel_rfl, fun c h => by injection h with h; subst h; kernel_rfl⟩
theorem fk248 : FnOK Tryz.prog 248 Tryz.f248 := ⟨Tryz.func248, by kernel_rfl, fun c h => by injection h with h; subst h; kernel_rfl⟩
theorem fk249 : FnOK Tryz.prog 249 Tryz.f249 := ⟨Tryz.func249, by kernel_rfl, fun c h => by injection h with h; subst h; kernel_rfl⟩
theorem fk250 : FnOK Tryz.prog 250 Tryz.f250 := ⟨Tryz.func250, by kernel_rfl, fun c h => by injection h with h; subst h; kernel_rfl⟩
theorem fk251 : FnOK Tryz.prog 251 Tryz.f251 := ⟨Tryz.func251, by kernel_rfl, fun c h => by injection h with h; subst h; kernel_rfl⟩
theorem fk253 : FnOK Tryz.prog 253 Tryz.f253 := ⟨Tryz.func253, by kernel_rfl, fun c h => by injection h with h; subst h; kernel_rfl⟩
theorem fk256 : FnOK Tryz.prog 256 Tryz.f256 := ⟨Tryz.func256, by kernel_rfl, fun c h => by injection h with h; subst h; kernel_rfl⟩
theorem fk257 : FnOK Tryz.prog 257 Tryz.f257 := ⟨Tryz.func257, by kernel_rfl, fun c h => by injection h with h; subst h; kernel_rfl⟩
theorem fk258 : FnOK Tryz.prog 258 Tryz.f258 := ⟨Tryz.func258, by kernel_rfl, fun c h => by injection h with h; subst h; kernel_rfl⟩
theorem fk259 : FnOK Tryz.prog 259 Tryz.f259 := ⟨Tryz.func259, by kernel_rfl, fun c h => by injection h with h; subst h; kernel_rfl⟩
theorem fk260 : FnOK Tryz.prog 260 Tryz.f260 := ⟨Tryz.func260, by kernel_rfl, fun c h => by injection h with h; subst h; kernel_rfl⟩
theorem fk261 : FnOK Tryz.prog 261 Tryz.f261 := ⟨Tryz.func261, by kernel_rfl, fun c h => by injection h with h; subst h; kernel_rfl⟩
theorem fk262 : FnOK Tryz.prog 262 Tryz.f262 := ⟨Tryz.func262, by kernel_rfl, fun c h => by injection h with h; subst h; kernel_rfl⟩
theorem fk264 : FnOK Tryz.prog 264 Tryz.f264 := ⟨Tryz.func264, by kernel_rfl, fun c h => by injection h with h; subst h; kernel_rfl⟩
theorem fk265 : FnOK Tryz.prog 265 Tryz.f265 := ⟨Tryz.func265, by kernel_rfl, fun c h => by injection h with h; subst h; kernel_rfl⟩
theorem fk266 : FnOK Tryz.prog 266 Tryz.f266 := ⟨Tryz.func266, by kernel_rfl, fun c h => by injection h with h; subst h; kernel_rfl⟩
theorem fk267 : FnOK Tryz.prog 267 Tryz.f267 := ⟨Tryz.func267, by kernel_rfl, fun c h => by injection h with h; subst h; kernel_rfl⟩
theorem fk268 : FnOK Tryz.prog 268 Tryz.f268 := ⟨Tryz.func268, by kernel_rfl, fun c h => by injection h with h; subst h; kernel_rfl⟩
theorem fk269 : FnOK Tryz.prog 269 Tryz.f269 := ⟨Tryz.func269, by kernel_rfl, fun c h => by injection h with h; subst h; kernel_rfl⟩
theorem fk270 : FnOK Tryz.prog 270 Tryz.f270 := ⟨Tryz.func270, by kernel_rfl, fun c h => by injection h with h; subst h; kernel_rfl⟩
theorem fk271 : FnOK Tryz.prog 271 Tryz.f271 := ⟨Tryz.func271, by kernel_rfl, fun c h => by injection h with h; subst h; kernel_rfl⟩
theorem fk272 : FnOK Tryz.prog 272 Tryz.f272 := ⟨Tryz.func272, by kernel_rfl, fun c h => by injection h with h; subst h; kernel_rfl⟩
theorem fk273 : FnOK Tryz.prog 273 Tryz.f273 := ⟨Tryz.func273, by kernel_rfl, fun c h => by injection h with h; subst h; kernel_rfl⟩
theorem fk274 : FnOK Tryz.prog 274 Tryz.f274 := ⟨Tryz.func274, by kernel_rfl, fun c h => by injection h with h; subst h; kernel_rfl⟩
theorem fk275 : FnOK Tryz.prog 275 Tryz.f275 := ⟨Tryz.func275, by kernel_rfl, fun c h => by injection h with h; subst h; kernel_rfl⟩
theorem fk276 : FnOK Tryz.prog 276 Tryz.f276 := ⟨Tryz.func276, by kernel_rfl, fun c h => by injection h with h; subst h; kernel_rfl⟩
theorem fk277 : FnOK Tryz.prog 277 Tryz.f277 := ⟨Tryz.func277, by kernel_rfl, fun c h => by injection h with h; subst h; kernel_rfl⟩
theorem fk278 : FnOK Tryz.prog 278 Tryz.f278 := ⟨Tryz.func278, by kernel_rfl, fun c h => by injection h with h; subst h; kernel_rfl⟩
theorem fk279 : FnOK Tryz.prog 279 Tryz.f279 := ⟨Tryz.func279, by kernel_rfl, fun c h => by injection h with h; subst h; kernel_rfl⟩
theorem fk280 : FnOK Tryz.prog 280 Tryz.f280 := ⟨Tryz.func280, by kernel_rfl, fun c h => by injection h with h; subst h; kernel_rfl⟩
theorem fk281 : FnOK Tryz.prog 281 Tryz.f281 := ⟨Tryz.func281, by kernel_rfl, fun c h => by injection h with h; subst h; kernel_rfl⟩
theorem fk282 : FnOK Tryz.prog 282 Tryz.f282 := ⟨Tryz.func282, by kernel_rfl, fun c h => by injection h with h; subst h; kernel_rfl⟩
theorem fk283 : FnOK Tryz.prog 283 Tryz.f283 := ⟨Tryz.func283, by kernel_rfl, fun c h => by injection h with h; subst h; kernel_rfl⟩
theorem fk284 : FnOK Tryz.prog 284 Tryz.f284 := ⟨Tryz.func284, by kernel_rfl, fun c h => by injection h with h; subst h; kernel_rfl⟩
theorem fk285 : FnOK Tryz.prog 285 Tryz.f285 := ⟨Tryz.func285, by kernel_rfl, fun c h => by injection h with h; subst h; kernel_rfl⟩
theorem fk316 : FnOK Tryz.prog 316 Tryz.f316 := ⟨Tryz.func316, by kernel_rfl, fun c h => by injection h with h; subst h; kernel_rfl⟩
theorem tysOK (sum : Nat → Option (List Value → Heap → Option CR)) : TysOK Tryz.prog (mkE sum) := ⟨fun t ti h => T.allF_get (Q := TyOK Tryz.prog) (t := tyT) (T.allF_node (fun _ h => nomatch h) (T.allF_node (fun _ h => by injection h with h; subst h; exact tk1) (T.allF_node (fun _ h => by injection h with h; subst h; exact tk3) (T.allF_node (fun _ h => by injection h with h; subst h; exact tk7) (T.allF_node (fun _ h => by injection h with h; subst h; exact tk15) (T.allF_node (fun _ h => by injection h with h; subst h; exact tk31) (T.allF_node (fun _ h => nomatch h) (T.allF_node (fun _ h => by injection h with h; subst h; exact tk127) (T.allF_node (fun _ h => by injection h with h; subst h; exact tk255) (T.allF_nil _ _) (T.allF_nil _ _)) (T.allF_nil _ _)) (T.allF_node (fun _ h => by injection h with h; subst h; exact tk191) (T.allF_nil _ _) (T.allF_nil _ _))) (T.allF_node (fun _ h => by injection h with h; subst h; exact tk95) (T.allF_node (fun _ h => nomatch h) (T.allF_node (fun _ h => by injection h with h; subst h; exact tk287) (T.allF_nil _ _) (T.allF_nil _ _)) (T.allF_nil _ _)) (T.allF_node (fun _ h => by injection h with h; subst h; exact tk223) (T.allF_nil _ _) (T.allF_nil _ _)))) (T.allF_node (fun _ h => by injection h with h; subst h; exact tk47) (T.allF_node (fun _ h => by injection h with h; subst h; exact tk79) (T.allF_node (fun _ h => by injection h with h; subst h; exact tk143) (T.allF_node (fun _ h => by injection h with h; subst h; exact tk271) (T.allF_nil _ _) (T.allF_nil _ _)) (T.allF_nil _ _)) (T.allF_nil _ _)) (T.allF_node (fun _ h => by injection h with h; subst h; exact tk111) (T.allF_node (fun _ h => by injection h with h; subst h; exact tk175) (T.allF_node (fun _ h => by injection h with h; subst h; exact tk303) (T.allF_nil _ _) (T.allF_nil _ _)) (T.allF_nil _ _)) (T.allF_node (fun _ h => by injection h with h; subst h; exact tk239) (T.allF_nil _ _) (T.allF_nil _ _))))) (T.allF_node (fun _ h => nomatch h) (T.allF_node (fun _ h => by injection h with h; subst h; exact tk39) (T.allF_node (fun _ h => nomatch h) (T.allF_node (fun _ h => nomatch h) (T.allF_node (fun _ h => by injection h with h; subst h; exact tk263) (T.allF_nil _ _) (T.allF_nil _ _)) (T.allF_nil _ _)) (T.allF_node (fun _ h => by injection h with h; subst h; exact tk199) (T.allF_nil _ _) (T.allF_nil _ _))) (T.allF_node (fun _ h => by injection h with h; subst h; exact tk103) (T.allF_node (fun _ h => by injection h with h; subst h; exact tk167) (T.allF_node (fun _ h => by injection h with h; subst h; exact tk295) (T.allF_nil _ _) (T.allF_nil _ _)) (T.allF_nil _ _)) (T.allF_node (fun _ h => by injection h with h; subst h; exact tk231) (T.allF_nil _ _) (T.allF_nil _ _)))) (T.allF_node (fun _ h => by injection h with h; subst h; exact tk55) (T.allF_node (fun _ h => by injection h with h; subst h; exact tk87) (T.allF_node (fun _ h => by injection h with h; subst h; exact tk151) (T.allF_node (fun _ h => by injection h with h; subst h; exact tk279) (T.allF_nil _ _) (T.allF_nil _ _)) (T.allF_nil _ _)) (T.allF_node (fun _ h => by injection h with h; subst h; exact tk215) (T.allF_nil _ _) (T.allF_nil _ _))) (T.allF_node (fun _ h => by injection h with h; subst h; exact tk119) (T.allF_node (fun _ h => by injection h with h; subst h; exact tk183) (T.allF_node (fun _ h => by injection h with h; subst h; exact tk311) (T.allF_nil _ _) (T.allF_nil _ _)) (T.allF_nil _ _)) (T.allF_node (fun _ h => by injection h with h; subst h; exact tk247) (T.allF_nil _ _) (T.allF_nil _ _)))))) (T.allF_node (fun _ h => by injection h with h; subst h; exact tk11) (T.allF_node (fun _ h => by injection h with h; subst h; exact tk19) (T.allF_node (fun _ h => nomatch h) (T.allF_node (fun _ h => by injection h with h; subst h; exact tk67) (T.allF_node (fun _ h => by injection h with h; subst h; exact tk131) (T.allF_node (fun _ h => by injection h with h; subst h; exact tk259) (T.allF_nil _ _) (T.allF_nil _ _)) (T.allF_nil _ _)) (T.allF_node (fun _ h => by injection h with h; subst h; exact tk195) (T.allF_nil _ _) (T.allF_nil _ _))) (T.allF_node (fun _ h => by injection h with h; subst h; exact tk99) (T.allF_node (fun _ h => by injection h with h; subst h; exact tk163) (T.allF_node (fun _ h => by injection h with h; subst h; exact tk291) (T.allF_nil _ _) (T.allF_nil _ _)) (T.allF_nil _ _)) (T.allF_node (fun _ h => by injection h with h; subst h; exact tk227) (T.allF_nil _ _) (T.allF_nil _ _)))) (T.allF_node (fun _ h => by injection h with h; subst h; exact tk51) (T.allF_node (fun _ h => by injection h with h; subst h; exact tk83) (T.allF_node (fun _ h => by injection h with h; subst h; exact tk147) (T.allF_node (fun _ h => by injection h with h; subst h; exact tk275) (T.allF_nil _ _) (T.allF_nil _ _)) (T.allF_nil _ _)) (T.allF_node (fun _ h => by injection h with h; subst h; exact tk211) (T.allF_nil _ _) (T.allF_nil _ _))) (T.allF_node (fun _ h => by injection h with h; subst h; exact tk115) (T.allF_node (fun _ h => by injection h with h; subst h; exact tk179) (T.allF_node (fun _ h => by injection h with h; subst h; exact tk307) (T.allF_nil _ _) (T.allF_nil _ _)) (T.allF_nil _ _)) (T.allF_node (fun _ h => by injection h with h; subst h; exact tk243) (T.allF_nil _ _) (T.allF_nil _ _))))) (T.allF_node (fun _ h => by injection h with h; subst h; exact tk27) (T.allF_node (fun _ h => by injection h with h; subst h; exact tk43) (T.allF_node (fun _ h => by injection h with h; subst h; exact tk75) (T.allF_node (fun _ h => by injection h with h; subst h; exact tk139) (T.allF_node (fun _ h => by injection h with h; subst h; exact tk267) (T.allF_nil _ _) (T.allF_nil _ _)) (T.allF_nil _ _)) (T.allF_node (fun _ h => by injection h with h; subst h; exact tk203) (T.allF_nil _ _) (T.allF_nil _ _))) (T.allF_node (fun _ h => by injection h with h; subst h; exact tk107) (T.allF_node (fun _ h => by injection h with h; subst h; exact tk171) (T.allF_nil _ _) (T.allF_nil _ _)) (T.allF_node (fun _ h => by injection h with h; subst h; exact tk235) (T.allF_nil _ _) (T.allF_nil _ _)))) (T.allF_node (fun _ h => by injection h with h; subst h; exact tk59) (T.allF_node (fun _ h => by injection h with h; subst h; exact tk91) (T.allF_node (fun _ h => by injection h with h; subst h; exact tk155) (T.allF_node (fun _ h => by injection h with h; subst h; exact tk283) (T.allF_nil _ _) (T.allF_nil _ _)) (T.allF_nil _ _)) (T.allF_node (fun _ h => by injection h with h; subst h; exact tk219) (T.allF_nil _ _) (T.allF_nil _ _))) (T.allF_node (fun _ h => by injection h with h; subst h; exact tk123) (T.allF_node (fun _ h => by injection h with h; subst h; exact tk187) (T.allF_node (fun _ h => by injection h with h; subst h; exact tk315) (T.allF_nil _ _) (T.allF_nil _ _)) (T.allF_nil _ _)) (T.allF_node (fun _ h => by injection h with h; subst h; exact tk251) (T.allF_nil _ _) (T.allF_nil _ _))))))) (T.allF_node (fun _ h => by injection h with h; subst h; exact tk5) (T.allF_node (fun _ h => by injection h with h; subst h; exact tk9) (T.allF_node (fun _ h => by injection h with h; subst h; exact tk17) (T.allF_node (fun _ h => by injection h with h; subst h; exact tk33) (T.allF_node (fun _ h => by injection h with h; subst h; exact tk65) (T.allF_node (fun _ h => nomatch h) (T.allF_node (fun _ h => by injection h with h; subst h; exact tk257) (T.allF_nil _ _) (T.allF_nil _ _)) (T.allF_nil _ _)) (T.allF_nil _ _)) (T.allF_node (fun _ h => nomatch h) (T.allF_node (fun _ h => by injection h with h; subst h; exact tk161) (T.allF_nil _ _) (T.allF_nil _ _)) (T.allF_node (fun _ h => by injection h with h; subst h; exact tk225) (T.allF_nil _ _) (T.allF_nil _ _)))) (T.allF_node (fun _ h => by injection h with h; subst h; exact tk49) (T.allF_node (fun _ h => by injection h with h; subst h; exact tk81) (T.allF_node (fun _ h => by injection h with h; subst h; exact tk145) (T.allF_node (fun _ h => by injection h with h; subst h; exact tk273) (T.allF_nil _ _) (T.allF_nil _ _)) (T.allF_nil _ _)) (T.allF_nil _ _)) (T.allF_node (fun _ h => nomatch h) (T.allF_node (fun _ h => nomatch h) (T.allF_node (fun _ h => by injection h with h; subst h; exact tk305) (T.allF_nil _ _) (T.allF_nil _ _)) (T.allF_nil _ _)) (T.allF_node (fun _ h => by injection h with h; subst h; exact tk241) (T.allF_nil _ _) (T.allF_nil _ _))))) (T.allF_node (fun _ h => by injection h with h; subst h; exact tk25) (T.allF_node (fun _ h => by injection h with h; subst h; exact tk41) (T.allF_node (fun _ h => by injection h with h; subst h; exact tk73) (T.allF_node (fun _ h => by injection h with h; subst h; exact tk137) (T.allF_node (fun _ h => by injection h with h; subst h; exact tk265) (T.allF_nil _ _) (T.allF_nil _ _)) (T.allF_nil _ _)) (T.allF_node (fun _ h => by injection h with h; subst h; exact tk201) (T.allF_nil _ _) (T.allF_nil _ _))) (T.allF_node (fun _ h => by injection h with h; subst h; exact tk105) (T.allF_node (fun _ h => by injection h with h; subst h; exact tk169) (T.allF_node (fun _ h => by injection h with h; subst h; exact tk297) (T.allF_nil _ _) (T.allF_nil _ _)) (T.allF_nil _ _)) (T.allF_node (fun _ h => by injection h with h; subst h; exact tk233) (T.allF_nil _ _) (T.allF_nil _ _)))) (T.allF_node (fun _ h => by injection h with h; subst h; exact tk57) (T.allF_node (fun _ h => nomatch h) (T.allF_node (fun _ h => by injection h with h; subst h; exact tk153) (T.allF_node (fun _ h => by injection h with h; subst h; exact tk281) (T.allF_nil _ _) (T.allF_nil _ _)) (T.allF_nil _ _)) (T.allF_node (fun _ h => by injection h with h; subst h; exact tk217) (T.allF_nil _ _) (T.allF_nil _ _))) (T.allF_node (fun _ h => by injection h with h; subst h; exact tk121) (T.allF_node (fun _ h => by injection h with h; subst h; exact tk185) (T.allF_node (fun _ h => by injection h with h; subst h; exact tk313) (T.allF_nil _ _) (T.allF_nil _ _)) (T.allF_nil _ _)) (T.allF_node (fun _ h => by injection h with h; subst h; exact tk249) (T.allF_nil _ _) (T.allF_nil _ _)))))) (T.allF_node (fun _ h => by injection h with h; subst h; exact tk13) (T.allF_node (fun _ h => by injection h with h; subst h; exact tk21) (T.allF_node (fun _ h => by injection h with h; subst h; exact tk37) (T.allF_node (fun _ h => nomatch h) (T.allF_node (fun _ h => nomatch h) (T.allF_node (fun _ h => by injection h with h; subst h; exact tk261) (T.allF_nil _ _) (T.allF_nil _ _)) (T.allF_nil _ _)) (T.allF_node (fun _ h => by injection h with h; subst h; exact tk197) (T.allF_nil _ _) (T.allF_nil _ _))) (T.allF_node (fun _ h => by injection h with h; subst h; exact tk101) (T.allF_node (fun _ h => by injection h with h; subst h; exact tk165) (T.allF_node (fun _ h => by injection h with h; subst h; exact tk293) (T.allF_nil _ _) (T.allF_nil _ _)) (T.allF_nil _ _)) (T.allF_node (fun _ h => by injection h with h; subst h; exact tk229) (T.allF_nil _ _) (T.allF_nil _ _)))) (T.allF_node (fun _ h => by injection h with h; subst h; exact tk53) (T.allF_node (fun _ h => by injection h with h; subst h; exact tk85) (T.allF_node (fun _ h => by injection h with h; subst h; exact tk149) (T.allF_node (fun _ h => by injection h with h; subst h; exact tk277) (T.allF_nil _ _) (T.allF_nil _ _)) (T.allF_nil _ _)) (T.allF_node (fun _ h => by injection h with h; subst h; exact tk213) (T.allF_nil _ _) (T.allF_nil _ _))) (T.allF_node (fun _ h => by injection h with h; subst h; exact tk117) (T.allF_node (fun _ h => by injection h with h; subst h; exact tk181) (T.allF_node (fun _ h => by injection h with h; subst h; exact tk309) (T.allF_nil _ _) (T.allF_nil _ _)) (T.allF_nil _ _)) (T.allF_node (fun _ h => by injection h with h; subst h; exact tk245) (T.allF_nil _ _) (T.allF_nil _ _))))) (T.allF_node (fun _ h => nomatch h) (T.allF_node (fun _ h => by injection h with h; subst h; exact tk45) (T.allF_node (fun _ h => by injection h with h; subst h; exact tk77) (T.allF_node (fun _ h => nomatch h) (T.allF_node (fun _ h => by injection h with h; subst h; exact tk269) (T.allF_nil _ _) (T.allF_nil _ _)) (T.allF_nil _ _)) (T.allF_node (fun _ h => by injection h with h; subst h; exact tk205) (T.allF_nil _ _) (T.allF_nil _ _))) (T.allF_node (fun _ h => by injection h with h; subst h; exact tk109) (T.allF_node (fun _ h => by injection h with h; subst h; exact tk173) (T.allF_node (fun _ h => by injection h with h; subst h; exact tk301) (T.allF_nil _ _) (T.allF_nil _ _)) (T.allF_nil _ _)) (T.allF_node (fun _ h => by injection h with h; subst h; exact tk237) (T.allF_nil _ _) (T.allF_nil _ _)))) (T.allF_node (fun _ h => by injection h with h; subst h; exact tk61) (T.allF_node (fun _ h => by injection h with h; subst h; exact tk93) (T.allF_node (fun _ h => by injection h with h; subst h; exact tk157) (T.allF_node (fun _ h => by injection h with h; subst h; exact tk285) (T.allF_nil _ _) (T.allF_nil _ _)) (T.allF_nil _ _)) (T.allF_node (fun _ h => by injection h with h; subst h; exact tk221) (T.allF_nil _ _) (T.allF_nil _ _))) (T.allF_node (fun _ h => by injection h with h; subst h; exact tk125) (T.allF_node (fun _ h => by injection h with h; subst h; exact tk189) (T.allF_node (fun _ h => by injection h with h; subst h; exact tk317) (T.allF_nil _ _) (T.allF_nil _ _)) (T.allF_nil _ _)) (T.allF_node (fun _ h => by injection h with h; subst h; exact tk253) (T.allF_nil _ _) (T.allF_nil _ _)))))))) (T.allF_node (fun _ h => by injection h with h; subst h; exact tk2) (T.allF_node (fun _ h => by injection h with h; subst h; exact tk4) (T.allF_node (fun _ h => by injection h with h; subst h; exact tk8) (T.allF_node (fun _ h => by injection h with h; subst h; exact tk16) (T.allF_node (fun _ h => by injection h with h; subst h; exact tk32) (T.allF_node (fun _ h => by injection h with h; subst h; exact tk64) (T.allF_node (fun _ h => by injection h with h; subst h; exact tk128) (T.allF_node (fun _ h => by injection h with h; subst h; exact tk256) (T.allF_nil _ _) (T.allF_nil _ _)) (T.allF_nil _ _)) (T.allF_node (fun _ h => by injection h with h; subst h; exact tk192) (T.allF_nil _ _) (T.allF_nil _ _))) (T.allF_node (fun _ h => by injection h with h; subst h; exact tk96) (T.allF_node (fun _ h => by injection h with h; subst h; exact tk160) (T.allF_node (fun _ h => by injection h with h; subst h; exact tk288) (T.allF_nil _ _) (T.allF_nil _ _)) (T.allF_nil _ _)) (T.allF_node (fun _ h => by injection h with h; subst h; exact tk224) (T.allF_nil _ _) (T.allF_nil _ _)))) (T.allF_node (fun _ h => nomatch h) (T.allF_node (fun _ h => by injection h with h; subst h; exact tk80) (T.allF_node (fun _ h => by injection h with h; subst h; exact tk144) (T.allF_node (fun _ h => by injection h with h; subst h; exact tk272) (T.allF_nil _ _) (T.allF_nil _ _)) (T.allF_nil _ _)) (T.allF_node (fun _ h => by injection h with h; subst h; exact tk208) (T.allF_nil _ _) (T.allF_nil _ _))) (T.allF_node (fun _ h => by injection h with h; subst h; exact tk112) (T.allF_node (fun _ h => by injection h with h; subst h; exact tk176) (T.allF_node (fun _ h => by injection h with h; subst h; exact tk304) (T.allF_nil _ _) (T.allF_nil _ _)) (T.allF_nil _ _)) (T.allF_node (fun _ h => by injection h with h; subst h; exact tk240) (T.allF_nil _ _) (T.allF_nil _ _))))) (T.allF_node (fun _ h => by injection h with h; subst h; exact tk24) (T.allF_node (fun _ h => by injection h with h; subst h; exact tk40) (T.allF_node (fun _ h => nomatch h) (T.allF_node (fun _ h => by injection h with h; subst h; exact tk136) (T.allF_nil _ _) (T.allF_nil _ _)) (T.allF_node (fun _ h => by injection h with h; subst h; exact tk200) (T.allF_nil _ _) (T.allF_nil _ _))) (T.allF_node (fun _ h => by injection h with h; subst h; exact tk104) (T.allF_node (fun _ h => by injection h with h; subst h; exact tk168) (T.allF_node (fun _ h => by injection h with h; subst h; exact tk296) (T.allF_nil _ _) (T.allF_nil _ _)) (T.allF_nil _ _)) (T.allF_node (fun _ h => by injection h with h; subst h; exact tk232) (T.allF_nil _ _) (T.allF_nil _ _)))) (T.allF_node (fun _ h => by injection h with h; subst h; exact tk56) (T.allF_node (fun _ h => by injection h with h; subst h; exact tk88) (T.allF_node (fun _ h => by injection h with h; subst h; exact tk152) (T.allF_node (fun _ h => by injection h with h; subst h; exact tk280) (T.allF_nil _ _) (T.allF_nil _ _)) (T.allF_nil _ _)) (T.allF_node (fun _ h => by injection h with h; subst h; exact tk216) (T.allF_nil _ _) (T.allF_nil _ _))) (T.allF_node (fun _ h => by injection h with h; subst h; exact tk120) (T.allF_node (fun _ h => by injection h with h; subst h; exact tk184) (T.allF_node (fun _ h => by injection h with h; subst h; exact tk312) (T.allF_nil _ _) (T.allF_nil _ _)) (T.allF_nil _ _)) (T.allF_node (fun _ h => by injection h with h; subst h; exact tk248) (T.allF_nil _ _) (T.allF_nil _ _)))))) (T.allF_node (fun _ h => by injection h with h; subst h; exact tk12) (T.allF_node (fun _ h => by injection h with h; subst h; exact tk20) (T.allF_node (fun _ h => by injection h with h; subst h; exact tk36) (T.allF_node (fun _ h => by injection h with h; subst h; exact tk68) (T.allF_node (fun _ h => by injection h with h; subst h; exact tk132) (T.allF_nil _ _) (T.allF_nil _ _)) (T.allF_node (fun _ h => by injection h with h; subst h; exact tk196) (T.allF_nil _ _) (T.allF_nil _ _))) (T.allF_node (fun _ h => by injection h with h; subst h; exact tk100) (T.allF_node (fun _ h => by injection h with h; subst h; exact tk164) (T.allF_node (fun _ h => by injection h with h; subst h; exact tk292) (T.allF_nil _ _) (T.allF_nil _ _)) (T.allF_nil _ _)) (T.allF_node (fun _ h => by injection h with h; subst h; exact tk228) (T.allF_nil _ _) (T.allF_nil _ _)))) (T.allF_node (fun _ h => by injection h with h; subst h; exact tk52) (T.allF_node (fun _ h => by injection h with h; subst h; exact tk84) (T.allF_node (fun _ h => by injection h with h; subst h; exact tk148) (T.allF_node (fun _ h => by injection h with h; subst h; exact tk276) (T.allF_nil _ _) (T.allF_nil _ _)) (T.allF_nil _ _)) (T.allF_node (fun _ h => by injection h with h; subst h; exact tk212) (T.allF_nil _ _) (T.allF_nil _ _))) (T.allF_node (fun _ h => nomatch h) (T.allF_node (fun _ h => by injection h with h; subst h; exact tk180) (T.allF_node (fun _ h => by injection h with h; subst h; exact tk308) (T.allF_nil _ _) (T.allF_nil _ _)) (T.allF_nil _ _)) (T.allF_node (fun _ h => by injection h with h; subst h; exact tk244) (T.allF_nil _ _) (T.allF_nil _ _))))) (T.allF_node (fun _ h => by injection h with h; subst h; exact tk28) (T.allF_node (fun _ h => by injection h with h; subst h; exact tk44) (T.allF_node (fun _ h => by injection h with h; subst h; exact tk76) (T.allF_node (fun _ h => by injection h with h; subst h; exact tk140) (T.allF_node (fun _ h => by injection h with h; subst h; exact tk268) (T.allF_nil _ _) (T.allF_nil _ _)) (T.allF_nil _ _)) (T.allF_node (fun _ h => by injection h with h; subst h; exact tk204) (T.allF_nil _ _) (T.allF_nil _ _))) (T.allF_node (fun _ h => by injection h with h; subst h; exact tk108) (T.allF_node (fun _ h => by injection h with h; subst h; exact tk172) (T.allF_node (fun _ h => by injection h with h; subst h; exact tk300) (T.allF_nil _ _) (T.allF_nil _ _)) (T.allF_nil _ _)) (T.allF_node (fun _ h => by injection h with h; subst h; exact tk236) (T.allF_nil _ _) (T.allF_nil _ _)))) (T.allF_node (fun _ h => by injection h with h; subst h; exact tk60) (T.allF_node (fun _ h => by injection h with h; subst h; exact tk92) (T.allF_node (fun _ h => by injection h with h; subst h; exact tk156) (T.allF_node (fun _ h => by injection h with h; subst h; exact tk284) (T.allF_nil _ _) (T.allF_nil _ _)) (T.allF_nil _ _)) (T.allF_node (fun _ h => by injection h with h; subst h; exact tk220) (T.allF_nil _ _) (T.allF_nil _ _))) (T.allF_node (fun _ h => by injection h with h; subst h; exact tk124) (T.allF_node (fun _ h => by injection h with h; subst h; exact tk188) (T.allF_node (fun _ h => by injection h with h; subst h; exact tk316) (T.allF_nil _ _) (T.allF_nil _ _)) (T.allF_nil _ _)) (T.allF_node (fun _ h => by injection h with h; subst h; exact tk252) (T.allF_nil _ _) (T.allF_nil _ _))))))) (T.allF_node (fun _ h => by injection h with h; subst h; exact tk6) (T.allF_node (fun _ h => by injection h with h; subst h; exact tk10) (T.allF_node (fun _ h => by injection h with h; subst h; exact tk18) (T.allF_node (fun _ h => by injection h with h; subst h; exact tk34) (T.allF_node (fun _ h => by injection h with h; subst h; exact tk66) (T.allF_node (fun _ h => by injection h with h; subst h; exact tk130) (T.allF_node (fun _ h => by injection h with h; subst h; exact tk258) (T.allF_nil _ _) (T.allF_nil _ _)) (T.allF_nil _ _)) (T.allF_node (fun _ h => by injection h with h; subst h; exact tk194) (T.allF_nil _ _) (T.allF_nil _ _))) (T.allF_node (fun _ h => by injection h with h; subst h; exact tk98) (T.allF_node (fun _ h => by injection h with h; subst h; exact tk162) (T.allF_node (fun _ h => by injection h with h; subst h; exact tk290) (T.allF_nil _ _) (T.allF_nil _ _)) (T.allF_nil _ _)) (T.allF_nil _ _))) (T.allF_node (fun _ h => by injection h with h; subst h; exact tk50) (T.allF_node (fun _ h => by injection h with h; subst h; exact tk82) (T.allF_node (fun _ h => by injection h with h; subst h; exact tk146) (T.allF_node (fun _ h => by injection h with h; subst h; exact tk274) (T.allF_nil _ _) (T.allF_nil _ _)) (T.allF_nil _ _)) (T.allF_node (fun _ h => by injection h with h; subst h; exact tk210) (T.allF_nil _ _) (T.allF_nil _ _))) (T.allF_node (fun _ h => by injection h with h; subst h; exact tk114) (T.allF_node (fun _ h => by injection h with h; subst h; exact tk178) (T.allF_node (fun _ h => by injection h with h; subst h; exact tk306) (T.allF_nil _ _) (T.allF_nil _ _)) (T.allF_nil _ _)) (T.allF_node (fun _ h => by injection h with h; subst h; exact tk242) (T.allF_nil _ _) (T.allF_nil _ _))))) (T.allF_node (fun _ h => by injection h with h; subst h; exact tk26) (T.allF_node (fun _ h => by injection h with h; subst h; exact tk42) (T.allF_node (fun _ h => by injection h with h; subst h; exact tk74) (T.allF_node (fun _ h => by injection h with h; subst h; exact tk138) (T.allF_node (fun _ h => by injection h with h; subst h; exact tk266) (T.allF_nil _ _) (T.allF_nil _ _)) (T.allF_nil _ _)) (T.allF_node (fun _ h => by injection h with h; subst h; exact tk202) (T.allF_nil _ _) (T.allF_nil _ _))) (T.allF_node (fun _ h => nomatch h) (T.allF_node (fun _ h => by injection h with h; subst h; exact tk170) (T.allF_node (fun _ h => by injection h with h; subst h; exact tk298) (T.allF_nil _ _) (T.allF_nil _ _)) (T.allF_nil _ _)) (T.allF_node (fun _ h => by injection h with h; subst h; exact tk234) (T.allF_nil _ _) (T.allF_nil _ _)))) (T.allF_node (fun _ h => by injection h with h; subst h; exact tk58) (T.allF_node (fun _ h => by injection h with h; subst h; exact tk90) (T.allF_node (fun _ h => by injection h with h; subst h; exact tk154) (T.allF_nil _ _) (T.allF_nil _ _)) (T.allF_node (fun _ h => by injection h with h; subst h; exact tk218) (T.allF_nil _ _) (T.allF_nil _ _))) (T.allF_node (fun _ h => by injection h with h; subst h; exact tk122) (T.allF_node (fun _ h => by injection h with h; subst h; exact tk186) (T.allF_node (fun _ h => by injection h with h; subst h; exact tk314) (T.allF_nil _ _) (T.allF_nil _ _)) (T.allF_nil _ _)) (T.allF_nil _ _))))) (T.allF_node (fun _ h => by injection h with h; subst h; exact tk14) (T.allF_node (fun _ h => by injection h with h; subst h; exact tk22) (T.allF_node (fun _ h => by injection h with h; subst h; exact tk38) (T.allF_node (fun _ h => by injection h with h; subst h; exact tk70) (T.allF_node (fun _ h => by injection h with h; subst h; exact tk134) (T.allF_node (fun _ h => by injection h with h; subst h; exact tk262) (T.allF_nil _ _) (T.allF_nil _ _)) (T.allF_nil _ _)) (T.allF_node (fun _ h => by injection h with h; subst h; exact tk198) (T.allF_nil _ _) (T.allF_nil _ _))) (T.allF_node (fun _ h => by injection h with h; subst h; exact tk102) (T.allF_node (fun _ h => by injection h with h; subst h; exact tk166) (T.allF_node (fun _ h => by injection h with h; subst h; exact tk294) (T.allF_nil _ _) (T.allF_nil _ _)) (T.allF_nil _ _)) (T.allF_node (fun _ h => by injection h with h; subst h; exact tk230) (T.allF_nil _ _) (T.allF_nil _ _)))) (T.allF_node (fun _ h => by injection h with h; subst h; exact tk54) (T.allF_node (fun _ h => by injection h with h; subst h; exact tk86) (T.allF_node (fun _ h => by injection h with h; subst h; exact tk150) (T.allF_node (fun _ h => by injection h with h; subst h; exact tk278) (T.allF_nil _ _) (T.allF_nil _ _)) (T.allF_nil _ _)) (T.allF_nil _ _)) (T.allF_node (fun _ h => by injection h with h; subst h; exact tk118) (T.allF_node (fun _ h => nomatch h) (T.allF_node (fun _ h => by injection h with h; subst h; exact tk310) (T.allF_nil _ _) (T.allF_nil _ _)) (T.allF_nil _ _)) (T.allF_node (fun _ h => by injection h with h; subst h; exact tk246) (T.allF_nil _ _) (T.allF_nil _ _))))) (T.allF_node (fun _ h => by injection h with h; subst h; exact tk30) (T.allF_node (fun _ h => by injection h with h; subst h; exact tk46) (T.allF_node (fun _ h => by injection h with h; subst h; exact tk78) (T.allF_node (fun _ h => by injection h with h; subst h; exact tk142) (T.allF_node (fun _ h => by injection h with h; subst h; exact tk270) (T.allF_nil _ _) (T.allF_nil _ _)) (T.allF_nil _ _)) (T.allF_node (fun _ h => by injection h with h; subst h; exact tk206) (T.allF_nil _ _) (T.allF_nil _ _))) (T.allF_node (fun _ h => by injection h with h; subst h; exact tk110) (T.allF_node (fun _ h => by injection h with h; subst h; exact tk174) (T.allF_node (fun _ h => by injection h with h; subst h; exact tk302) (T.allF_nil _ _) (T.allF_nil _ _)) (T.allF_nil _ _)) (T.allF_nil _ _))) (T.allF_node (fun _ h => by injection h with h; subst h; exact tk62) (T.allF_node (fun _ h => by injection h with h; subst h; exact tk94) (T.allF_node (fun _ h => by injection h with h; subst h; exact tk158) (T.allF_node (fun _ h => by injection h with h; subst h; exact tk286) (T.allF_nil _ _) (T.allF_nil _ _)) (T.allF_nil _ _)) (T.allF_node (fun _ h => by injection h with h; subst h; exact tk222) (T.allF_nil _ _) (T.allF_nil _ _))) (T.allF_node (fun _ h => by injection h with h; subst h; exact tk126) (T.allF_node (fun _ h => by injection h with h; subst h; exact tk190) (T.allF_node (fun _ h => by injection h with h; subst h; exact tk318) (T.allF_nil _ _) (T.allF_nil _ _)) (T.allF_nil _ _)) (T.allF_nil _ _)))))))) h⟩
theorem fnsOK (f : Nat) (fn : Func) (h : fnT.get f = some fn) : FnOK Tryz.prog f fn := T.allF_get (Q := FnOK Tryz.prog) (t := fnT) (T.allF_node (fun _ h => nomatch h) (T.allF_node (fun _ h => nomatch h) (T.allF_node (fun _ h => by injection h with h; subst h; exact fk3) (T.allF_node (fun _ h => by injection h with h; subst h; exact fk7) (T.allF_node (fun _ h => by injection h with h; subst h; exact fk15) (T.allF_node (fun _ h => by injection h with h; subst h; exact fk31) (T.allF_node (fun _ h => by injection h with h; subst h; exact fk63) (T.allF_node (fun _ h => by injection h with h; subst h; exact fk127) (T.allF_nil _ _) (T.allF_nil _ _)) (T.allF_node (fun _ h => by injection h with h; subst h; exact fk191) (T.allF_nil _ _) (T.allF_nil _ _))) (T.allF_node (fun _ h => by injection h with h; subst h; exact fk95) (T.allF_node (fun _ h => by injection h with h; subst h; exact fk159) (T.allF_nil _ _) (T.allF_nil _ _)) (T.allF_node (fun _ h => by injection h with h; subst h; exact fk223) (T.allF_nil _ _) (T.allF_nil _ _)))) (T.allF_node (fun _ h => by injection h with h; subst h; exact fk47) (T.allF_node (fun _ h => by injection h with h; subst h; exact fk79) (T.allF_node (fun _ h => by injection h with h; subst h; exact fk143) (T.allF_node (fun _ h => by injection h with h; subst h; exact fk271) (T.allF_nil _ _) (T.allF_nil _ _)) (T.allF_nil _ _)) (T.allF_node (fun _ h => by injection h with h; subst h; exact fk207) (T.allF_nil _ _) (T.allF_nil _ _))) (T.allF_node (fun _ h => by injection h with h; subst h; exact fk111) (T.allF_node (fun _ h => by injection h with h; subst h; exact fk175) (T.allF_nil _ _) (T.allF_nil _ _)) (T.allF_node (fun _ h => by injection h with h; subst h; exact fk239) (T.allF_nil _ _) (T.allF_nil _ _))))) (T.allF_node (fun _ h => by injection h with h; subst h; exact fk23) (T.allF_node (fun _ h => by injection h with h; subst h; exact fk39) (T.allF_node (fun _ h => by injection h with h; subst h; exact fk71) (T.allF_node (fun _ h => by injection h with h; subst h; exact fk135) (T.allF_nil _ _) (T.allF_nil _ _)) (T.allF_node (fun _ h => by injection h with h; subst h; exact fk199) (T.allF_nil _ _) (T.allF_nil _ _))) (T.allF_node (fun _ h => by injection h with h; subst h; exact fk103) (T.allF_node (fun _ h => by injection h with h; subst h; exact fk167) (T.allF_nil _ _) (T.allF_nil _ _)) (T.allF_node (fun _ h => by injection h with h; subst h; exact fk231) (T.allF_nil _ _) (T.allF_nil _ _)))) (T.allF_node (fun _ h => by injection h with h; subst h; exact fk55) (T.allF_node (fun _ h => by injection h with h; subst h; exact fk87) (T.allF_node (fun _ h => by injection h with h; subst h; exact fk151) (T.allF_node (fun _ h => by injection h with h; subst h; exact fk279) (T.allF_nil _ _) (T.allF_nil _ _)) (T.allF_nil _ _)) (T.allF_nil _ _)) (T.allF_node (fun _ h => by injection h with h; subst h; exact fk119) (T.allF_node (fun _ h => by injection h with h; subst h; exact fk183) (T.allF_nil _ _) (T.allF_nil _ _)) (T.allF_node (fun _ h => by injection h with h; subst h; exact fk247) (T.allF_nil _ _) (T.allF_nil _ _)))))) (T.allF_node (fun _ h => by injection h with h; subst h; exact fk11) (T.allF_node (fun _ h => by injection h with h; subst h; exact fk19) (T.allF_node (fun _ h => by injection h with h; subst h; exact fk35) (T.allF_node (fun _ h => by injection h with h; subst h; exact fk67) (T.allF_node (fun _ h => by injection h with h; subst h; exact fk131) (T.allF_node (fun _ h => by injection h with h; subst h; exact fk259) (T.allF_nil _ _) (T.allF_nil _ _)) (T.allF_nil _ _)) (T.allF_node (fun _ h => by injection h with h; subst h; exact fk195) (T.allF_nil _ _) (T.allF_nil _ _))) (T.allF_node (fun _ h => by injection h with h; subst h; exact fk99) (T.allF_node (fun _ h => by injection h with h; subst h; exact fk163) (T.allF_nil _ _) (T.allF_nil _ _)) (T.allF_node (fun _ h => by injection h with h; subst h; exact fk227) (T.allF_nil _ _) (T.allF_nil _ _)))) (T.allF_node (fun _ h => by injection h with h; subst h; exact fk51) (T.allF_node (fun _ h => by injection h with h; subst h; exact fk83) (T.allF_node (fun _ h => by injection h with h; subst h; exact fk147) (T.allF_node (fun _ h => by injection h with h; subst h; exact fk275) (T.allF_nil _ _) (T.allF_nil _ _)) (T.allF_nil _ _)) (T.allF_node (fun _ h => by injection h with h; subst h; exact fk211) (T.allF_nil _ _) (T.allF_nil _ _))) (T.allF_node (fun _ h => by injection h with h; subst h; exact fk115) (T.allF_node (fun _ h => by injection h with h; subst h; exact fk179) (T.allF_nil _ _) (T.allF_nil _ _)) (T.allF_node (fun _ h => by injection h with h; subst h; exact fk243) (T.allF_nil _ _) (T.allF_nil _ _))))) (T.allF_node (fun _ h => by injection h with h; subst h; exact fk27) (T.allF_node (fun _ h => by injection h with h; subst h; exact fk43) (T.allF_node (fun _ h => by injection h with h; subst h; exact fk75) (T.allF_node (fun _ h => by injection h with h; subst h; exact fk139) (T.allF_node (fun _ h => by injection h with h; subst h; exact fk267) (T.allF_nil _ _) (T.allF_nil _ _)) (T.allF_nil _ _)) (T.allF_node (fun _ h => by injection h with h; subst h; exact fk203) (T.allF_nil _ _) (T.allF_nil _ _))) (T.allF_node (fun _ h => by injection h with h; subst h; exact fk107) (T.allF_node (fun _ h => by injection h with h; subst h; exact fk171) (T.allF_nil _ _) (T.allF_nil _ _)) (T.allF_node (fun _ h => by injection h with h; subst h; exact fk235) (T.allF_nil _ _) (T.allF_nil _ _)))) (T.allF_node (fun _ h => by injection h with h; subst h; exact fk59) (T.allF_node (fun _ h => by injection h with h; subst h; exact fk91) (T.allF_node (fun _ h => by injection h with h; subst h; exact fk155) (T.allF_node (fun _ h => by injection h with h; subst h; exact fk283) (T.allF_nil _ _) (T.allF_nil _ _)) (T.allF_nil _ _)) (T.allF_node (fun _ h => by injection h with h; subst h; exact fk219) (T.allF_nil _ _) (T.allF_nil _ _))) (T.allF_node (fun _ h => by injection h with h; subst h; exact fk123) (T.allF_node (fun _ h => by injection h with h; subst h; exact fk187) (T.allF_nil _ _) (T.allF_nil _ _)) (T.allF_node (fun _ h => by injection h with h; subst h; exact fk251) (T.allF_nil _ _) (T.allF_nil _ _))))))) (T.allF_node (fun _ h => by injection h with h; subst h; exact fk5) (T.allF_node (fun _ h => by injection h with h; subst h; exact fk9) (T.allF_node (fun _ h => by injection h with h; subst h; exact fk17) (T.allF_node (fun _ h => by injection h with h; subst h; exact fk33) (T.allF_node (fun _ h => by injection h with h; subst h; exact fk65) (T.allF_node (fun _ h => by injection h with h; subst h; exact fk129) (T.allF_node (fun _ h => by injection h with h; subst h; exact fk257) (T.allF_nil _ _) (T.allF_nil _ _)) (T.allF_nil _ _)) (T.allF_node (fun _ h => by injection h with h; subst h; exact fk193) (T.allF_nil _ _) (T.allF_nil _ _))) (T.allF_node (fun _ h => by injection h with h; subst h; exact fk97) (T.allF_node (fun _ h => by injection h with h; subst h; exact fk161) (T.allF_nil _ _) (T.allF_nil _ _)) (T.allF_node (fun _ h => by injection h with h; subst h; exact fk225) (T.allF_nil _ _) (T.allF_nil _ _)))) (T.allF_node (fun _ h => by injection h with h; subst h; exact fk49) (T.allF_node (fun _ h => by injection h with h; subst h; exact fk81) (T.allF_node (fun _ h => by injection h with h; subst h; exact fk145) (T.allF_node (fun _ h => by injection h with h; subst h; exact fk273) (T.allF_nil _ _) (T.allF_nil _ _)) (T.allF_nil _ _)) (T.allF_node (fun _ h => by injection h with h; subst h; exact fk209) (T.allF_nil _ _) (T.allF_nil _ _))) (T.allF_node (fun _ h => by injection h with h; subst h; exact fk113) (T.allF_node (fun _ h => by injection h with h; subst h; exact fk177) (T.allF_nil _ _) (T.allF_nil _ _)) (T.allF_node (fun _ h => by injection h with h; subst h; exact fk241) (T.allF_nil _ _) (T.allF_nil _ _))))) (T.allF_node (fun _ h => by injection h with h; subst h; exact fk25) (T.allF_node (fun _ h => by injection h with h; subst h; exact fk41) (T.allF_node (fun _ h => by injection h with h; subst h; exact fk73) (T.allF_node (fun _ h => by injection h with h; subst h; exact fk137) (T.allF_node (fun _ h => by injection h with h; subst h; exact fk265) (T.allF_nil _ _) (T.allF_nil _ _)) (T.allF_nil _ _)) (T.allF_node (fun _ h => by injection h with h; subst h; exact fk201) (T.allF_nil _ _) (T.allF_nil _ _))) (T.allF_node (fun _ h => by injection h with h; subst h; exact fk105) (T.allF_node (fun _ h => by injection h with h; subst h; exact fk169) (T.allF_nil _ _) (T.allF_nil _ _)) (T.allF_node (fun _ h => by injection h with h; subst h; exact fk233) (T.allF_nil _ _) (T.allF_nil _ _)))) (T.allF_node (fun _ h => by injection h with h; subst h; exact fk57) (T.allF_node (fun _ h => by injection h with h; subst h; exact fk89) (T.allF_node (fun _ h => by injection h with h; subst h; exact fk153) (T.allF_node (fun _ h => by injection h with h; subst h; exact fk281) (T.allF_nil _ _) (T.allF_nil _ _)) (T.allF_nil _ _)) (T.allF_node (fun _ h => by injection h with h; subst h; exact fk217) (T.allF_nil _ _) (T.allF_nil _ _))) (T.allF_node (fun _ h => by injection h with h; subst h; exact fk121) (T.allF_node (fun _ h => by injection h with h; subst h; exact fk185) (T.allF_nil _ _) (T.allF_nil _ _)) (T.allF_node (fun _ h => by injection h with h; subst h; exact fk249) (T.allF_nil _ _) (T.allF_nil _ _)))))) (T.allF_node (fun _ h => by injection h with h; subst h; exact fk13) (T.allF_node (fun _ h => by injection h with h; subst h; exact fk21) (T.allF_node (fun _ h => by injection h with h; subst h; exact fk37) (T.allF_node (fun _ h => by injection h with h; subst h; exact fk69) (T.allF_node (fun _ h => by injection h with h; subst h; exact fk133) (T.allF_node (fun _ h => by injection h with h; subst h; exact fk261) (T.allF_nil _ _) (T.allF_nil _ _)) (T.allF_nil _ _)) (T.allF_node (fun _ h => by injection h with h; subst h; exact fk197) (T.allF_nil _ _) (T.allF_nil _ _))) (T.allF_node (fun _ h => by injection h with h; subst h; exact fk101) (T.allF_node (fun _ h => by injection h with h; subst h; exact fk165) (T.allF_nil _ _) (T.allF_nil _ _)) (T.allF_node (fun _ h => by injection h with h; subst h; exact fk229) (T.allF_nil _ _) (T.allF_nil _ _)))) (T.allF_node (fun _ h => by injection h with h; subst h; exact fk53) (T.allF_node (fun _ h => by injection h with h; subst h; exact fk85) (T.allF_node (fun _ h => by injection h with h; subst h; exact fk149) (T.allF_node (fun _ h => by injection h with h; subst h; exact fk277) (T.allF_nil _ _) (T.allF_nil _ _)) (T.allF_nil _ _)) (T.allF_node (fun _ h => by injection h with h; subst h; exact fk213) (T.allF_nil _ _) (T.allF_nil _ _))) (T.allF_node (fun _ h => by injection h with h; subst h; exact fk117) (T.allF_node (fun _ h => by injection h with h; subst h; exact fk181) (T.allF_nil _ _) (T.allF_nil _ _)) (T.allF_node (fun _ h => by injection h with h; subst h; exact fk245) (T.allF_nil _ _) (T.allF_nil _ _))))) (T.allF_node (fun _ h => by injection h with h; subst h; exact fk29) (T.allF_node (fun _ h => by injection h with h; subst h; exact fk45) (T.allF_node (fun _ h => by injection h with h; subst h; exact fk77) (T.allF_node (fun _ h => by injection h with h; subst h; exact fk141) (T.allF_node (fun _ h => by injection h with h; subst h; exact fk269) (T.allF_nil _ _) (T.allF_nil _ _)) (T.allF_nil _ _)) (T.allF_node (fun _ h => by injection h with h; subst h; exact fk205) (T.allF_nil _ _) (T.allF_nil _ _))) (T.allF_node (fun _ h => by injection h with h; subst h; exact fk109) (T.allF_node (fun _ h => by injection h with h; subst h; exact fk173) (T.allF_nil _ _) (T.allF_nil _ _)) (T.allF_node (fun _ h => by injection h with h; subst h; exact fk237) (T.allF_nil _ _) (T.allF_nil _ _)))) (T.allF_node (fun _ h => by injection h with h; subst h; exact fk61) (T.allF_node (fun _ h => by injection h with h; subst h; exact fk93) (T.allF_node (fun _ h => by injection h with h; subst h; exact fk157) (T.allF_node (fun _ h => by injection h with h; subst h; exact fk285) (T.allF_nil _ _) (T.allF_nil _ _)) (T.allF_nil _ _)) (T.allF_node (fun _ h => by injection h with h; subst h; exact fk221) (T.allF_nil _ _) (T.allF_nil _ _))) (T.allF_node (fun _ h => by injection h with h; subst h; exact fk125) (T.allF_node (fun _ h => by injection h with h; subst h; exact fk189) (T.allF_nil _ _) (T.allF_nil _ _)) (T.allF_node (fun _ h => by injection h with h; subst h; exact fk253) (T.allF_nil _ _) (T.allF_nil _ _)))))))) (T.allF_node (fun _ h => by injection h with h; subst h; exact fk2) (T.allF_node (fun _ h => by injection h with h; subst h; exact fk4) (T.allF_node (fun _ h => by injection h with h; subst h; exact fk8) (T.allF_node (fun _ h => by injection h with h; subst h; exact fk16) (T.allF_node (fun _ h => by injection h with h; subst h; exact fk32) (T.allF_node (fun _ h => by injection h with h; subst h; exact fk64) (T.allF_node (fun _ h => by injection h with h; subst h; exact fk128) (T.allF_node (fun _ h => by injection h with h; subst h; exact fk256) (T.allF_nil _ _) (T.allF_nil _ _)) (T.allF_nil _ _)) (T.allF_node (fun _ h => by injection h with h; subst h; exact fk192) (T.allF_nil _ _) (T.allF_nil _ _))) (T.allF_node (fun _ h => by injection h with h; subst h; exact fk96) (T.allF_node (fun _ h => by injection h with h; subst h; exact fk160) (T.allF_nil _ _) (T.allF_nil _ _)) (T.allF_node (fun _ h => by injection h with h; subst h; exact fk224) (T.allF_nil _ _) (T.allF_nil _ _)))) (T.allF_node (fun _ h => by injection h with h; subst h; exact fk48) (T.allF_node (fun _ h => by injection h with h; subst h; exact fk80) (T.allF_node (fun _ h => by injection h with h; subst h; exact fk144) (T.allF_node (fun _ h => by injection h with h; subst h; exact fk272) (T.allF_nil _ _) (T.allF_nil _ _)) (T.allF_nil _ _)) (T.allF_node (fun _ h => by injection h with h; subst h; exact fk208) (T.allF_nil _ _) (T.allF_nil _ _))) (T.allF_node (fun _ h => by injection h with h; subst h; exact fk112) (T.allF_node (fun _ h => by injection h with h; subst h; exact fk176) (T.allF_nil _ _) (T.allF_nil _ _)) (T.allF_node (fun _ h => by injection h with h; subst h; exact fk240) (T.allF_nil _ _) (T.allF_nil _ _))))) (T.allF_node (fun _ h => by injection h with h; subst h; exact fk24) (T.allF_node (fun _ h => by injection h with h; subst h; exact fk40) (T.allF_node (fun _ h => by injection h with h; subst h; exact fk72) (T.allF_node (fun _ h => by injection h with h; subst h; exact fk136) (T.allF_node (fun _ h => by injection h with h; subst h; exact fk264) (T.allF_nil _ _) (T.allF_nil _ _)) (T.allF_nil _ _)) (T.allF_node (fun _ h => by injection h with h; subst h; exact fk200) (T.allF_nil _ _) (T.allF_nil _ _))) (T.allF_node (fun _ h => by injection h with h; subst h; exact fk104) (T.allF_node (fun _ h => by injection h with h; subst h; exact fk168) (T.allF_nil _ _) (T.allF_nil _ _)) (T.allF_node (fun _ h => by injection h with h; subst h; exact fk232) (T.allF_nil _ _) (T.allF_nil _ _)))) (T.allF_node (fun _ h => by injection h with h; subst h; exact fk56) (T.allF_node (fun _ h => by injection h with h; subst h; exact fk88) (T.allF_node (fun _ h => by injection h with h; subst h; exact fk152) (T.allF_node (fun _ h => by injection h with h; subst h; exact fk280) (T.allF_nil _ _) (T.allF_nil _ _)) (T.allF_nil _ _)) (T.allF_node (fun _ h => by injection h with h; subst h; exact fk216) (T.allF_nil _ _) (T.allF_nil _ _))) (T.allF_node (fun _ h => by injection h with h; subst h; exact fk120) (T.allF_node (fun _ h => by injection h with h; subst h; exact fk184) (T.allF_nil _ _) (T.allF_nil _ _)) (T.allF_node (fun _ h => by injection h with h; subst h; exact fk248) (T.allF_nil _ _) (T.allF_nil _ _)))))) (T.allF_node (fun _ h => by injection h with h; subst h; exact fk12) (T.allF_node (fun _ h => by injection h with h; subst h; exact fk20) (T.allF_node (fun _ h => by injection h with h; subst h; exact fk36) (T.allF_node (fun _ h => by injection h with h; subst h; exact fk68) (T.allF_node (fun _ h => by injection h with h; subst h; exact fk132) (T.allF_node (fun _ h => by injection h with h; subst h; exact fk260) (T.allF_nil _ _) (T.allF_nil _ _)) (T.allF_nil _ _)) (T.allF_node (fun _ h => by injection h with h; subst h; exact fk196) (T.allF_nil _ _) (T.allF_nil _ _))) (T.allF_node (fun _ h => by injection h with h; subst h; exact fk100) (T.allF_node (fun _ h => by injection h with h; subst h; exact fk164) (T.allF_nil _ _) (T.allF_nil _ _)) (T.allF_node (fun _ h => by injection h with h; subst h; exact fk228) (T.allF_nil _ _) (T.allF_nil _ _)))) (T.allF_node (fun _ h => by injection h with h; subst h; exact fk52) (T.allF_node (fun _ h => by injection h with h; subst h; exact fk84) (T.allF_node (fun _ h => by injection h with h; subst h; exact fk148) (T.allF_node (fun _ h => by injection h with h; subst h; exact fk276) (T.allF_nil _ _) (T.allF_nil _ _)) (T.allF_nil _ _)) (T.allF_node (fun _ h => by injection h with h; subst h; exact fk212) (T.allF_nil _ _) (T.allF_nil _ _))) (T.allF_node (fun _ h => by injection h with h; subst h; exact fk116) (T.allF_node (fun _ h => by injection h with h; subst h; exact fk180) (T.allF_nil _ _) (T.allF_nil _ _)) (T.allF_node (fun _ h => by injection h with h; subst h; exact fk244) (T.allF_nil _ _) (T.allF_nil _ _))))) (T.allF_node (fun _ h => by injection h with h; subst h; exact fk28) (T.allF_node (fun _ h => by injection h with h; subst h; exact fk44) (T.allF_node (fun _ h => by injection h with h; subst h; exact fk76) (T.allF_node (fun _ h => by injection h with h; subst h; exact fk140) (T.allF_node (fun _ h => by injection h with h; subst h; exact fk268) (T.allF_nil _ _) (T.allF_nil _ _)) (T.allF_nil _ _)) (T.allF_node (fun _ h => by injection h with h; subst h; exact fk204) (T.allF_nil _ _) (T.allF_nil _ _))) (T.allF_node (fun _ h => by injection h with h; subst h; exact fk108) (T.allF_nil _ _) (T.allF_node (fun _ h => by injection h with h; subst h; exact fk236) (T.allF_nil _ _) (T.allF_nil _ _)))) (T.allF_node (fun _ h => by injection h with h; subst h; exact fk60) (T.allF_node (fun _ h => by injection h with h; subst h; exact fk92) (T.allF_node (fun _ h => by injection h with h; subst h; exact fk156) (T.allF_node (fun _ h => by injection h with h; subst h; exact fk284) (T.allF_nil _ _) (T.allF_nil _ _)) (T.allF_nil _ _)) (T.allF_node (fun _ h => by injection h with h; subst h; exact fk220) (T.allF_nil _ _) (T.allF_nil _ _))) (T.allF_node (fun _ h => by injection h with h; subst h; exact fk124) (T.allF_node (fun _ h => by injection h with h; subst h; exact fk188) (T.allF_node (fun _ h => by injection h with h; subst h; exact fk316) (T.allF_nil _ _) (T.allF_nil _ _)) (T.allF_nil _ _)) (T.allF_nil _ _)))))) (T.allF_node (fun _ h => by injection h with h; subst h; exact fk6) (T.allF_node (fun _ h => by injection h with h; subst h; exact fk10) (T.allF_node (fun _ h => by injection h with h; subst h; exact fk18) (T.allF_node (fun _ h => by injection h with h; subst h; exact fk34) (T.allF_node (fun _ h => by injection h with h; subst h; exact fk66) (T.allF_node (fun _ h => by injection h with h; subst h; exact fk130) (T.allF_node (fun _ h => by injection h with h; subst h; exact fk258) (T.allF_nil _ _) (T.allF_nil _ _)) (T.allF_nil _ _)) (T.allF_node (fun _ h => by injection h with h; subst h; exact fk194) (T.allF_nil _ _) (T.allF_nil _ _))) (T.allF_node (fun _ h => by injection h with h; subst h; exact fk98) (T.allF_node (fun _ h => by injection h with h; subst h; exact fk162) (T.allF_nil _ _) (T.allF_nil _ _)) (T.allF_node (fun _ h => by injection h with h; subst h; exact fk226) (T.allF_nil _ _) (T.allF_nil _ _)))) (T.allF_node (fun _ h => by injection h with h; subst h; exact fk50) (T.allF_node (fun _ h => by injection h with h; subst h; exact fk82) (T.allF_node (fun _ h => by injection h with h; subst h; exact fk146) (T.allF_node (fun _ h => by injection h with h; subst h; exact fk274) (T.allF_nil _ _) (T.allF_nil _ _)) (T.allF_nil _ _)) (T.allF_node (fun _ h => by injection h with h; subst h; exact fk210) (T.allF_nil _ _) (T.allF_nil _ _))) (T.allF_node (fun _ h => by injection h with h; subst h; exact fk114) (T.allF_node (fun _ h => by injection h with h; subst h; exact fk178) (T.allF_nil _ _) (T.allF_nil _ _)) (T.allF_node (fun _ h => by injection h with h; subst h; exact fk242) (T.allF_nil _ _) (T.allF_nil _ _))))) (T.allF_node (fun _ h => by injection h with h; subst h; exact fk26) (T.allF_node (fun _ h => by injection h with h; subst h; exact fk42) (T.allF_node (fun _ h => by injection h with h; subst h; exact fk74) (T.allF_node (fun _ h => by injection h with h; subst h; exact fk138) (T.allF_node (fun _ h => by injection h with h; subst h; exact fk266) (T.allF_nil _ _) (T.allF_nil _ _)) (T.allF_nil _ _)) (T.allF_node (fun _ h => by injection h with h; subst h; exact fk202) (T.allF_nil _ _) (T.allF_nil _ _))) (T.allF_node (fun _ h => by injection h with h; subst h; exact fk106) (T.allF_node (fun _ h => by injection h with h; subst h; exact fk170) (T.allF_nil _ _) (T.allF_nil _ _)) (T.allF_node (fun _ h => by injection h with h; subst h; exact fk234) (T.allF_nil _ _) (T.allF_nil _ _)))) (T.allF_node (fun _ h => by injection h with h; subst h; exact fk58) (T.allF_node (fun _ h => by injection h with h; subst h; exact fk90) (T.allF_node (fun _ h => by injection h with h; subst h; exact fk154) (T.allF_node (fun _ h => by injection h with h; subst h; exact fk282) (T.allF_nil _ _) (T.allF_nil _ _)) (T.allF_nil _ _)) (T.allF_node (fun _ h => by injection h with h; subst h; exact fk218) (T.allF_nil _ _) (T.allF_nil _ _))) (T.allF_node (fun _ h => by injection h with h; subst h; exact fk122) (T.allF_node (fun _ h => by injection h with h; subst h; exact fk186) (T.allF_nil _ _) (T.allF_nil _ _)) (T.allF_node (fun _ h => by injection h with h; subst h; exact fk250) (T.allF_nil _ _) (T.allF_nil _ _)))))) (T.allF_node (fun _ h => by injection h with h; subst h; exact fk14) (T.allF_node (fun _ h => by injection h with h; subst h; exact fk22) (T.allF_node (fun _ h => by injection h with h; subst h; exact fk38) (T.allF_node (fun _ h => by injection h with h; subst h; exact fk70) (T.allF_node (fun _ h => by injection h with h; subst h; exact fk134) (T.allF_node (fun _ h => by injection h with h; subst h; exact fk262) (T.allF_nil _ _) (T.allF_nil _ _)) (T.allF_nil _ _)) (T.allF_node (fun _ h => by injection h with h; subst h; exact fk198) (T.allF_nil _ _) (T.allF_nil _ _))) (T.allF_node (fun _ h => by injection h with h; subst h; exact fk102) (T.allF_node (fun _ h => by injection h with h; subst h; exact fk166) (T.allF_nil _ _) (T.allF_nil _ _)) (T.allF_node (fun _ h => by injection h with h; subst h; exact fk230) (T.allF_nil _ _) (T.allF_nil _ _)))) (T.allF_node (fun _ h => by injection h with h; subst h; exact fk54) (T.allF_node (fun _ h => by injection h with h; subst h; exact fk86) (T.allF_node (fun _ h => by injection h with h; subst h; exact fk150) (T.allF_node (fun _ h => by injection h with h; subst h; exact fk278) (T.allF_nil _ _) (T.allF_nil _ _)) (T.allF_nil _ _)) (T.allF_node (fun _ h => by injection h with h; subst h; exact fk214) (T.allF_nil _ _) (T.allF_nil _ _))) (T.allF_node (fun _ h => by injection h with h; subst h; exact fk118) (T.allF_node (fun _ h => by injection h with h; subst h; exact fk182) (T.allF_nil _ _) (T.allF_nil _ _)) (T.allF_node (fun _ h => by injection h with h; subst h; exact fk246) (T.allF_nil _ _) (T.allF_nil _ _))))) (T.allF_node (fun _ h => by injection h with h; subst h; exact fk30) (T.allF_node (fun _ h => by injection h with h; subst h; exact fk46) (T.allF_node (fun _ h => by injection h with h; subst h; exact fk78) (T.allF_node (fun _ h => by injection h with h; subst h; exact fk142) (T.allF_node (fun _ h => by injection h with h; subst h; exact fk270) (T.allF_nil _ _) (T.allF_nil _ _)) (T.allF_nil _ _)) (T.allF_node (fun _ h => by injection h with h; subst h; exact fk206) (T.allF_nil _ _) (T.allF_nil _ _))) (T.allF_node (fun _ h => by injection h with h; subst h; exact fk110) (T.allF_node (fun _ h => by injection h with h; subst h; exact fk174) (T.allF_nil _ _) (T.allF_nil _ _)) (T.allF_node (fun _ h => by injection h with h; subst h; exact fk238) (T.allF_nil _ _) (T.allF_nil _ _)))) (T.allF_node (fun _ h => by injection h with h; subst h; exact fk62) (T.allF_node (fun _ h => by injection h with h; subst h; exact fk94) (T.allF_node (fun _ h => by injection h with h; subst h; exact fk158) (T.allF_nil _ _) (T.allF_nil _ _)) (T.allF_node (fun _ h => by injection h with h; subst h; exact fk222) (T.allF_nil _ _) (T.allF_nil _ _))) (T.allF_node (fun _ h => by injection h with h; subst h; exact fk126) (T.allF_node (fun _ h => by injection h with h; subst h; exact fk190) (T.allF_nil _ _) (T.allF_nil _ _)) (T.allF_nil _ _)))))))) h
theorem mixOK : Tryz.prog.follows .mixedOrders = true := by kernel_rfl
end Go.Vd

/- 'syntax.Small': all texts. -/
namespace Go.Vd
open Go.Proofs
def lowB (b : UInt8) : UInt8 := bif Nat.ble 65 b.toNat && Nat.ble b.toNat 90 then b + 32 else b
noncomputable def lowS (s : ByteArray) : ByteArray := ⟨(lmap lowB s.data.toList).toArray⟩
theorem bv_len (l : List UInt8) : (byteVals l).length = l.length := by rw [byteVals_def]; simp
theorem bv_get (l : List UInt8) (k : Nat) : (byteVals l)[k]? = (l[k]?).map fun b => .int .u8 (b.toNat : Int) := by rw [byteVals_def]; simp
def smallAt (l : List UInt8) (k : Nat) : List UInt8 := (l.take k).map lowB ++ l.drop k
theorem smallAt_len (l : List UInt8) (k : Nat) : (smallAt l k).length = l.length := by
  unfold smallAt; simp; omega
theorem smallAt_get (l : List UInt8) (k : Nat) : (smallAt l k)[k]? = l[k]? := by
  unfold smallAt
  by_cases h : k < l.length
  · rw [List.getElem?_append_right (by simp; omega), List.getElem?_drop]
    congr 1; simp; omega
  · rw [List.getElem?_eq_none (by simp; omega), List.getElem?_eq_none (by omega)]
theorem smallAt_set (l : List UInt8) (k : Nat) {b : UInt8} (hb : l[k]? = some b) : (smallAt l k).set k (lowB b) = smallAt l (k + 1) := by
  have hk : k < l.length := (List.getElem?_eq_some_iff.1 hb).1
  have hv : l[k] = b := (List.getElem?_eq_some_iff.1 hb).2
  unfold smallAt
  rw [List.set_append_right _ _ (by simp; omega), List.drop_eq_getElem_cons hk, hv, List.take_succ_eq_append_getElem hk, hv]
  have : k - (List.map lowB (List.take k l)).length = 0 := by simp; omega
  rw [this]
  simp
theorem bv_set (l : List UInt8) (k : Nat) (b : UInt8) : (byteVals l).set k (.int .u8 (b.toNat : Int)) = byteVals (l.set k b) := by
  rw [byteVals_def, byteVals_def, List.map_set]
theorem set_getSelf (l : List UInt8) (k : Nat) {b : UInt8} (hb : l[k]? = some b) : l.set k b = l := by
  have hk : k < l.length := (List.getElem?_eq_some_iff.1 hb).1
  have hv : l[k] = b := (List.getElem?_eq_some_iff.1 hb).2
  rw [← hv]; simp
theorem smallAt_same (l : List UInt8) (k : Nat) {b : UInt8} (hb : l[k]? = some b) (hl : lowB b = b) : smallAt l (k + 1) = smallAt l k := by
  rw [← smallAt_set l k hb, hl]
  exact set_getSelf _ _ (by rw [smallAt_get]; exact hb)

theorem low_add {b : UInt8} {h : Heap} (h65 : 65 ≤ b.toNat) (h90 : b.toNat ≤ 90) : rV h (some (Value.int .u8 (wrapI .u8 ((b.toNat : Int) + 32)))) = some (.val (.int .u8 ((lowB b).toNat : Int)) h) := by
  have e : lowB b = b + 32 := by unfold lowB; rw [ble_true h65, ble_true h90]; rfl
  have e2 : (b + 32).toNat = b.toNat + 32 := by
    rw [UInt8.toNat_add]
    show (b.toNat + 32) % 256 = _
    omega
  rw [e, e2]
  rw [show wrapI .u8 ((b.toNat : Int) + 32) = Int.ofNat (b.toNat + 32) from add_fits (k := .u8) (a := b.toNat) (b := 32) (by show b.toNat + 32 < 128; omega)]
  rfl

theorem small_ev {sum : Nat → Option (List Value → Heap → Option CR)} (hsum : sum 38 = none) (s : ByteArray) (hs : s.size < 1000000000) : EvQ (mkE sum) 38 [.string s] (heap0 ngN) (fun r => ∃ h', r = (.ret (.string (lowS s)) h')) := by
  refine EvQ.body hsum rfl rfl ?_
  have hsz : s.size = s.data.toList.length := by rw [Array.length_toList]; rfl
  refine WP.seq (WP.region ?_)
  refine WPO.op rfl (by simp only [evOp]; rfl) ?_
  refine WPO.nil ?_
  refine WP.seq (WP.region ?_)
  refine WPO.op rfl (by simp only [evOp, evR_tmp, St.put_some, Tm.get_set, reduceIte, Nat.reduceEqDiff]; rfl) ?_
  refine WPO.op rfl (by simp only [evOp, evR_tmp, St.put_some, Tm.get_set, reduceIte, Nat.reduceEqDiff, Option.getD_some]; rfl) ?_
  refine WPO.op rfl (by simp only [evOp, evR_tmp, St.put_some, Tm.get_set, reduceIte, Nat.reduceEqDiff, Option.getD_some]; rfl) ?_
  refine WPO.nil ?_
  refine WP.seq (WP.seq (WP.region ?_))
  refine WPO.op rfl (by simp only [evOp, evR_tmp, St.put_some, Tm.get_set, reduceIte, Nat.reduceEqDiff, Option.getD_some]; rfl) ?_
  refine WPO.op rfl (by simp only [evOp, St.put_some]; rfl) ?_
  refine WPO.op rfl (by simp only [evOp, St.put_some]; rfl) ?_
  refine WPO.nil ?_
  refine WP.block (WP.loop (fun d st => st.df = [] ∧ ∃ k g, d = s.size - k ∧ k ≤ s.size ∧ st.tm.get 10 = some (.int .i64 (.ofNat k)) ∧ st.tm.get 9 = some (.int .i64 (.ofNat s.size)) ∧ 
    st.tm.get 8 = some (slc ngN 0 s.size (2 * s.size) 1) ∧ st.tm.get 3 = some (slc ngN 0 s.size (2 * s.size) 1) ∧ st.h.t.get ngN = some (.cells (byteVals (smallAt s.data.toList k)) ⟨1, ngN, g, g, ngN, false, 0, true⟩)) s.size ?_ ?_)
  · refine ⟨rfl, 0, 0, by omega, by omega, ?_⟩
    simp only [St.put_some, Tm.get_set, reduceIte, Nat.reduceEqDiff]
    refine ⟨rfl, rfl, rfl, rfl, ?_⟩
    rw [show smallAt s.data.toList 0 = s.data.toList by unfold smallAt; simp]
    exact get_add_new _
  · rintro d ⟨tm, df, h⟩ ⟨h1, k, g, hd, hk, t10, t9, t8, t3, hh⟩
    simp only at h1 t10 t9 t8 t3 hh
    subst h1
    refine WP.seq (WP.region ?_)
    refine WPO.op rfl (by simp only [evOp, evR_tmp, Option.getD_some, t10, t9]; rfl) (WPO.nil ?_)
    simp only [St.put_some]
    rcases Nat.lt_or_ge k s.size with hlt | hge
    · have hb : ∃ b, s.data.toList[k]? = some b := ⟨_, List.getElem?_eq_getElem (by omega)⟩
      obtain ⟨b, hb⟩ := hb
      have hgb : (byteVals (smallAt s.data.toList k))[k]? = some (.int .u8 (b.toNat : Int)) := by rw [bv_get, smallAt_get, hb]; rfl
      refine WP.seq (WP.cond_true (by simp only [evR_tmp, Tm.get_set, reduceIte, Option.getD_some, ltI_true hlt]) (WP.skip ?_))
      refine WP.seq (WP.mono (Q := fun r => r.1 = .normal ∧ ∃ tm' h' g', r.2 = ⟨tm', [], h'⟩ ∧ tm'.get 10 = some (.int .i64 (.ofNat k)) ∧ tm'.get 9 = some (.int .i64 (.ofNat s.size)) ∧ tm'.get 8 = some (slc ngN 0 s.size (2 * s.size) 1) ∧ tm'.get 3 = some (slc ngN 0 s.size (2 * s.size) 1) ∧
        h'.t.get ngN = some (.cells (byteVals (smallAt s.data.toList (k + 1))) ⟨1, ngN, g', g', ngN, false, 0, true⟩)) ?_ ?_)
      rotate_left
      · rintro ⟨e, st⟩ ⟨rfl, tm', h', g', rfl, t10, t9, t8, t3, hh⟩
        refine WP.region ?_
        refine WPO.op rfl (by simp only [evOp, evR_tmp, Option.getD_some, t10]; rfl) ?_
        refine WPO.op rfl (by simp only [evOp, evR_tmp, St.put_some, Tm.get_set, reduceIte, Option.getD_some]; rfl) ?_
        refine WPO.nil ?_
        refine ⟨d - 1, by omega, rfl, k + 1, g', by omega, by omega, ?_⟩
        simp only [St.put_some, Tm.get_set, reduceIte, Nat.reduceEqDiff, t9, t8, t3, hh]
        refine ⟨?_, trivial, trivial, trivial, trivial⟩
        rw [show wrapI .i64 (Int.ofNat k + 1) = Int.ofNat (k + 1) from add_fits (by show k + 1 < 9223372036854775808; omega)]
      refine WP.block (WP.seq (WP.region ?_))
      refine WPO.op rfl (by simp only [evOp, evR_tmp, Tm.get_set, reduceIte, Nat.reduceEqDiff, Option.getD_some, t10]; rfl) ?_
      refine WPO.op rfl (op_indexAddr (ti := ty26) (te := ty5) (e := 5) (len := s.size) (c2 := 2 * s.size) (z := 1) (i := ngN) (off := 0) (kd := .i64) (k := k) rfl rfl rfl (by simp only [evR_tmp, St.put_some, Tm.get_set, reduceIte, Nat.reduceEqDiff, Option.getD_some, t8]) (by simp only [evR_tmp, St.put_some, Tm.get_set, reduceIte, Nat.reduceEqDiff, Option.getD_some, t10]) hlt) ?_
      refine WPO.op rfl (op_load (ti := ty5) (i := ngN) (off := k) (v := .int .u8 (b.toNat : Int)) rfl rfl (by simp only [evR_tmp, St.put_some, Tm.get_set, reduceIte, Nat.reduceEqDiff, Option.getD_some, ty5, Nat.zero_add, Nat.mul_one]) hh (ok_self hh rfl rfl) hgb) ?_
      refine WPO.op rfl (by simp only [evOp, evR_tmp, St.put_some, Tm.get_set, reduceIte, Nat.reduceEqDiff, Option.getD_some]; rfl) ?_
      refine WPO.op rfl (by simp only [evOp, evR_tmp, St.put_some, Tm.get_set, reduceIte, Nat.reduceEqDiff, Option.getD_some]; rfl) ?_
      refine WPO.nil ?_
      simp only [St.put_some]
      refine WP.seq (WP.region ?_)
      refine WPO.op rfl (by simp only [evOp, evR_tmp, Tm.get_set, reduceIte, Nat.reduceEqDiff, Option.getD_some]; rfl) ?_
      refine WPO.op rfl (by simp only [evOp, evR_tmp, St.put_some, Tm.get_set, reduceIte, Nat.reduceEqDiff, Option.getD_some]; rfl) ?_
      refine WPO.op rfl (by simp only [evOp, evR_tmp, St.put_some, Tm.get_set, reduceIte, Nat.reduceEqDiff, Option.getD_some]; rfl) ?_
      simp only [St.put_some]
      rcases Nat.lt_or_ge b.toNat 65 with h65 | h65
      · have e1 : ltI (b.toNat : Int) 65 = true := ltI_true h65
        refine WPO.skip (wanted_no (d := 17) rfl rfl (by simp only [Tm.get_set, reduceIte, Nat.reduceEqDiff, e1] <;> rfl)) ?_
        refine WPO.skip (wanted_no (d := 17) rfl rfl (by simp only [St.put_some, Tm.get_set, reduceIte, Nat.reduceEqDiff, e1] <;> rfl)) ?_
        refine WPO.op rfl (by simp only [evOp, evR_tmp, St.put_some, Tm.get_set, reduceIte, Nat.reduceEqDiff, Option.getD_some, e1]; rfl) (WPO.nil ?_)
        simp only [St.put_some]
        refine WP.cond_false (by simp only [evR_tmp, Tm.get_set, reduceIte, Nat.reduceEqDiff, Option.getD_some]; rfl) (WP.skip ?_)
        refine ⟨rfl, _, h, g, rfl, ?_, ?_, ?_, ?_, ?_⟩ <;> try simp only [Tm.get_set, reduceIte, Nat.reduceEqDiff, t10, t9, t8, t3]
        rw [smallAt_same _ _ hb (by unfold lowB; rw [ble_false h65]; rfl)]; exact hh
      · have e1 : ltI (b.toNat : Int) 65 = false := ltI_false h65
        refine WPO.op (wanted_yes (d := 17) rfl rfl (by simp only [Tm.get_set, reduceIte, Nat.reduceEqDiff, e1] <;> rfl)) (by simp only [evOp, evR_tmp, Tm.get_set, reduceIte, Nat.reduceEqDiff, Option.getD_some]; rfl) ?_
        refine WPO.op (wanted_yes (d := 17) rfl rfl (by simp only [St.put_some, Tm.get_set, reduceIte, Nat.reduceEqDiff, e1] <;> rfl)) (by simp only [evOp, evR_tmp, St.put_some, Tm.get_set, reduceIte, Nat.reduceEqDiff, Option.getD_some]; rfl) ?_
        refine WPO.op rfl (by simp only [evOp, evR_tmp, St.put_some, Tm.get_set, reduceIte, Nat.reduceEqDiff, Option.getD_some, e1]; rfl) (WPO.nil ?_)
        simp only [St.put_some]
        rcases Nat.lt_or_ge 90 b.toNat with h90 | h90
        · have e2 : ltI 90 (b.toNat : Int) = true := ltI_true h90
          refine WP.cond_false (by simp only [evR_tmp, Tm.get_set, reduceIte, Nat.reduceEqDiff, Option.getD_some, e2]; rfl) (WP.skip ?_)
          refine ⟨rfl, _, h, g, rfl, ?_, ?_, ?_, ?_, ?_⟩ <;> try simp only [Tm.get_set, reduceIte, Nat.reduceEqDiff, t10, t9, t8, t3]
          rw [smallAt_same _ _ hb (by unfold lowB; rw [ble_false h90]; simp)]; exact hh
        · have e2 : ltI 90 (b.toNat : Int) = false := ltI_false h90
          refine WP.cond_true (by simp only [evR_tmp, Tm.get_set, reduceIte, Nat.reduceEqDiff, Option.getD_some, e2]; rfl) (WP.region ?_)
          refine WPO.op rfl (by simp only [evOp, evR_tmp, Tm.get_set, reduceIte, Nat.reduceEqDiff]; rfl) ?_
          refine WPO.op rfl (by simp only [evOp, evR_tmp, St.put_some, Tm.get_set, reduceIte, Nat.reduceEqDiff, Option.getD_some]; rfl) ?_
          refine WPO.op rfl (by simp only [evOp, evR_tmp, St.put_some, Tm.get_set, reduceIte, Nat.reduceEqDiff, Option.getD_some]; rfl) ?_
          refine WPO.op rfl (v := .int .u8 ((lowB b).toNat : Int)) (by simp only [evOp, evR_tmp, St.put_some, Tm.get_set, reduceIte, Nat.reduceEqDiff, Option.getD_some]; exact low_add h65 h90) ?_
          refine WPO.op rfl (op_indexAddr (ti := ty26) (te := ty5) (e := 5) (len := s.size) (c2 := 2 * s.size) (z := 1) (i := ngN) (off := 0) (kd := .i64) (k := k) rfl rfl rfl (by simp only [evR_tmp, St.put_some, Tm.get_set, reduceIte, Nat.reduceEqDiff, Option.getD_some, t3]) (by simp only [evR_tmp, St.put_some, Tm.get_set, reduceIte, Nat.reduceEqDiff, Option.getD_some]) hlt) ?_
          refine WPO.op rfl (op_store (ti := ty5) (i := ngN) (off := k) (v := .int .u8 ((lowB b).toNat : Int)) rfl (by simp only [evR_tmp, St.put_some, Tm.get_set, reduceIte, Nat.reduceEqDiff, Option.getD_some, ty5, Nat.zero_add, Nat.mul_one]) (by simp only [evR_tmp, St.put_some, Tm.get_set, reduceIte, Nat.reduceEqDiff, Option.getD_some]) rfl (wr_self hh rfl rfl rfl (Nat.zero_le _) (by rw [bv_len, smallAt_len]; omega) rfl)) (WPO.nil ?_)
          simp only [St.put_some, St.put_none]
          refine ⟨rfl, _, _, g + 1, rfl, ?_, ?_, ?_, ?_, ?_⟩ <;> try simp only [Tm.get_set, reduceIte, Nat.reduceEqDiff, Option.getD_some, t10, t9, t8, t3]
          rw [T.get_set_same, bv_set, smallAt_set _ _ hb]
    · have hkn : k = s.size := by omega
      subst hkn
      refine WP.seq (WP.cond_false (by simp only [evR_tmp, Tm.get_set, reduceIte, Option.getD_some, ltI_false (Nat.le_refl _)]) (WP.exit ?_))
      have hall : smallAt s.data.toList s.size = lmap lowB s.data.toList := by
        rw [lmap_eq]; unfold smallAt; rw [hsz, List.take_length, List.drop_length]; simp
      rw [hall] at hh
      have hok := ok_self hh rfl rfl
      have hlen : s.size = (byteVals (lmap lowB s.data.toList)).length := by rw [bv_len, lmap_eq]; simp
      refine WP.seq (WP.region ?_)
      refine WPO.op rfl (by simp only [evOp, evR_tmp, Tm.get_set, reduceIte, Nat.reduceEqDiff, Option.getD_some, t3]; rfl) ?_
      refine WPO.op rfl (v := .string (lowS s)) (by
        simp only [evOp, evR_tmp, St.put_some, Tm.get_set, reduceIte, Nat.reduceEqDiff, Option.getD_some]
        show rVH (rBytes h (h.rd ngN 0 s.size)) = _
        rw [rd_all hh hok hlen]
        simp only [rBytes, bytesOf_byteVals] <;> rfl) ?_
      refine WPO.op rfl (by simp only [evOp, evR_tmp, St.put_some, Tm.get_set, reduceIte, Nat.reduceEqDiff, Option.getD_some]; rfl) ?_
      refine WPO.nil ?_
      refine WP.ret ?_
      exact ⟨.inr rfl, rfl, _, rfl, _, rfl⟩
end Go.Vd
