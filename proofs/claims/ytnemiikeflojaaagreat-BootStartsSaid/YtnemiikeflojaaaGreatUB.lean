/- texts of the proof, one behind the other -/
import Derived.Test.YtnemiikeflojaaaGreatUA
set_option linter.unusedSimpArgs false
set_option linter.unusedSectionVars false
set_option linter.unusedVariables false
set_option maxRecDepth 100000
namespace J
open Go Go.Ab
noncomputable section
noncomputable abbrev zjq:Code:=zOa P zVi 0
def zkq(l:List Value)(H:Heap)(N:LN)(Qx:LX)(Qr:LN):Prop:=
opP ((zsa P .lss 3 false).f (nth l 9) (nth l 7)) fun t51=>
wIf t51 (
opP ((zsa P .rem 3 true).f (nth l 9) (.int .i64 64)) fun t55=>
opP ((zsa P .neq 3 true).f t55 (.int .i64 63)) fun t56=>
wIf t56 (
opP (zWa 1 (nth l 0) (nth l 9)) fun t60=>
opW (zba t60 H) fun t61 H5=>
opW ((zpa P 32 1).f [(0,t61)] H5) fun t62 H7=>
opW (zva 1 1 (nth l 8) t62 H7) fun t63 H9=>
opP ((zsa P .add 3 true).f (nth l 9) (.int .i64 1)) fun t53=>
N [(nth l 0),(nth l 1),(nth l 2),(nth l 3),(nth l 4),(nth l 5),(nth l 6),(nth l 7),t63,t53] H9) (
opP ((zsa P .add 3 true).f (nth l 9) (.int .i64 1)) fun t53_1=>
N [(nth l 0),(nth l 1),(nth l 2),(nth l 3),(nth l 4),(nth l 5),(nth l 6),(nth l 7),(nth l 8),t53_1] H)) (
Qx 0 [(nth l 0),(nth l 1),(nth l 2),(nth l 3),(nth l 4),(nth l 5),(nth l 6),(nth l 7),(nth l 8)] H)
theorem zar:LpI P 88 zjq 1981 zkq:=.mk (by kernel_rfl) fun l H N Qx Qr=>by kernel_rfl
def zzz(t0:Value)(H:Heap)(K:VH):Prop:=
zab (fun J=>
opW (lenSl t0 H) fun t14 H2=>
opP ((zsa P .lss 3 true).f t14 (.int .i64 64)) fun t15=>
wIf t15 (
opP (zra t15 (.bool true) undef) fun t21=>
opP (zra t21 (.bool true) undef) fun t27=>
J [t0,(.int .u8 0),(.int .u64 0),(.slice none 0 0),(.int .i64 0),t27] H2) (
opP (zWa 1 t0 (.int .i64 0)) fun t18=>
opW (zba t18 H2) fun t19 H8=>
opP ((zsa P .neq 5 true).f t19 (.int .u8 66)) fun t20=>
opP (zra t15 (.bool true) t20) fun t21_1=>
wIf t21_1 (
opP (zra t21_1 (.bool true) undef) fun t27_1=>
J [t0,(.int .u8 0),(.int .u64 0),(.slice none 0 0),(.int .i64 0),t27_1] H8) (
opP (zWa 1 t0 (.int .i64 1)) fun t24=>
opW (zba t24 H8) fun t25 H14=>
opP ((zsa P .neq 5 true).f t25 (.int .u8 74)) fun t26=>
opP (zra t21_1 (.bool true) t26) fun t27_2=>
J [t0,(.int .u8 0),(.int .u64 0),(.slice none 0 0),(.int .i64 0),t27_2] H14))) (fun l H18=>
wIf (nth l 5) (
K (.tuple [(.int .u8 0),(.int .u64 0),(.slice none 0 0),(.int .i64 0)].toArray) H18) (
opP (zLa 1 (nth l 0) (some (.int .i64 3)) (some (.int .i64 13)) none) fun t29=>
opP ((zAa P 151).f [(0,t29)]) fun t30=>
zlb (zFa t30) H18 fun t31 H22=>
wCall P zbb [t31,(.int .i64 8)] H22 fun t33 H24=>
wCall P zbb [t31,(.int .i64 2)] H24 fun t35 H26=>
opW (zob .i64 t35 H26) fun t36 H28=>
wCall P zme [t36] H28 fun t38 H30=>
opP ((zsa P .mul 3 true).f (.int .i64 64) t38) fun t39=>
zab (fun J_1=>
opP ((zsa P .eql 3 true).f t39 (.int .i64 0)) fun t41=>
wIf t41 (
opP (zra t41 (.bool true) undef) fun t47=>
J_1 [(nth l 0),(nth l 1),(nth l 2),(nth l 3),(nth l 4),t33,t36,t39,t47] H30) (
opW (lenSl (nth l 0) H30) fun t45 H36=>
opP ((zsa P .gtr 3 false).f t39 t45) fun t46=>
opP (zra t41 (.bool true) t46) fun t47_1=>
J_1 [(nth l 0),(nth l 1),(nth l 2),(nth l 3),(nth l 4),t33,t36,t39,t47_1] H36)) (fun l_1 H40=>
wIf (nth l_1 8) (
K (.tuple [(.int .u8 0),(.int .u64 0),(.slice none 0 0),(.int .i64 0)].toArray) H40) (
opW ((zpa P 32 0).f [] H40) fun t48 H42=>
zdb P true 88 zjq 1981 [(nth l_1 0),(nth l_1 1),(nth l_1 2),(nth l_1 3),(nth l_1 4),(nth l_1 5),(nth l_1 6),(nth l_1 7),t48,(.int .i64 0)] H42 (fun id l_2 H44=>
cond (Nat.beq id 0) (
opP ((zsa P .add 3 true).f (.int .i64 13) (nth l_2 6)) fun t66=>
opP (zLa 1 (nth l_2 8) (some (.int .i64 13)) (some t66) none) fun t67=>
opP (zWa 1 (nth l_2 0) (.int .i64 2)) fun t69=>
opW (zba t69 H44) fun t70 H49=>
wCall P zPe [t70,(nth l_2 5),t67] H49 fun t73 H51=>
opW (zzb t73 H51) fun t74 H53=>
opP (zLa 1 (nth l_2 0) none (some (nth l_2 7)) none) fun t77=>
opW (zzb t77 H53) fun t78 H56=>
zrc (zjc H49 H51) (zNa [t77])∧(opP ((zsa P .neq 9 false).f t74 t78) fun t79=>
wIf t79 (
K (.tuple [(.int .u8 0),(.int .u64 0),(.slice none 0 0),(.int .i64 0)].toArray) H56) (
opP (zWa 1 (nth l_2 0) (.int .i64 2)) fun t81=>
opW (zba t81 H56) fun t82 H60=>
opW ((zpa P 32 0).f [] H60) fun t84 H62=>
opW (zva 1 1 t84 t67 H62) fun t86 H64=>
zOf (zNa [t81]) (zNa [t84,t67])∧(K (.tuple [t82,(nth l_2 5),t86,(nth l_2 7)].toArray) H64)))) (
False)) (fun l_2 H44=>
K (.tuple [(nth l_2 1),(nth l_2 2),(nth l_2 3),(nth l_2 4)].toArray) H44)))))
theorem zAz{t0:Value}{H:Heap}{K:VH}(h:zzz t0 H K):wCall P zVi [t0] H K:=zea rfl (Eq.mpr (by kernel_rfl) h)
def zBz(t0 t1:Value)(H:Heap)(K:VH):Prop:=
zab (fun J=>
opP ((zsa P .lss 3 true).f t1 (.int .i64 0)) fun t7=>
wIf t7 (
J [t0,(.int .i64 0)] H) (
J [t0,t1] H)) (fun l H3=>
zab (fun J_1=>
zab (fun J_2=>
opP (zda (nth l 0)) fun t9=>
opP (zca 1 t9) fun t10=>
opW (zba t10 H3) fun t11 H9=>
opP ((zsa P .eql 3 true).f t11 (.int .i64 0)) fun t12=>
wIf t12 (
opP (zda (nth l 0)) fun t16=>
opP (zca 0 t16) fun t17=>
opW (zba t17 H9) fun t18 H14=>
opW (lenSl t18 H14) fun t19 H16=>
opP ((zsa P .gtr 3 false).f (nth l 1) t19) fun t20=>
opP (zra t12 t20 (.bool false)) fun t21=>
J_2 [(nth l 0),(nth l 1),t21] H16) (
opP (zra t12 undef (.bool false)) fun t21_1=>
J_2 [(nth l 0),(nth l 1),t21_1] H9)) (fun l_1 H21=>
wIf (nth l_1 2) (
opP (zda (nth l_1 0)) fun t23=>
opP (zca 1 t23) fun t24=>
opW (zka 1 t24 (.int .i64 51) H21) fun u H25=>
J_1 [(nth l_1 0),(nth l_1 1)] H25) (
J_1 [(nth l_1 0),(nth l_1 1)] H21))) (fun l_2 H27=>
opP (zda (nth l_2 0)) fun t26=>
opP (zca 1 t26) fun t27=>
opW (zba t27 H27) fun t28 H31=>
opP ((zsa P .neq 3 true).f t28 (.int .i64 0)) fun t29=>
wIf t29 (
opP (zda (nth l_2 0)) fun t31=>
opP (zca 0 t31) fun t32=>
opW (zka 1 t32 (.slice none 0 0) H31) fun u_1 H36=>
K (.slice none 0 0) H36) (
opW ((zpa P 32 0).f [] H31) fun t33 H38=>
opP (zda (nth l_2 0)) fun t35=>
opP (zca 0 t35) fun t36=>
opW (zba t36 H38) fun t37 H42=>
opP (zLa 1 t37 none (some (nth l_2 1)) none) fun t39=>
opW (zva 1 1 t33 t39 H42) fun t40 H45=>
opP (zda (nth l_2 0)) fun t43=>
opP (zca 0 t43) fun t44=>
opW (zba t44 H45) fun t45 H49=>
opP (zLa 1 t45 (some (nth l_2 1)) none none) fun t47=>
opP (zda (nth l_2 0)) fun t48=>
opP (zca 0 t48) fun t49=>
opW (zka 1 t49 t47 H49) fun u_2 H54=>
K t40 H54)))
theorem zCz{t0 t1:Value}{H:Heap}{K:VH}(h:zBz t0 t1 H K):wCall P zWi [t0,t1] H K:=zea rfl (Eq.mpr (by kernel_rfl) h)
def zQv(t0:Value)(H:Heap)(K:VH):Prop:=
opP ((zsa P .lss 3 true).f t0 (.int .i64 0)) fun t4=>
wIf t4 (
K (.int .i64 0) H) (
opP ((zsa P .gtr 3 true).f t0 (.int .i64 8)) fun t6=>
wIf t6 (
K (.int .i64 8) H) (
K t0 H))
theorem zlx{t0:Value}{H:Heap}{K:VH}(h:zQv t0 H K):wCall P zsh [t0] H K:=zea rfl (Eq.mpr (by kernel_rfl) h)
def zht(t0:Value)(H:Heap)(K:VH):Prop:=
zlb (zFa t0) H fun t1 H1=>
opW ((zpa P 32 0).f [] H1) fun t4 H3=>
opW (zna 36 t1 H3) fun t5 H5=>
wCall P zHb [t5] H5 fun t6 H7=>
opP (unA .not t6) fun t7=>
wIf t7 (
K t4 H7) (
opP (zca 0 t1) fun t10=>
opW (zba t10 H7) fun t11 H11=>
opW (zob .u8 t11 H11) fun t12 H13=>
opP (zca 1 t1) fun t13=>
opW (zba t13 H13) fun t14 H16=>
opW (zob .u8 t14 H16) fun t15 H18=>
opW ((zpa P 32 2).f [(0,t12),(1,t15)] H18) fun t16 H20=>
opW (zva 1 1 t4 t16 H20) fun t17 H22=>
opP (zca 2 t1) fun t19=>
opW (zba t19 H22) fun t20 H25=>
wCall P zJb [t20,(.int .i64 8)] H25 fun t21 H27=>
opW (zva 1 1 t17 t21 H27) fun t22 H29=>
opP (zca 3 t1) fun t24=>
opW (zba t24 H29) fun t25 H32=>
opW (zob .u64 t25 H32) fun t26 H34=>
wCall P zJb [t26,(.int .i64 4)] H34 fun t27 H36=>
opW (zva 1 1 t22 t27 H36) fun t28 H38=>
opP (zca 4 t1) fun t30=>
opP (zmc 32 1 t30 none none none H38) fun t31=>
opW (zva 1 1 t28 t31 H38) fun t32 H42=>
K t32 H42)
theorem zIu{t0:Value}{H:Heap}{K:VH}(h:zht t0 H K):wCall P zLe [t0] H K:=zea rfl (Eq.mpr (by kernel_rfl) h)
noncomputable abbrev zVl:Code:=zOa P zJb 0
def zWl(l:List Value)(H:Heap)(N:LN)(Qx:LX)(Qr:LN):Prop:=
wCall P zsh [(nth l 1)] H fun t10 H1=>
opP ((zsa P .lss 3 false).f (nth l 4) t10) fun t11=>
wIf t11 (
opP ((zsa P .rem 23 true).f (nth l 0) (.int .u64 256)) fun t16=>
opW (zob .u8 t16 H1) fun t17 H5=>
opW ((zpa P 32 1).f [(0,t17)] H5) fun t18 H7=>
opW (zva 1 1 (nth l 3) t18 H7) fun t19 H9=>
opP ((zsa P .quo 23 true).f (nth l 0) (.int .u64 256)) fun t21=>
opP ((zsa P .add 3 true).f (nth l 4) (.int .i64 1)) fun t13=>
N [t21,(nth l 1),(nth l 2),t19,t13] H9) (
Qx 0 [(nth l 2),(nth l 3)] H1)
theorem zNn:LpI P 23 zVl 48 zWl:=.mk (by kernel_rfl) fun l H N Qx Qr=>by kernel_rfl
def zit(t0 t1:Value)(H:Heap)(K:VH):Prop:=
opW ((zpa P 32 0).f [] H) fun t7 H1=>
zdb P true 23 zVl 48 [t0,t1,(.slice none 0 0),t7,(.int .i64 0)] H1 (fun id l H3=>
cond (Nat.beq id 0) (
K (nth l 1) H3) (
False)) (fun l H3=>
K (nth l 0) H3)
theorem zJu{t0 t1:Value}{H:Heap}{K:VH}(h:zit t0 t1 H K):wCall P zJb [t0,t1] H K:=zea rfl (Eq.mpr (by kernel_rfl) h)
def zDz(t0:Value)(H:Heap)(K:VH):Prop:=
zlb (zFa t0) H fun t1 H1=>
opP (zca 0 t1) fun t3=>
opW (zba t3 H1) fun t4 H4=>
opP ((zsa P .eql 3 true).f t4 (.int .i64 1)) fun t6=>
wIf t6 (
opP (zca 2 t1) fun t7=>
opW (zba t7 H4) fun t8 H8=>
opP ((zsa P .eql 3 true).f t8 (.int .i64 0)) fun t9=>
wIf t9 (
opP (zca 39 t1) fun t11=>
opW (zba t11 H8) fun t12 H12=>
opP ((zsa P .eql 23 true).f t12 (.int .u64 0)) fun t13=>
opP (zra t9 t13 (.bool false)) fun t14=>
wIf t14 (
opP (zca 1 t1) fun t16=>
opW (zba t16 H12) fun t17 H17=>
opP ((zsa P .geq 3 true).f t17 (.int .i64 0)) fun t18=>
opP (zra t14 t18 (.bool false)) fun t19=>
wIf t19 (
opP (zca 1 t1) fun t21=>
opW (zba t21 H17) fun t22 H22=>
opP ((zsa P .leq 3 true).f t22 (.int .i64 1)) fun t23=>
opP (zra t19 t23 (.bool false)) fun t24=>
wIf t24 (
opP (zca 3 t1) fun t26=>
opW (zna 36 t26 H22) fun t27 H27=>
wCall P zHb [t27] H27 fun t28 H29=>
opP (zra t24 t28 (.bool false)) fun t29=>
K t29 H29) (
opP (zra t24 undef (.bool false)) fun t29_1=>
K t29_1 H22)) (
opP (zra t19 undef (.bool false)) fun t24_1=>
opP (zra t24_1 undef (.bool false)) fun t29_2=>
K t29_2 H17)) (
opP (zra t14 undef (.bool false)) fun t19_1=>
opP (zra t19_1 undef (.bool false)) fun t24_2=>
opP (zra t24_2 undef (.bool false)) fun t29_3=>
K t29_3 H12)) (
opP (zra t9 undef (.bool false)) fun t14_1=>
opP (zra t14_1 undef (.bool false)) fun t19_2=>
opP (zra t19_2 undef (.bool false)) fun t24_3=>
opP (zra t24_3 undef (.bool false)) fun t29_4=>
K t29_4 H8)) (
opP ((zsa P .eql 3 true).f t4 (.int .i64 2)) fun t31=>
wIf t31 (
opP (zca 1 t1) fun t32=>
opW (zba t32 H4) fun t33 H44=>
opP ((zsa P .eql 3 true).f t33 (.int .i64 0)) fun t34=>
wIf t34 (
opP (zca 39 t1) fun t36=>
opW (zba t36 H44) fun t37 H48=>
opP ((zsa P .eql 23 true).f t37 (.int .u64 0)) fun t38=>
opP (zra t34 t38 (.bool false)) fun t39=>
wIf t39 (
opP (zca 3 t1) fun t41=>
opW (zna 36 t41 H48) fun t42 H53=>
opP ((zAa P 27).f []) fun t43=>
opP ((zsa P .eql 27 false).f t42 t43) fun t44=>
opP (zra t39 t44 (.bool false)) fun t45=>
wIf t45 (
opP (zca 2 t1) fun t47=>
opW (zba t47 H53) fun t48 H59=>
opP ((zsa P .geq 3 true).f t48 (.int .i64 0)) fun t49=>
opP (zra t45 t49 (.bool false)) fun t50=>
wIf t50 (
opP (zca 2 t1) fun t52=>
opW (zba t52 H59) fun t53 H64=>
opP ((zsa P .leq 3 true).f t53 (.int .i64 1)) fun t54=>
opP (zra t50 t54 (.bool false)) fun t55=>
K t55 H64) (
opP (zra t50 undef (.bool false)) fun t55_1=>
K t55_1 H59)) (
opP (zra t45 undef (.bool false)) fun t50_1=>
opP (zra t50_1 undef (.bool false)) fun t55_2=>
K t55_2 H53)) (
opP (zra t39 undef (.bool false)) fun t45_1=>
opP (zra t45_1 undef (.bool false)) fun t50_2=>
opP (zra t50_2 undef (.bool false)) fun t55_3=>
K t55_3 H48)) (
opP (zra t34 undef (.bool false)) fun t39_1=>
opP (zra t39_1 undef (.bool false)) fun t45_2=>
opP (zra t45_2 undef (.bool false)) fun t50_3=>
opP (zra t50_3 undef (.bool false)) fun t55_4=>
K t55_4 H44)) (
opP ((zsa P .eql 3 true).f t4 (.int .i64 3)) fun t57=>
wIf t57 (
opP (zca 1 t1) fun t58=>
opW (zba t58 H4) fun t59 H80=>
opP ((zsa P .eql 3 true).f t59 (.int .i64 0)) fun t60=>
wIf t60 (
opP (zca 39 t1) fun t62=>
opW (zba t62 H80) fun t63 H84=>
opP ((zsa P .eql 23 true).f t63 (.int .u64 0)) fun t64=>
opP (zra t60 t64 (.bool false)) fun t65=>
wIf t65 (
opP (zca 3 t1) fun t67=>
opW (zna 36 t67 H84) fun t68 H89=>
opP ((zAa P 27).f []) fun t69=>
opP ((zsa P .eql 27 false).f t68 t69) fun t70=>
opP (zra t65 t70 (.bool false)) fun t71=>
wIf t71 (
opP (zca 2 t1) fun t73=>
opW (zba t73 H89) fun t74 H95=>
opP ((zsa P .geq 3 true).f t74 (.int .i64 (-1))) fun t75=>
opP (zra t71 t75 (.bool false)) fun t76=>
wIf t76 (
opP (zca 2 t1) fun t78=>
opW (zba t78 H95) fun t79 H100=>
opP ((zsa P .leq 3 true).f t79 (.int .i64 1)) fun t80=>
opP (zra t76 t80 (.bool false)) fun t81=>
K t81 H100) (
opP (zra t76 undef (.bool false)) fun t81_1=>
K t81_1 H95)) (
opP (zra t71 undef (.bool false)) fun t76_1=>
opP (zra t76_1 undef (.bool false)) fun t81_2=>
K t81_2 H89)) (
opP (zra t65 undef (.bool false)) fun t71_1=>
opP (zra t71_1 undef (.bool false)) fun t76_2=>
opP (zra t76_2 undef (.bool false)) fun t81_3=>
K t81_3 H84)) (
opP (zra t60 undef (.bool false)) fun t65_1=>
opP (zra t65_1 undef (.bool false)) fun t71_2=>
opP (zra t71_2 undef (.bool false)) fun t76_3=>
opP (zra t76_3 undef (.bool false)) fun t81_4=>
K t81_4 H80)) (
opP ((zsa P .eql 3 true).f t4 (.int .i64 4)) fun t83=>
wIf t83 (
opP (zca 1 t1) fun t84=>
opW (zba t84 H4) fun t85 H116=>
opP ((zsa P .eql 3 true).f t85 (.int .i64 0)) fun t86=>
wIf t86 (
opP (zca 2 t1) fun t88=>
opW (zba t88 H116) fun t89 H120=>
opP ((zsa P .eql 3 true).f t89 (.int .i64 0)) fun t90=>
opP (zra t86 t90 (.bool false)) fun t91=>
wIf t91 (
opP (zca 3 t1) fun t93=>
opW (zna 36 t93 H120) fun t94 H125=>
opP ((zAa P 27).f []) fun t95=>
opP ((zsa P .eql 27 false).f t94 t95) fun t96=>
opP (zra t91 t96 (.bool false)) fun t97=>
wIf t97 (
opP (zca 39 t1) fun t99=>
opW (zba t99 H125) fun t100 H131=>
opP ((zsa P .leq 23 true).f t100 (.int .u64 281474976710656)) fun t101=>
opP (zra t97 t101 (.bool false)) fun t102=>
K t102 H131) (
opP (zra t97 undef (.bool false)) fun t102_1=>
K t102_1 H125)) (
opP (zra t91 undef (.bool false)) fun t97_1=>
opP (zra t97_1 undef (.bool false)) fun t102_2=>
K t102_2 H120)) (
opP (zra t86 undef (.bool false)) fun t91_1=>
opP (zra t91_1 undef (.bool false)) fun t97_2=>
opP (zra t97_2 undef (.bool false)) fun t102_3=>
K t102_3 H116)) (
K (.bool false) H4))))
theorem zEz{t0:Value}{H:Heap}{K:VH}(h:zDz t0 H K):wCall P zDm [t0] H K:=zea rfl (Eq.mpr (by kernel_rfl) h)
def zSf(t0:Value)(H:Heap)(K:VH):Prop:=
opP (zda t0) fun t4=>
opP (zca 6 t4) fun t5=>
opW (zba t5 H) fun t6 H3=>
K t6 H3
theorem zki{t0:Value}{H:Heap}{K:VH}(h:zSf t0 H K):wCall P zOc [t0] H K:=zea rfl (Eq.mpr (by kernel_rfl) h)
def zif(t0 t1:Value)(H:Heap)(K:VH):Prop:=
opP (zda t0) fun t8=>
opP (zca 6 t8) fun t9=>
opW (zba t9 H) fun t10 H3=>
opP (unA .not t10) fun t11=>
wIf t11 (
K (.int .i64 91) H3) (
opP (zda t0) fun t13=>
opP (zca 4 t13) fun t14=>
opW (zba t14 H3) fun t15 H8=>
opP ((zsa P .add 23 true).f t15 (.int .u64 1)) fun t16=>
wCall P zyf [(.int .u8 2),t16,t1] H8 fun t18 H11=>
zab (fun J=>
opW (lenSl t18 H11) fun t20 H14=>
opP ((zsa P .eql 3 true).f t20 (.int .i64 0)) fun t21=>
wIf t21 (
opP (zra t21 (.bool true) undef) fun t28=>
opP (zra t28 (.bool true) undef) fun t35=>
wIf t35 (
K (.int .i64 92) H14) (
J [t0,t18] H14)) (
opW (lenSl t18 H14) fun t24 H19=>
wCall P zed [t0] H19 fun t26 H21=>
opP ((zsa P .gtr 3 false).f t24 t26) fun t27=>
opP (zra t21 (.bool true) t27) fun t28_1=>
wIf t28_1 (
opP (zra t28_1 (.bool true) undef) fun t35_1=>
wIf t35_1 (
K (.int .i64 92) H21) (
J [t0,t18] H21)) (
opP (zda t0) fun t31=>
opP (zca 4 t31) fun t32=>
opW (zba t32 H21) fun t33 H28=>
opP ((zsa P .geq 23 true).f t33 (.int .u64 4611686018427387904)) fun t34=>
opP (zra t28_1 (.bool true) t34) fun t35_2=>
wIf t35_2 (
K (.int .i64 92) H28) (
J [t0,t18] H28)))) (fun l H32=>
opP (zda (nth l 0)) fun t39=>
opP (zca 3 t39) fun t40=>
opW (zba t40 H32) fun t41 H36=>
opP (zda (nth l 0)) fun t42=>
opP (zca 1 t42) fun t43=>
opP (zJa 2 1 t43 t41) fun t44=>
opW (zba t44 H36) fun t45 H41=>
opP (zda (nth l 0)) fun t47=>
opP (zca 5 t47) fun t48=>
opW (zba t48 H41) fun t49 H45=>
wCall P zyb [(nth l 0),t45,t49,(nth l 1)] H45 fun t51 H47=>
opP ((zsa P .neq 38 true).f t51 (.int .i64 0)) fun t53=>
wIf t53 (
opP (zda (nth l 0)) fun t55=>
opP (zca 6 t55) fun t56=>
opW (zka 1 t56 (.bool false) H47) fun u H52=>
K t51 H52) (
opP (zda (nth l 0)) fun t61=>
opP (zca 4 t61) fun t62=>
opW (zba t62 H47) fun t63 H56=>
opP ((zsa P .add 23 true).f t63 (.int .u64 1)) fun t64=>
opP (zda (nth l 0)) fun t66=>
opP (zca 5 t66) fun t67=>
opW (zba t67 H56) fun t68 H61=>
opW (lenSl (nth l 1) H61) fun t70 H63=>
opP ((zsa P .add 3 false).f t68 t70) fun t71=>
opP (zda (nth l 0)) fun t72=>
opP (zca 4 t72) fun t73=>
opW (zka 1 t73 t64 H63) fun u_1 H68=>
opP (zda (nth l 0)) fun t74=>
opP (zca 5 t74) fun t75=>
opW (zka 1 t75 t71 H68) fun u_2 H72=>
K (.int .i64 0) H72)))
theorem zNh{t0 t1:Value}{H:Heap}{K:VH}(h:zif t0 t1 H K):wCall P zAc [t0,t1] H K:=zea rfl (Eq.mpr (by kernel_rfl) h)
noncomputable abbrev zlq:Code:=zOa P zXi 0
def zmq(l:List Value)(H:Heap)(N:LN)(Qx:LX)(Qr:LN):Prop:=
opP ((zsa P .lss 3 false).f (nth l 4) (nth l 3)) fun t16=>
wIf t16 (
opP (zWa 40 (nth l 2) (nth l 4)) fun t17=>
opW (zna 40 t17 H) fun t18 H3=>
zlb (zc P 81) H3 fun t5 H5=>
opW (zka 40 t5 t18 H5) fun u H7=>
opP (zca 0 t5) fun t20=>
opW (zba t20 H7) fun t21 H10=>
opW (zob .u64 t21 H10) fun t22 H12=>
wCall P zUa [(nth l 1),t22,(.int .i64 1)] H12 fun t23 H14=>
opP (zca 0 t5) fun t24=>
opW (zba t24 H14) fun t25 H17=>
opP ((zsa P .eql 3 true).f t25 (.int .i64 1)) fun t27=>
wIf t27 (
opP (zca 1 t5) fun t29=>
opW (zba t29 H17) fun t30 H21=>
opW (zob .u64 t30 H21) fun t31 H23=>
wCall P zUa [t23,t31,(.int .i64 1)] H23 fun t32 H25=>
opP (zca 3 t5) fun t33=>
opW (zna 36 t33 H25) fun t34 H28=>
zrc (zjc H23 H25) (zNa [t33])∧(wCall P zQf [t34] H28 fun t35 H30=>
opW ((zpa P 104 1).f [(0,t35)] H30) fun t36 H32=>
wCall P zzf [t32,t36] H32 fun t37 H34=>
opP ((zsa P .add 3 true).f (nth l 4) (.int .i64 1)) fun t59=>
N [(nth l 0),t37,(nth l 2),(nth l 3),t59] H34)) (
opP ((zsa P .eql 3 true).f t25 (.int .i64 2)) fun t39=>
wIf t39 (
opP (zca 2 t5) fun t41=>
opW (zba t41 H17) fun t42 H39=>
opW (zob .u64 t42 H39) fun t43 H41=>
wCall P zUa [t23,t43,(.int .i64 1)] H41 fun t44 H43=>
opP ((zsa P .add 3 true).f (nth l 4) (.int .i64 1)) fun t59_1=>
N [(nth l 0),t44,(nth l 2),(nth l 3),t59_1] H43) (
opP ((zsa P .eql 3 true).f t25 (.int .i64 3)) fun t46=>
wIf t46 (
opP (zca 2 t5) fun t48=>
opW (zba t48 H17) fun t49 H48=>
opP ((zsa P .sub 3 true).f t49 (.int .i64 (-1))) fun t50=>
opW (zob .u64 t50 H48) fun t51 H51=>
wCall P zUa [t23,t51,(.int .i64 1)] H51 fun t52 H53=>
opP ((zsa P .add 3 true).f (nth l 4) (.int .i64 1)) fun t59_2=>
N [(nth l 0),t52,(nth l 2),(nth l 3),t59_2] H53) (
opP ((zsa P .eql 3 true).f t25 (.int .i64 4)) fun t54=>
wIf t54 (
opP (zca 39 t5) fun t56=>
opW (zba t56 H17) fun t57 H58=>
wCall P zUa [t23,t57,(.int .i64 8)] H58 fun t58 H60=>
opP ((zsa P .add 3 true).f (nth l 4) (.int .i64 1)) fun t59_3=>
N [(nth l 0),t58,(nth l 2),(nth l 3),t59_3] H60) (
opP ((zsa P .add 3 true).f (nth l 4) (.int .i64 1)) fun t59_4=>
N [(nth l 0),t23,(nth l 2),(nth l 3),t59_4] H17))))) (
Qx 0 [(nth l 0),(nth l 1)] H)
theorem zbr:LpI P 61 zlq 12 zmq:=.mk (by kernel_rfl) fun l H N Qx Qr=>by kernel_rfl
def zFz(t0:Value)(H:Heap)(K:VH):Prop:=
wCall P zbc [t0] H fun t7 H1=>
opP (unA .not t7) fun t8=>
wIf t8 (
K (.slice none 0 0) H1) (
opW (lenSl t0 H1) fun t10 H4=>
opW (zob .u64 t10 H4) fun t11 H6=>
wCall P zUa [(.slice none 0 0),t11,(.int .i64 1)] H6 fun t12 H8=>
opW (lenSl t0 H8) fun t14 H10=>
zdb P true 61 zlq 12 [(.slice none 0 0),t12,t0,t14,(.int .i64 0)] H10 (fun id l H12=>
cond (Nat.beq id 0) (
K (nth l 1) H12) (
False)) (fun l H12=>
K (nth l 0) H12))
theorem zGz{t0:Value}{H:Heap}{K:VH}(h:zFz t0 H K):wCall P zXi [t0] H K:=zea rfl (Eq.mpr (by kernel_rfl) h)
def zTf(t0 t1:Value)(H:Heap)(K:VH):Prop:=
zab (fun J=>
opW (lenSl t1 H) fun t13 H2=>
wCall P zfd [t0,t13] H2 fun t14 H4=>
opP (unA .not t14) fun t15=>
wIf t15 (
opP (zra t15 (.bool true) undef) fun t22=>
wIf t22 (
K (.int .i64 92) H4) (
J [t0,t1] H4)) (
opP (zda t0) fun t18=>
opP (zca 4 t18) fun t19=>
opW (zba t19 H4) fun t20 H10=>
opP ((zsa P .geq 23 true).f t20 (.int .u64 4611686018427387904)) fun t21=>
opP (zra t15 (.bool true) t21) fun t22_1=>
wIf t22_1 (
K (.int .i64 92) H10) (
J [t0,t1] H10))) (fun l H14=>
opP (zda (nth l 0)) fun t24=>
opP (zca 6 t24) fun t25=>
opW (zka 1 t25 (.bool false) H14) fun u H18=>
opP (zda (nth l 0)) fun t27=>
opP (zca 3 t27) fun t28=>
opW (zba t28 H18) fun t29 H22=>
opP ((zsa P .sub 3 true).f (.int .i64 1) t29) fun t30=>
opP (zda (nth l 0)) fun t33=>
opP (zca 1 t33) fun t34=>
opP (zJa 2 1 t34 t30) fun t35=>
opW (zba t35 H22) fun t36 H28=>
opP (zda (nth l 0)) fun t38=>
opP (zca 0 t38) fun t39=>
opW (zba t39 H28) fun t40 H32=>
wCall P zQe [t40,t36] H32 fun t42 H34=>
opP ((zsa P .neq 38 true).f t42 (.int .i64 0)) fun t44=>
wIf t44 (
K t42 H34) (
opP (zda (nth l 0)) fun t47=>
opP (zca 0 t47) fun t48=>
opW (zba t48 H34) fun t49 H39=>
wCall P zRe [t49] H39 fun t50 H41=>
opP ((zsa P .neq 38 true).f t50 (.int .i64 0)) fun t52=>
wIf t52 (
K t50 H41) (
opP (zda (nth l 0)) fun t55=>
opP (zca 4 t55) fun t56=>
opW (zba t56 H41) fun t57 H46=>
opP ((zsa P .add 23 true).f t57 (.int .u64 1)) fun t58=>
wCall P zyf [(.int .u8 1),t58,(nth l 1)] H46 fun t60 H49=>
wCall P zyb [(nth l 0),t36,(.int .i64 0),t60] H49 fun t64 H51=>
opP ((zsa P .neq 38 true).f t64 (.int .i64 0)) fun t66=>
wIf t66 (
K t64 H51) (
opP (zda (nth l 0)) fun t74=>
opP (zca 4 t74) fun t75=>
opW (zba t75 H51) fun t76 H56=>
opP ((zsa P .add 23 true).f t76 (.int .u64 1)) fun t77=>
opW (lenSl t60 H56) fun t79 H59=>
opP (zda (nth l 0)) fun t80=>
opP (zca 3 t80) fun t81=>
opW (zka 1 t81 t30 H59) fun u_1 H63=>
opP (zda (nth l 0)) fun t82=>
opP (zca 4 t82) fun t83=>
opW (zka 1 t83 t77 H63) fun u_2 H67=>
opP (zda (nth l 0)) fun t84=>
opP (zca 5 t84) fun t85=>
opW (zka 1 t85 t79 H67) fun u_3 H71=>
opP (zda (nth l 0)) fun t86=>
opP (zca 6 t86) fun t87=>
opW (zka 1 t87 (.bool true) H71) fun u_4 H75=>
K (.int .i64 0) H75))))
theorem zli{t0 t1:Value}{H:Heap}{K:VH}(h:zTf t0 t1 H K):wCall P zPc [t0,t1] H K:=zea rfl (Eq.mpr (by kernel_rfl) h)
def zjt(t0:Value)(H:Heap)(K:VH):Prop:=
zlb (zFa t0) H fun t1 H1=>
opW (zna 75 t1 H1) fun t4 H3=>
wCall P zMc [t4] H3 fun t5 H5=>
opP (unA .not t5) fun t6=>
wIf t6 (
K (.slice none 0 0) H5) (
opP (zca 0 t1) fun t7=>
opP (zJa 2 36 t7 (.int .i64 0)) fun t8=>
opW (zna 36 t8 H5) fun t9 H10=>
wCall P zQf [t9] H10 fun t10 H12=>
opP (zca 0 t1) fun t11=>
opP (zJa 2 36 t11 (.int .i64 1)) fun t12=>
opW (zna 36 t12 H12) fun t13 H16=>
zrc (zjc H10 H12) (zNa [t12])∧(wCall P zQf [t13] H16 fun t14 H18=>
opW ((zpa P 104 1).f [(0,t14)] H18) fun t15 H20=>
wCall P zzf [t10,t15] H20 fun t16 H22=>
opP (zca 72 t1) fun t18=>
opW (zba t18 H22) fun t19 H25=>
opW (zob .u64 t19 H25) fun t20 H27=>
wCall P zUa [t16,t20,(.int .i64 1)] H27 fun t21 H29=>
opP (zca 73 t1) fun t22=>
opW (zba t22 H29) fun t23 H32=>
zrc (zjc H27 H29) (zNa [t22])∧(opP ((zsa P .sub 3 true).f t23 (.int .i64 (-1))) fun t24=>
opW (zob .u64 t24 H32) fun t25 H35=>
wCall P zUa [t21,t25,(.int .i64 1)] H35 fun t26 H37=>
opP (zca 74 t1) fun t28=>
opW (zba t28 H37) fun t29 H40=>
wCall P zUa [t26,t29,(.int .i64 8)] H40 fun t30 H42=>
K t30 H42)))
theorem zKu{t0:Value}{H:Heap}{K:VH}(h:zjt t0 H K):wCall P zYi [t0] H K:=zea rfl (Eq.mpr (by kernel_rfl) h)
def zXl(t0:Value)(H:Heap)(K:VH):Prop:=
zlb (zFa t0) H fun t1 H1=>
opW (zna 36 t1 H1) fun t3 H3=>
wCall P zHb [t3] H3 fun t4 H5=>
wIf t4 (
opP (zca 0 t1) fun t6=>
opW (zba t6 H5) fun t7 H8=>
opP ((zsa P .eql 3 true).f t7 (.int .i64 3)) fun t8=>
wIf t8 (
opP (zra t8 (.bool true) undef) fun t18=>
opP (zra t4 t18 (.bool false)) fun t19=>
K t19 H8) (
opP (zca 0 t1) fun t10=>
opW (zba t10 H8) fun t11 H14=>
opP ((zsa P .eql 3 true).f t11 (.int .i64 2)) fun t12=>
wIf t12 (
opP (zca 1 t1) fun t14=>
opW (zba t14 H14) fun t15 H18=>
opP ((zsa P .geq 3 true).f t15 (.int .i64 1)) fun t16=>
opP (zra t12 t16 (.bool false)) fun t17=>
opP (zra t8 (.bool true) t17) fun t18_1=>
opP (zra t4 t18_1 (.bool false)) fun t19_1=>
K t19_1 H18) (
opP (zra t12 undef (.bool false)) fun t17_1=>
opP (zra t8 (.bool true) t17_1) fun t18_2=>
opP (zra t4 t18_2 (.bool false)) fun t19_2=>
K t19_2 H14))) (
opP (zra t4 undef (.bool false)) fun t19_3=>
K t19_3 H5)
theorem zep{t0:Value}{H:Heap}{K:VH}(h:zXl t0 H K):wCall P zce [t0] H K:=zea rfl (Eq.mpr (by kernel_rfl) h)
noncomputable abbrev zOn:Code:=zOa P zme 0
def zPn(l:List Value)(H:Heap)(N:LN)(Qx:LX)(Qr:LN):Prop:=
opP ((zsa P .mul 3 true).f (.int .i64 63) (nth l 2)) fun t11=>
opP ((zsa P .add 3 true).f (nth l 0) (.int .i64 17)) fun t13=>
opP ((zsa P .lss 3 false).f t11 t13) fun t14=>
wIf t14 (
opP ((zsa P .add 3 true).f (nth l 2) (.int .i64 1)) fun t16=>
N [(nth l 0),(nth l 1),t16] H) (
Qx 0 [(nth l 1),(nth l 2)] H)
theorem zfp:LpI P 18 zOn 12 zPn:=.mk (by kernel_rfl) fun l H N Qx Qr=>by kernel_rfl
def zRv(t0:Value)(H:Heap)(K:VH):Prop:=
zab (fun J=>
opP ((zsa P .lss 3 true).f t0 (.int .i64 0)) fun t5=>
wIf t5 (
opP (zra t5 (.bool true) undef) fun t9=>
wIf t9 (
K (.int .i64 0) H) (
J [t0,(.int .i64 0)] H)) (
opP ((zsa P .gtr 3 true).f t0 (.int .i64 4000)) fun t8=>
opP (zra t5 (.bool true) t8) fun t9_1=>
wIf t9_1 (
K (.int .i64 0) H) (
J [t0,(.int .i64 0)] H))) (fun l H6=>
zdb P true 18 zOn 12 [(nth l 0),(nth l 1),(.int .i64 0)] H6 (fun id l_1 H8=>
cond (Nat.beq id 0) (
K (nth l_1 1) H8) (
False)) (fun l_1 H8=>
K (nth l_1 0) H8))
theorem zmx{t0:Value}{H:Heap}{K:VH}(h:zRv t0 H K):wCall P zme [t0] H K:=zea rfl (Eq.mpr (by kernel_rfl) h)
def zSv(t0:Value)(H:Heap)(K:VH):Prop:=
opP (zda t0) fun t4=>
opP (zca 6 t4) fun t5=>
opW (zba t5 H) fun t6 H3=>
opP (unA .not t6) fun t7=>
wIf t7 (
K (.int .i64 0) H3) (
opP (zda t0) fun t9=>
opP (zca 0 t9) fun t10=>
opW (zba t10 H3) fun t11 H8=>
opP (zda t11) fun t12=>
opP (zca 1 t12) fun t13=>
opW (zba t13 H8) fun t14 H12=>
opP (zda t0) fun t17=>
opP (zca 3 t17) fun t18=>
opW (zba t18 H12) fun t19 H16=>
opP (zda t0) fun t20=>
opP (zca 1 t20) fun t21=>
opP (zJa 2 1 t21 t19) fun t22=>
opW (zba t22 H16) fun t23 H21=>
opP (zWa 1 t14 t23) fun t24=>
opW (zba t24 H21) fun t25 H24=>
opP (zda t0) fun t27=>
opP (zca 4 t27) fun t28=>
opW (zba t28 H24) fun t29 H28=>
opP ((zsa P .sub 3 false).f t25 t29) fun t30=>
K t30 H28)
theorem znx{t0:Value}{H:Heap}{K:VH}(h:zSv t0 H K):wCall P zek [t0] H K:=zea rfl (Eq.mpr (by kernel_rfl) h)
noncomputable abbrev zYl:Code:=zOa P zMe 0
def zZl(l:List Value)(H:Heap)(N:LN)(Qx:LX)(Qr:LN):Prop:=
opP ((zsa P .lss 3 false).f (nth l 8) (nth l 7)) fun t28=>
wIf t28 (
opP (zWa 64 (nth l 6) (nth l 8)) fun t30=>
opW (zna 64 t30 H) fun t31 H3=>
zlb (zc P 94) H3 fun t14 H5=>
opW (zka 64 t14 t31 H5) fun u H7=>
opP (zda (nth l 0)) fun t33=>
opP (zca 0 t33) fun t34=>
opW (zba t34 H7) fun t35 H11=>
opP ((zsa P .add 3 false).f (nth l 2) (nth l 8)) fun t39=>
opW (zna 64 t14 H11) fun t40 H14=>
wCall P zQg [t35,(nth l 1),t39,t40] H14 fun t41 H16=>
opP ((zsa P .neq 3 true).f t41 (.int .i64 0)) fun t43=>
wIf t43 (
Qr [(nth l 0),(.int .i64 0),t41,(nth l 5)] H16) (
opP ((zsa P .add 3 true).f (nth l 8) (.int .i64 1)) fun t45=>
N [(nth l 0),(nth l 1),(nth l 2),(nth l 3),(nth l 4),(nth l 5),(nth l 6),(nth l 7),t45] H16)) (
Qx 0 [(nth l 0),(nth l 3),(nth l 4),(nth l 5)] H)
theorem zQn:LpI P 56 zYl 7169 zZl:=.mk (by kernel_rfl) fun l H N Qx Qr=>by kernel_rfl
def zkt(t0 t1 t2 t3 t4:Value)(H:Heap)(K:VH):Prop:=
opP (zda t0) fun t18=>
opP (zca 5 t18) fun t19=>
opW (zba t19 H) fun t20 H3=>
opP ((zsa P .add 23 true).f t20 (.int .u64 1)) fun t21=>
opW (zje t4 H3) fun t23 H6=>
wCall P zPg [t3,t21,t23] H6 fun t24 H8=>
opW (lenSl t24 H8) fun t26 H10=>
zdb P true 56 zYl 7169 [t0,t1,t2,(.int .i64 0),(.int .i64 0),t24,t24,t26,(.int .i64 0)] H10 (fun id l H12=>
cond (Nat.beq id 0) (
opW (lenSl (nth l 3) H12) fun t47 H14=>
opP (zda (nth l 0)) fun t49=>
opP (zca 0 t49) fun t50=>
opW (zba t50 H14) fun t51 H18=>
opP (zda t51) fun t52=>
opP (zca 0 t52) fun t53=>
opW (zba t53 H18) fun t54 H22=>
wCall P zne [t54] H22 fun t55 H24=>
K (.tuple [t47,t55].toArray) H24) (
False)) (fun l H12=>
K (.tuple [(nth l 1),(nth l 2)].toArray) H12)
theorem zLu{t0 t1 t2 t3 t4:Value}{H:Heap}{K:VH}(h:zkt t0 t1 t2 t3 t4 H K):wCall P zMe [t0,t1,t2,t3,t4] H K:=zea rfl (Eq.mpr (by kernel_rfl) h)
def zTv(t0 t1:Value)(H:Heap)(K:VH):Prop:=
wCall P zme [t1] H fun t7 H1=>
opP ((zsa P .gtr 3 true).f t7 (.int .i64 0)) fun t9=>
wIf t9 (
opP (zda t0) fun t13=>
opP (zca 0 t13) fun t14=>
opW (zba t14 H1) fun t15 H6=>
opP (zda t15) fun t16=>
opP (zca 1 t16) fun t17=>
opW (zba t17 H6) fun t18 H10=>
opP (zda t0) fun t20=>
opP (zca 1 t20) fun t21=>
opP (zJa 2 1 t21 (.int .i64 0)) fun t22=>
opW (zba t22 H10) fun t23 H15=>
opP (zWa 1 t18 t23) fun t24=>
opW (zba t24 H15) fun t25 H18=>
opP ((zsa P .leq 3 false).f t7 t25) fun t26=>
opP (zra t9 t26 (.bool false)) fun t27=>
wIf t27 (
opP (zda t0) fun t31=>
opP (zca 0 t31) fun t32=>
opW (zba t32 H18) fun t33 H24=>
opP (zda t33) fun t34=>
opP (zca 1 t34) fun t35=>
opW (zba t35 H24) fun t36 H28=>
opP (zda t0) fun t38=>
opP (zca 1 t38) fun t39=>
opP (zJa 2 1 t39 (.int .i64 1)) fun t40=>
opW (zba t40 H28) fun t41 H33=>
opP (zWa 1 t36 t41) fun t42=>
opW (zba t42 H33) fun t43 H36=>
opP ((zsa P .leq 3 false).f t7 t43) fun t44=>
opP (zra t27 t44 (.bool false)) fun t45=>
K t45 H36) (
opP (zra t27 undef (.bool false)) fun t45_1=>
K t45_1 H18)) (
opP (zra t9 undef (.bool false)) fun t27_1=>
opP (zra t27_1 undef (.bool false)) fun t45_2=>
K t45_2 H1)
theorem zox{t0 t1:Value}{H:Heap}{K:VH}(h:zTv t0 t1 H K):wCall P zfk [t0,t1] H K:=zea rfl (Eq.mpr (by kernel_rfl) h)
noncomputable abbrev zRn:Code:=zOa P zth 0
def zSn(l:List Value)(H:Heap)(N:LN)(Qx:LX)(Qr:LN):Prop:=
opP (zda (nth l 0)) fun t22=>
opP (zca 1 t22) fun t23=>
opW (zba t23 H) fun t24 H3=>
opP (zWa 1 t24 (nth l 1)) fun t26=>
opW (zba t26 H3) fun t27 H6=>
opP ((zsa P .lss 3 false).f (nth l 3) t27) fun t28=>
wIf t28 (
wCall P zvh [(nth l 0),(nth l 1),(nth l 3)] H6 fun t35 H9=>
opP (zNb 0 t35) fun t36=>
opP (zNb 1 t35) fun t37=>
zlb (zc P 94) H9 fun t6 H13=>
opW (zka 64 t6 t36 H13) fun u H15=>
opW (zna 64 t6 H15) fun t38 H17=>
wCall P zLc [] H17 fun t39 H19=>
zrc (zjc H17 H19) (zNa [t6])∧(opP ((zsa P .eql 94 false).f t38 t39) fun t40=>
wIf t40 (
opP ((zsa P .add 3 true).f (nth l 3) (.int .i64 1)) fun t30=>
N [(nth l 0),(nth l 1),(nth l 2),t30] H19) (
wCall P zZi [(nth l 0),(nth l 1),(nth l 3)] H19 fun t44 H23=>
opP ((zsa P .neq 3 true).f t44 (.int .i64 0)) fun t46=>
wIf t46 (
Qr [t44] H23) (
opP ((zsa P .add 3 true).f (nth l 3) (.int .i64 1)) fun t30_1=>
N [(nth l 0),(nth l 1),(nth l 2),t30_1] H23)))) (
Qx 0 [(nth l 2)] H6)
theorem zgp:LpI P 48 zRn 16 zSn:=.mk (by kernel_rfl) fun l H N Qx Qr=>by kernel_rfl
def zUv(t0 t1:Value)(H:Heap)(K:VH):Prop:=
zab (fun J=>
opP ((zsa P .lss 3 true).f t1 (.int .i64 0)) fun t10=>
wIf t10 (
opP (zra t10 (.bool true) undef) fun t19=>
wIf t19 (
K (.int .i64 71) H) (
J [t0,t1,(.int .i64 0)] H)) (
opP (zda t0) fun t14=>
opP (zca 1 t14) fun t15=>
opW (zba t15 H) fun t16 H6=>
opW (lenSl t16 H6) fun t17 H8=>
opP ((zsa P .geq 3 false).f t1 t17) fun t18=>
opP (zra t10 (.bool true) t18) fun t19_1=>
wIf t19_1 (
K (.int .i64 71) H8) (
J [t0,t1,(.int .i64 0)] H8))) (fun l H12=>
zdb P true 48 zRn 16 [(nth l 0),(nth l 1),(nth l 2),(.int .i64 0)] H12 (fun id l_1 H14=>
cond (Nat.beq id 0) (
K (.int .i64 0) H14) (
False)) (fun l_1 H14=>
K (nth l_1 0) H14))
theorem zpx{t0 t1:Value}{H:Heap}{K:VH}(h:zUv t0 t1 H K):wCall P zth [t0,t1] H K:=zea rfl (Eq.mpr (by kernel_rfl) h)
noncomputable abbrev zTn:Code:=zOa P zne 0
def zUn(l:List Value)(H:Heap)(N:LN)(Qx:LX)(Qr:LN):Prop:=
opP ((zsa P .lss 3 false).f (nth l 4) (nth l 3)) fun t20=>
wIf t20 (
opP (zWa 65 (nth l 2) (nth l 4)) fun t21=>
opW (zna 65 t21 H) fun t22 H3=>
zlb (zc P 125) H3 fun t4 H5=>
opW (zka 65 t4 t22 H5) fun u H7=>
opP (zda (nth l 0)) fun t24=>
opP (zca 0 t24) fun t25=>
opW (zba t25 H7) fun t26 H11=>
opP (zca 0 t4) fun t27=>
opW (zba t27 H11) fun t28 H14=>
opP (zca 1 t4) fun t29=>
opW (zna 64 t29 H14) fun t30 H17=>
opP (zWa 64 t26 t28) fun t31=>
opW (zka 64 t31 t30 H17) fun u_1 H20=>
opP ((zsa P .add 3 true).f (nth l 4) (.int .i64 1)) fun t32=>
N [(nth l 0),(nth l 1),(nth l 2),(nth l 3),t32] H20) (
Qx 0 [(nth l 0),(nth l 1)] H)
theorem zhp:LpI P 36 zTn 5 zUn:=.mk (by kernel_rfl) fun l H N Qx Qr=>by kernel_rfl
def zVv(t0:Value)(H:Heap)(K:VH):Prop:=
zab (fun J=>
opP (zda t0) fun t6=>
opP (zca 6 t6) fun t7=>
opW (zba t7 H) fun t8 H4=>
wIf t8 (
opP (zra t8 (.bool true) undef) fun t13=>
wIf t13 (
K (.int .i64 62) H4) (
J [t0,(.int .i64 0)] H4)) (
wCall P zSe [t0] H4 fun t11 H7=>
opP (unA .not t11) fun t12=>
opP (zra t8 (.bool true) t12) fun t13_1=>
wIf t13_1 (
K (.int .i64 62) H7) (
J [t0,(.int .i64 0)] H7))) (fun l H11=>
opP (zda (nth l 0)) fun t15=>
opP (zca 3 t15) fun t16=>
opW (zba t16 H11) fun t17 H15=>
opW (lenSl t17 H15) fun t18 H17=>
zdb P true 36 zTn 5 [(nth l 0),(nth l 1),t17,t18,(.int .i64 0)] H17 (fun id l_1 H19=>
cond (Nat.beq id 0) (
opP (zda (nth l_1 0)) fun t34=>
opP (zca 3 t34) fun t35=>
opW (zka 1 t35 (.slice none 0 0) H19) fun u H23=>
K (.int .i64 0) H23) (
False)) (fun l_1 H19=>
K (nth l_1 1) H19))
theorem zqx{t0:Value}{H:Heap}{K:VH}(h:zVv t0 H K):wCall P zne [t0] H K:=zea rfl (Eq.mpr (by kernel_rfl) h)
def zVn(t0 t1:Value)(H:Heap)(K:VH):Prop:=
wCall P zVd [t0,t1] H fun t7 H1=>
opP (unA .not t7) fun t8=>
wIf t8 (
K (.int .i64 0) H1) (
opP (zda t0) fun t10=>
opP (zca 1 t10) fun t11=>
opW (zba t11 H1) fun t12 H6=>
opP (zWa 2 t12 t1) fun t14=>
opP (zca 1 t14) fun t15=>
opW (zba t15 H6) fun t16 H10=>
K t16 H10)
theorem zcr{t0 t1:Value}{H:Heap}{K:VH}(h:zVn t0 t1 H K):wCall P zcc [t0,t1] H K:=zea rfl (Eq.mpr (by kernel_rfl) h)
def zWn(t0 t1 t2:Value)(H:Heap)(K:VH):Prop:=
zlb (zc P 94) H fun t6 H1=>
wCall P zWc [t0,t1,t2] H1 fun t14 H3=>
opP (zNb 0 t14) fun t15=>
opP (zNb 1 t14) fun t16=>
opP ((zsa P .neq 38 true).f t16 (.int .i64 0)) fun t18=>
wIf t18 (
opP ((zAa P 94).f []) fun t19=>
opW (zka 64 t6 t19 H3) fun u H9=>
opW (zna 64 t6 H9) fun r _=>
K (.tuple [r,t16].toArray) H9) (
opP (zda t0) fun t22=>
opP (zca 0 t22) fun t23=>
opW (zba t23 H3) fun t24 H14=>
wCall P zfe [t24,t15] H14 fun t26 H16=>
opP (zNb 0 t26) fun t27=>
opP (zNb 1 t26) fun t28=>
opW (zka 64 t6 t27 H16) fun u_1 H20=>
opW (zna 64 t6 H20) fun r_1 _=>
K (.tuple [r_1,t28].toArray) H20)
theorem zdr{t0 t1 t2:Value}{H:Heap}{K:VH}(h:zWn t0 t1 t2 H K):wCall P zNe [t0,t1,t2] H K:=zea rfl (Eq.mpr (by kernel_rfl) h)
def zrk(t0 t1:Value)(H:Heap)(K:VH):Prop:=
wCall P zld [t0,t1] H fun t7 H1=>
wCall P zvb [t7] H1 fun t8 H3=>
K t8 H3
theorem zXn{t0 t1:Value}{H:Heap}{K:VH}(h:zrk t0 t1 H K):wCall P zBc [t0,t1] H K:=zea rfl (Eq.mpr (by kernel_rfl) h)
def zWv(t0:Value)(H:Heap)(K:VH):Prop:=
zab (fun J=>
opP ((zsa P .lss 3 true).f t0 (.int .i64 0)) fun t4=>
wIf t4 (
opP (zra t4 (.bool true) undef) fun t8=>
wIf t8 (
K (.int .i64 0) H) (
J [t0] H)) (
opP ((zsa P .gtr 3 true).f t0 (.int .i64 4000)) fun t7=>
opP (zra t4 (.bool true) t7) fun t8_1=>
wIf t8_1 (
K (.int .i64 0) H) (
J [t0] H))) (fun l H6=>
opP ((zsa P .add 3 true).f (.int .i64 13) (nth l 0)) fun t10=>
opP ((zsa P .add 3 true).f t10 (.int .i64 4)) fun t11=>
opP ((zsa P .add 3 true).f t11 (.int .i64 63)) fun t12=>
opP ((zsa P .sub 3 true).f t12 (.int .i64 1)) fun t13=>
opP ((zsa P .quo 3 true).f t13 (.int .i64 63)) fun t14=>
K t14 H6)
theorem zrx{t0:Value}{H:Heap}{K:VH}(h:zWv t0 H K):wCall P zuh [t0] H K:=zea rfl (Eq.mpr (by kernel_rfl) h)
noncomputable abbrev zam:Code:=zOa P zyg 0
def zbm(l:List Value)(H:Heap)(N:LN)(Qx:LX)(Qr:LN):Prop:=
opP ((zsa P .lss 3 false).f (nth l 4) (nth l 3)) fun t9=>
wIf t9 (
opP (zWa 64 (nth l 2) (nth l 4)) fun t10=>
opW (zna 64 t10 H) fun t11 H3=>
zlb (zc P 94) H3 fun t5 H5=>
opW (zka 64 t5 t11 H5) fun u H7=>
opP (zmc 64 1 t5 none (some (.int .i64 63)) none H7) fun t13=>
opW (zva 1 1 (nth l 1) t13 H7) fun t14 H10=>
opP ((zsa P .add 3 true).f (nth l 4) (.int .i64 1)) fun t15=>
N [(nth l 0),t14,(nth l 2),(nth l 3),t15] H10) (
Qx 0 [(nth l 0),(nth l 1)] H)
theorem zYn:LpI P 17 zam 12 zbm:=.mk (by kernel_rfl) fun l H N Qx Qr=>by kernel_rfl
def zlt(t0:Value)(H:Heap)(K:VH):Prop:=
opW (lenSl t0 H) fun t7 H1=>
zdb P true 17 zam 12 [(.slice none 0 0),(.slice none 0 0),t0,t7,(.int .i64 0)] H1 (fun id l H3=>
cond (Nat.beq id 0) (
K (nth l 1) H3) (
False)) (fun l H3=>
K (nth l 0) H3)
theorem zMu{t0:Value}{H:Heap}{K:VH}(h:zlt t0 H K):wCall P zyg [t0] H K:=zea rfl (Eq.mpr (by kernel_rfl) h)
noncomputable abbrev zTb:Code:=zOa P zYa 0
def zUb(l:List Value)(H:Heap)(N:LN)(Qx:LX)(Qr:LN):Prop:=
opP ((zsa P .lss 3 false).f (nth l 4) (nth l 3)) fun t14=>
wIf t14 (
opP (zWa 64 (nth l 0) (nth l 4)) fun t18=>
opW (zna 64 t18 H) fun t19 H3=>
opP (zWa 64 (nth l 1) (nth l 4)) fun t22=>
opW (zna 64 t22 H3) fun t23 H6=>
opP ((zsa P .neq 94 false).f t19 t23) fun t24=>
wIf t24 (
Qr [(.bool false)] H6) (
opP ((zsa P .add 3 true).f (nth l 4) (.int .i64 1)) fun t25=>
N [(nth l 0),(nth l 1),(nth l 2),(nth l 3),t25] H6)) (
Qx 0 [(nth l 2)] H)
theorem zhd:LpI P 26 zTb 16 zUb:=.mk (by kernel_rfl) fun l H N Qx Qr=>by kernel_rfl
def zic(t0 t1:Value)(H:Heap)(K:VH):Prop:=
opW (lenSl t0 H) fun t7 H1=>
opW (lenSl t1 H1) fun t9 H3=>
opP ((zsa P .neq 3 false).f t7 t9) fun t10=>
wIf t10 (
K (.bool false) H3) (
opW (lenSl t0 H3) fun t12 H6=>
zdb P true 26 zTb 16 [t0,t1,(.bool false),t12,(.int .i64 0)] H6 (fun id l H8=>
cond (Nat.beq id 0) (
K (.bool true) H8) (
False)) (fun l H8=>
K (nth l 0) H8))
theorem zOd{t0 t1:Value}{H:Heap}{K:VH}(h:zic t0 t1 H K):wCall P zYa [t0,t1] H K:=zea rfl (Eq.mpr (by kernel_rfl) h)
noncomputable abbrev zGd:List Tmp × Code × Code:=rangeAt P zyf 0
def znq(vals args:List Value)(l:Nat)(H:Heap)(K:VH):Prop:=
zJy l H fun H0=>
wCall P zIb [] H0 fun t19 H2=>
zlb (zc P 94) H2 fun t9 H4=>
opW (zka 64 t9 t19 H4) fun u H6=>
opP (zmc 64 1 t9 none none none H6) fun t20=>
opW (znj 1 t20 (nth args 0) H6) fun t22 H9=>
opP (zJa 64 1 t9 (.int .i64 63)) fun t23=>
opW (zka 1 t23 (.int .u8 0) H9) fun u_1 H12=>
opW (zba (nth vals 0) H12) fun t24 H14=>
opW (zna 64 t9 H14) fun t25 H16=>
opW ((zpa P 99 1).f [(0,t25)] H16) fun t26 H18=>
opW (zva 64 64 t24 t26 H18) fun t27 H20=>
opW (zka 1 (nth vals 0) t27 H20) fun u_2 H22=>
zML l .normal H22 K
theorem zmt(vals args:List Value)(l:Nat)(H:Heap)(K:VH):zNw P 29 zGd.1 zGd.2.1 zGd.2.2 vals args l H K=znq vals args l H K:=by kernel_rfl
def zHz(t0 t1 t2:Value)(H:Heap)(K:VH):Prop:=
opW (lenSl t2 H) fun t11 H1=>
opP ((zsa P .gtr 3 true).f t11 (.int .i64 4000)) fun t12=>
wIf t12 (
K (.slice none 0 0) H1) (
zlb (zc P 99) H1 fun t7 H4=>
wCall P zMh [t0,t1,t2] H4 fun t16 H6=>
wCall P zoe [t16,(.int .i64 63)] H6 fun t17 H8=>
zIy P 29 zGd.1 zGd.2.1 zGd.2.2 [t7,undef] t17 H8 (fun H9=>
opW (zba t7 H9) fun t28 H11=>
K t28 H11) (fun id H9=>
cond (Nat.beq id 0) (
opW (zba t7 H9) fun t28_1 H13=>
K t28_1 H13) (
False)) (fun H9=>
K (.slice none 0 0) H9))
theorem zIz{t0 t1 t2:Value}{H:Heap}{K:VH}(h:zHz t0 t1 t2 H K):wCall P zyf [t0,t1,t2] H K:=zea rfl (Eq.mpr (by kernel_rfl) h)
def zjf(t0:Value)(H:Heap)(K:VH):Prop:=
opP ((zsa P .eql 32 true).f t0 (.slice none 0 0)) fun t4=>
wIf t4 (
K (.slice none 0 0) H) (
opW ((zpa P 32 0).f [] H) fun t5 H2=>
opW (zva 1 1 t5 t0 H2) fun t7 H4=>
K t7 H4)
theorem zOh{t0:Value}{H:Heap}{K:VH}(h:zjf t0 H K):wCall P zvb [t0] H K:=zea rfl (Eq.mpr (by kernel_rfl) h)
def zsk(t0:Value)(H:Heap)(K:VH):Prop:=
opP (zda t0) fun t4=>
opP (zca 1 t4) fun t5=>
opW (zba t5 H) fun t6 H3=>
K t6 H3
theorem zZn{t0:Value}{H:Heap}{K:VH}(h:zsk t0 H K):wCall P zCc [t0] H K:=zea rfl (Eq.mpr (by kernel_rfl) h)
def zWd(t0:Value)(H:Heap)(K:VH):Prop:=
zlb (zFa t0) H fun t1 H1=>
K (.func (.func zcb) [].toArray [t1].toArray) H1
theorem zBg{t0:Value}{H:Heap}{K:VH}(h:zWd t0 H K):wCall P zud [t0] H K:=zea rfl (Eq.mpr (by kernel_rfl) h)
def zwj(t0 t1:Value)(H:Heap)(K:VH):Prop:=
opW (zwe H (zPH [t1,(.int .i64 0)])) fun t7 H1=>
zab (fun J=>
opP (zda t0) fun t9=>
opP (zca 1 t9) fun t10=>
opW (zba t10 H1) fun t11 H6=>
opP ((zsa P .neq 38 true).f t11 (.int .i64 0)) fun t12=>
wIf t12 (
opP (zra t12 (.bool true) undef) fun t21=>
J [t0,t7,t21] H6) (
opP (zda t0) fun t16=>
opP (zca 0 t16) fun t17=>
opW (zba t17 H6) fun t18 H12=>
opW (lenSl t18 H12) fun t19 H14=>
opP ((zsa P .gtr 3 false).f t7 t19) fun t20=>
opP (zra t12 (.bool true) t20) fun t21_1=>
J [t0,t7,t21_1] H14)) (fun l H18=>
wIf (nth l 2) (
wCall P zTe [(nth l 0),(.int .i64 51)] H18 fun t23 H20=>
K (.slice none 0 0) H20) (
opP (zda (nth l 0)) fun t25=>
opP (zca 0 t25) fun t26=>
opW (zba t26 H18) fun t27 H24=>
opP (zLa 1 t27 none (some (nth l 1)) none) fun t29=>
opP (zda (nth l 0)) fun t32=>
opP (zca 0 t32) fun t33=>
opW (zba t33 H24) fun t34 H29=>
opP (zLa 1 t34 (some (nth l 1)) none none) fun t36=>
opP (zda (nth l 0)) fun t37=>
opP (zca 0 t37) fun t38=>
opW (zka 1 t38 t36 H29) fun u H34=>
K t29 H34))
theorem zJm{t0 t1:Value}{H:Heap}{K:VH}(h:zwj t0 t1 H K):wCall P zld [t0,t1] H K:=zea rfl (Eq.mpr (by kernel_rfl) h)
def znt(t0:Value)(H:Heap)(K:VH):Prop:=
opW (zwe H (zNH [t0,(.int .i64 8)])) fun t4 H1=>
opW (zwe H1 (zPH [(.int .i64 0),t4])) fun t5 H3=>
K t5 H3
theorem zNu{t0:Value}{H:Heap}{K:VH}(h:znt t0 H K):wCall P zzg [t0] H K:=zea rfl (Eq.mpr (by kernel_rfl) h)
def zot(t0:Value)(H:Heap)(K:VH):Prop:=
zlb (zFa t0) H fun t1 H1=>
opP (zca 0 t1) fun t5=>
opW (zba t5 H1) fun t6 H4=>
opP ((zAa P 81).f [(0,t6)]) fun t7=>
zlb (zc P 81) H4 fun t3 H7=>
opW (zka 40 t3 t7 H7) fun u H9=>
zab (fun J=>
opP (zca 0 t1) fun t8=>
opW (zba t8 H9) fun t9 H13=>
opP ((zsa P .eql 3 true).f t9 (.int .i64 1)) fun t11=>
wIf t11 (
opP (zca 1 t1) fun t12=>
opW (zba t12 H13) fun t13 H17=>
opP (zca 3 t1) fun t14=>
opW (zna 36 t14 H17) fun t15 H20=>
opP (zca 1 t3) fun t16=>
opW (zka 1 t16 t13 H20) fun u_1 H23=>
zOf (zNa [t14]) (zNa [t16,t13])∧(opP (zca 3 t3) fun t17=>
opW (zka 36 t17 t15 H23) fun u_2 H26=>
opP (zca 1 t1) fun t18=>
opW (zba t18 H26) fun t19 H29=>
wCall P zNc [t19] H29 fun t20 H31=>
wIf t20 (
opP (zca 3 t1) fun t22=>
opW (zna 36 t22 H31) fun t23 H34=>
wCall P zXb [t23] H34 fun t24 H36=>
opP (zra t20 t24 (.bool false)) fun t25=>
J [t1,t3,t25] H36) (
opP (zra t20 undef (.bool false)) fun t25_1=>
J [t1,t3,t25_1] H31))) (
opP ((zsa P .eql 3 true).f t9 (.int .i64 2)) fun t27=>
wIf t27 (
opP (zca 2 t1) fun t28=>
opW (zba t28 H13) fun t29 H42=>
opP (zca 2 t3) fun t30=>
opW (zka 1 t30 t29 H42) fun u_3 H45=>
opP (zca 2 t1) fun t31=>
opW (zba t31 H45) fun t32 H48=>
wCall P zNc [t32] H48 fun t33 H50=>
J [t1,t3,t33] H50) (
opP ((zsa P .eql 3 true).f t9 (.int .i64 3)) fun t35=>
wIf t35 (
opP (zca 2 t1) fun t36=>
opW (zba t36 H13) fun t37 H54=>
opP (zca 2 t3) fun t38=>
opW (zka 1 t38 t37 H54) fun u_4 H57=>
opP (zca 2 t1) fun t39=>
opW (zba t39 H57) fun t40 H60=>
opP ((zsa P .eql 3 true).f t40 (.int .i64 (-1))) fun t41=>
wIf t41 (
opP (zra t41 (.bool true) undef) fun t46=>
J [t1,t3,t46] H60) (
opP (zca 2 t1) fun t43=>
opW (zba t43 H60) fun t44 H65=>
wCall P zNc [t44] H65 fun t45 H67=>
opP (zra t41 (.bool true) t45) fun t46_1=>
J [t1,t3,t46_1] H67)) (
opP ((zsa P .eql 3 true).f t9 (.int .i64 4)) fun t48=>
wIf t48 (
opP (zca 39 t1) fun t49=>
opW (zba t49 H13) fun t50 H72=>
opP (zca 39 t3) fun t51=>
opW (zka 1 t51 t50 H72) fun u_5 H75=>
opP (zca 39 t1) fun t52=>
opW (zba t52 H75) fun t53 H78=>
opP ((zsa P .leq 23 true).f t53 (.int .u64 281474976710656)) fun t54=>
J [t1,t3,t54] H78) (
J [t1,t3,(.bool false)] H13))))) (fun l H81=>
wIf (nth l 2) (
opW (zna 40 (nth l 1) H81) fun t57 H83=>
opW (zna 40 (nth l 0) H83) fun t58 H85=>
opP ((zsa P .eql 81 false).f t57 t58) fun t59=>
opP (zra (nth l 2) t59 (.bool false)) fun t60=>
K t60 H85) (
opP (zra (nth l 2) undef (.bool false)) fun t60_1=>
K t60_1 H81))
theorem zOu{t0:Value}{H:Heap}{K:VH}(h:zot t0 H K):wCall P zOe [t0] H K:=zea rfl (Eq.mpr (by kernel_rfl) h)
def zXv(t0 t1 t2:Value)(H:Heap)(K:VH):Prop:=
zlb (zc P 94) H fun t6 H1=>
wCall P zFd [t0,t1,t2] H1 fun t14 H3=>
opP (zNb 0 t14) fun t15=>
opP (zNb 1 t14) fun t16=>
opP ((zsa P .neq 3 true).f t16 (.int .i64 0)) fun t18=>
wIf t18 (
opP ((zAa P 94).f []) fun t19=>
opW (zka 64 t6 t19 H3) fun u H9=>
opW (zna 64 t6 H9) fun r _=>
K (.tuple [r,t16].toArray) H9) (
opP (zda t0) fun t22=>
opP (zca 0 t22) fun t23=>
opW (zba t23 H3) fun t24 H14=>
wCall P zRf [t24,t15] H14 fun t26 H16=>
opP (zNb 0 t26) fun t27=>
opP (zNb 1 t26) fun t28=>
opW (zka 64 t6 t27 H16) fun u_1 H20=>
opW (zna 64 t6 H20) fun r_1 _=>
K (.tuple [r_1,t28].toArray) H20)
theorem zsx{t0 t1 t2:Value}{H:Heap}{K:VH}(h:zXv t0 t1 t2 H K):wCall P zvh [t0,t1,t2] H K:=zea rfl (Eq.mpr (by kernel_rfl) h)
noncomputable abbrev zcm:Code:=zOa P zPe 0
def zdm(l:List Value)(H:Heap)(N:LN)(Qx:LX)(Qr:LN):Prop:=
opP ((zsa P .lss 3 false).f (nth l 4) (nth l 3)) fun t17=>
wIf t17 (
opP (zWa 1 (nth l 2) (nth l 4)) fun t19=>
opW (zba t19 H) fun t20 H3=>
opW ((zpa P 32 1).f [(0,t20)] H3) fun t23 H5=>
opW (zva 1 1 (nth l 1) t23 H5) fun t24 H7=>
opP ((zsa P .rem 3 true).f (nth l 4) (.int .i64 63)) fun t26=>
opP ((zsa P .eql 3 true).f t26 (.int .i64 62)) fun t27=>
wIf t27 (
opW ((zpa P 32 1).f [(0,(.int .u8 0))] H7) fun t29 H11=>
opW (zva 1 1 t24 t29 H11) fun t30 H13=>
opP ((zsa P .add 3 true).f (nth l 4) (.int .i64 1)) fun t31=>
N [(nth l 0),t30,(nth l 2),(nth l 3),t31] H13) (
opP ((zsa P .add 3 true).f (nth l 4) (.int .i64 1)) fun t31_1=>
N [(nth l 0),t24,(nth l 2),(nth l 3),t31_1] H7)) (
Qx 0 [(nth l 0),(nth l 1)] H)
theorem zao:LpI P 33 zcm 192 zdm:=.mk (by kernel_rfl) fun l H N Qx Qr=>by kernel_rfl
def zpt(t0 t1 t2:Value)(H:Heap)(K:VH):Prop:=
opW ((zpa P 32 0).f [] H) fun t10 H1=>
wCall P zAg [t0,t1,t2] H1 fun t14 H3=>
opW (lenSl t14 H3) fun t15 H5=>
zdb P true 33 zcm 192 [(.slice none 0 0),t10,t14,t15,(.int .i64 0)] H5 (fun id l H7=>
cond (Nat.beq id 0) (
K (nth l 1) H7) (
False)) (fun l H7=>
K (nth l 0) H7)
theorem zPu{t0 t1 t2:Value}{H:Heap}{K:VH}(h:zpt t0 t1 t2 H K):wCall P zPe [t0,t1,t2] H K:=zea rfl (Eq.mpr (by kernel_rfl) h)
def zng(t0:Value)(H:Heap)(K:VH):Prop:=
opP (zda t0) fun t4=>
opP (zca 6 t4) fun t5=>
opW (zba t5 H) fun t6 H3=>
opP (unA .not t6) fun t7=>
wIf t7 (
K (.int .i64 0) H3) (
opP (zda t0) fun t9=>
opP (zca 0 t9) fun t10=>
opW (zba t10 H3) fun t11 H8=>
opP (zda t0) fun t14=>
opP (zca 3 t14) fun t15=>
opW (zba t15 H8) fun t16 H12=>
opP (zda t0) fun t17=>
opP (zca 1 t17) fun t18=>
opP (zJa 2 1 t18 t16) fun t19=>
opW (zba t19 H12) fun t20 H17=>
wCall P zcc [t11,t20] H17 fun t21 H19=>
opP (zda t0) fun t23=>
opP (zca 5 t23) fun t24=>
opW (zba t24 H19) fun t25 H23=>
zrc (zjc H17 H19) (zNa [t24])∧(opP ((zsa P .sub 3 false).f t21 t25) fun t26=>
K t26 H23))
theorem zfj{t0:Value}{H:Heap}{K:VH}(h:zng t0 H K):wCall P zed [t0] H K:=zea rfl (Eq.mpr (by kernel_rfl) h)
noncomputable abbrev zpe:Code:=zOa P zyb 0
def zqe(l:List Value)(H:Heap)(N:LN)(Qx:LX)(Qr:LN):Prop:=
opP ((zsa P .lss 3 false).f (nth l 6) (nth l 5)) fun t15=>
wIf t15 (
opP (zWa 64 (nth l 4) (nth l 6)) fun t17=>
opW (zna 64 t17 H) fun t18 H3=>
zlb (zc P 94) H3 fun t10 H5=>
opW (zka 64 t10 t18 H5) fun u H7=>
opP (zda (nth l 0)) fun t20=>
opP (zca 0 t20) fun t21=>
opW (zba t21 H7) fun t22 H11=>
opP ((zsa P .add 3 false).f (nth l 2) (nth l 6)) fun t26=>
opW (zna 64 t10 H11) fun t27 H14=>
wCall P zUe [t22,(nth l 1),t26,t27] H14 fun t28 H16=>
opP ((zsa P .neq 38 true).f t28 (.int .i64 0)) fun t30=>
wIf t30 (
Qr [(nth l 0),t28] H16) (
opP ((zsa P .add 3 true).f (nth l 6) (.int .i64 1)) fun t32=>
N [(nth l 0),(nth l 1),(nth l 2),(nth l 3),(nth l 4),(nth l 5),t32] H16)) (
Qx 0 [(nth l 0),(nth l 3)] H)
theorem zCg:LpI P 38 zpe 257 zqe:=.mk (by kernel_rfl) fun l H N Qx Qr=>by kernel_rfl
def zUf(t0 t1 t2 t3:Value)(H:Heap)(K:VH):Prop:=
opW (lenSl t3 H) fun t13 H1=>
zdb P true 38 zpe 257 [t0,t1,t2,(.int .i64 0),t3,t13,(.int .i64 0)] H1 (fun id l H3=>
cond (Nat.beq id 0) (
opP (zda (nth l 0)) fun t34=>
opP (zca 0 t34) fun t35=>
opW (zba t35 H3) fun t36 H7=>
wCall P zRe [t36] H7 fun t37 H9=>
K t37 H9) (
False)) (fun l H3=>
K (nth l 1) H3)
theorem zmi{t0 t1 t2 t3:Value}{H:Heap}{K:VH}(h:zUf t0 t1 t2 t3 H K):wCall P zyb [t0,t1,t2,t3] H K:=zea rfl (Eq.mpr (by kernel_rfl) h)
noncomputable abbrev zbo:Code:=zOa P zUa 0
def zco(l:List Value)(H:Heap)(N:LN)(Qx:LX)(Qr:LN):Prop:=
opP ((zsa P .lss 3 false).f (nth l 4) (nth l 3)) fun t13=>
wIf t13 (
opW (zob .u8 (nth l 0) H) fun t16 H2=>
opW ((zpa P 32 1).f [(0,t16)] H2) fun t17 H4=>
opW (zva 1 1 (nth l 2) t17 H4) fun t18 H6=>
opP ((zsa P .shr 23 true).f (nth l 0) (.int .u64 8)) fun t20=>
opP ((zsa P .add 3 true).f (nth l 4) (.int .i64 1)) fun t21=>
N [t20,(nth l 1),t18,(nth l 3),t21] H6) (
Qx 0 [(nth l 1),(nth l 2)] H)
theorem zjp:LpI P 23 zbo 192 zco:=.mk (by kernel_rfl) fun l H N Qx Qr=>by kernel_rfl
def zYv(t0 t1 t2:Value)(H:Heap)(K:VH):Prop:=
wCall P zvb [t0] H fun t9 H1=>
wCall P zzg [t2] H1 fun t11 H3=>
zdb P true 23 zbo 192 [t1,(.slice none 0 0),t9,t11,(.int .i64 0)] H3 (fun id l H5=>
cond (Nat.beq id 0) (
K (nth l 1) H5) (
False)) (fun l H5=>
K (nth l 0) H5)
theorem ztx{t0 t1 t2:Value}{H:Heap}{K:VH}(h:zYv t0 t1 t2 H K):wCall P zUa [t0,t1,t2] H K:=zea rfl (Eq.mpr (by kernel_rfl) h)
def zmD(t0 t1:Value)(H:Heap)(K:VH):Prop:=
wCall P zeb [t1] H fun t7 H1=>
opW ((zpa P 104 2).f [(0,t0),(1,t7)] H1) fun t8 H3=>
wCall P zeb [t8] H3 fun t9 H5=>
K t9 H5
theorem zEB{t0 t1:Value}{H:Heap}{K:VH}(h:zmD t0 t1 H K):wCall P zzf [t0,t1] H K:=zea rfl (Eq.mpr (by kernel_rfl) h)
def zZv(t0:Value)(H:Heap)(K:VH):Prop:=
zlb (zFa t0) H fun t1 H1=>
opW (zna 36 t1 H1) fun t4 H3=>
wCall P zXb [t4] H3 fun t5 H5=>
opP (unA .not t5) fun t6=>
wIf t6 (
K (.slice none 0 0) H5) (
opP (zca 0 t1) fun t7=>
opW (zba t7 H5) fun t8 H9=>
opW (zob .u64 t8 H9) fun t9 H11=>
wCall P zUa [(.slice none 0 0),t9,(.int .i64 1)] H11 fun t10 H13=>
opP (zca 1 t1) fun t11=>
opW (zba t11 H13) fun t12 H16=>
zrc (zjc H11 H13) (zNa [t11])∧(opW (zob .u64 t12 H16) fun t13 H18=>
wCall P zUa [t10,t13,(.int .i64 1)] H18 fun t14 H20=>
opP (zca 2 t1) fun t16=>
opW (zba t16 H20) fun t17 H23=>
wCall P zUa [t14,t17,(.int .i64 8)] H23 fun t18 H25=>
opP (zca 3 t1) fun t19=>
opW (zba t19 H25) fun t20 H28=>
zrc (zjc H23 H25) (zNa [t19])∧(opW (zob .u64 t20 H28) fun t21 H30=>
wCall P zUa [t18,t21,(.int .i64 4)] H30 fun t22 H32=>
opP (zca 4 t1) fun t24=>
opP (zmc 32 1 t24 none none none H32) fun t25=>
opW ((zpa P 104 1).f [(0,t25)] H32) fun t26 H36=>
wCall P zzf [t22,t26] H36 fun t27 H38=>
K t27 H38)))
theorem zux{t0:Value}{H:Heap}{K:VH}(h:zZv t0 H K):wCall P zQf [t0] H K:=zea rfl (Eq.mpr (by kernel_rfl) h)
def zog(t0 t1:Value)(H:Heap)(K:VH):Prop:=
wCall P zuh [t1] H fun t7 H1=>
opP ((zsa P .gtr 3 true).f t7 (.int .i64 0)) fun t9=>
wIf t9 (
opP (zda t0) fun t13=>
opP (zca 0 t13) fun t14=>
opW (zba t14 H1) fun t15 H6=>
opP (zda t0) fun t17=>
opP (zca 1 t17) fun t18=>
opP (zJa 2 1 t18 (.int .i64 0)) fun t19=>
opW (zba t19 H6) fun t20 H11=>
wCall P zcc [t15,t20] H11 fun t21 H13=>
opP (zda t0) fun t23=>
opP (zca 0 t23) fun t24=>
opW (zba t24 H13) fun t25 H17=>
zrc (zjc H11 H13) (zNa [t24])∧(opP (zda t0) fun t27=>
opP (zca 1 t27) fun t28=>
opP (zJa 2 1 t28 (.int .i64 1)) fun t29=>
opW (zba t29 H17) fun t30 H22=>
zrc (zjc H11 H13) (zNa [t29])∧(wCall P zcc [t25,t30] H22 fun t31 H24=>
opW (zwe H24 (zNH [t21,t31])) fun t32 H26=>
opP ((zsa P .leq 3 false).f t7 t32) fun t33=>
opP (zra t9 t33 (.bool false)) fun t34=>
K t34 H26))) (
opP (zra t9 undef (.bool false)) fun t34_1=>
K t34_1 H1)
theorem zgj{t0 t1:Value}{H:Heap}{K:VH}(h:zog t0 t1 H K):wCall P zfd [t0,t1] H K:=zea rfl (Eq.mpr (by kernel_rfl) h)
noncomputable abbrev zxj:Code:=zOa P zQe 0
def zyj(l:List Value)(H:Heap)(N:LN)(Qx:LX)(Qr:LN):Prop:=
opP ((zsa P .lss 3 false).f (nth l 4) (nth l 3)) fun t17=>
wIf t17 (
wCall P zNe [(nth l 0),(nth l 1),(nth l 4)] H fun t23 H2=>
opP (zNb 0 t23) fun t24=>
opP (zNb 1 t23) fun t25=>
zlb (zc P 94) H2 fun t6 H6=>
opW (zka 64 t6 t24 H6) fun u H8=>
opW (zna 64 t6 H8) fun t26 H10=>
wCall P zIb [] H10 fun t27 H12=>
zrc (zjc H10 H12) (zNa [t6])∧(opP ((zsa P .eql 94 false).f t26 t27) fun t28=>
wIf t28 (
opP ((zsa P .add 3 true).f (nth l 4) (.int .i64 1)) fun t36=>
N [(nth l 0),(nth l 1),(nth l 2),(nth l 3),t36] H12) (
wCall P zgg [(nth l 0),(nth l 1),(nth l 4)] H12 fun t32 H16=>
opP ((zsa P .neq 38 true).f t32 (.int .i64 0)) fun t34=>
wIf t34 (
Qr [t32] H16) (
opP ((zsa P .add 3 true).f (nth l 4) (.int .i64 1)) fun t36_1=>
N [(nth l 0),(nth l 1),(nth l 2),(nth l 3),t36_1] H16)))) (
Qx 0 [(nth l 2)] H)
theorem zrl:LpI P 37 zxj 16 zyj:=.mk (by kernel_rfl) fun l H N Qx Qr=>by kernel_rfl
def zdo(t0 t1:Value)(H:Heap)(K:VH):Prop:=
wCall P zVd [t0,t1] H fun t11 H1=>
opP (unA .not t11) fun t12=>
wIf t12 (
K (.int .i64 71) H1) (
wCall P zcc [t0,t1] H1 fun t15 H4=>
zdb P true 37 zxj 16 [t0,t1,(.int .i64 0),t15,(.int .i64 0)] H4 (fun id l H6=>
cond (Nat.beq id 0) (
K (.int .i64 0) H6) (
False)) (fun l H6=>
K (nth l 0) H6))
theorem zer{t0 t1:Value}{H:Heap}{K:VH}(h:zdo t0 t1 H K):wCall P zQe [t0,t1] H K:=zea rfl (Eq.mpr (by kernel_rfl) h)
def zeo(t0:Value)(H:Heap)(K:VH):Prop:=
opP (zda t0) fun t4=>
opP (zca 0 t4) fun t5=>
opW (zba t5 H) fun t6 H3=>
wCall P zQc [t6] H3 fun t7 H5=>
K t7 H5
theorem zfr{t0:Value}{H:Heap}{K:VH}(h:zeo t0 H K):wCall P zRe [t0] H K:=zea rfl (Eq.mpr (by kernel_rfl) h)
noncomputable abbrev zoq:Code:=zOa P zPg 0
noncomputable abbrev ztk:Code:=zOa P zPg 1
def zpq(l:List Value)(H:Heap)(N:LN)(Qx:LX)(Qr:LN):Prop:=
opW (lenSl (nth l 2) H) fun t23 H1=>
opP ((zsa P .lss 3 false).f (nth l 3) t23) fun t24=>
wIf t24 (
opP ((zAa P 94).f []) fun t27=>
zlb (zc P 94) H1 fun t10 H5=>
opW (zka 64 t10 t27 H5) fun u H7=>
zdb P true 45 ztk 1984 [(nth l 0),(nth l 1),(nth l 2),(nth l 3),t10,(.int .i64 0)] H7 (fun id l_1 H9=>
cond (Nat.beq id 2) (
opW (zna 64 (nth l_1 4) H9) fun t41 H11=>
opW ((zpa P 99 1).f [(0,t41)] H11) fun t42 H13=>
opW (zva 64 64 (nth l_1 1) t42 H13) fun t43 H15=>
opP ((zsa P .add 3 true).f (nth l_1 3) (.int .i64 64)) fun t26=>
N [(nth l_1 0),t43,(nth l_1 2),t26] H15) (
cond (Nat.beq id 1) (
opP ((zsa P .add 3 true).f (nth l_1 3) (.int .i64 64)) fun t26_1=>
N [(nth l_1 0),(nth l_1 1),(nth l_1 2),t26_1] H9) (
Qx id [(nth l_1 0),(nth l_1 1)] H9))) (fun l_1 H9=>
Qr [(nth l_1 0),(nth l_1 1)] H9)) (
Qx 0 [(nth l 0),(nth l 1)] H1)
theorem zgr:LpI P 45 zoq 192 zpq:=.mk (by kernel_rfl) fun l H N Qx Qr=>by kernel_rfl
def zqq(l:List Value)(H:Heap)(N:LN)(Qx:LX)(Qr:LN):Prop:=
opP ((zsa P .lss 3 true).f (nth l 5) (.int .i64 64)) fun t29=>
wIf t29 (
opP ((zsa P .add 3 false).f (nth l 3) (nth l 5)) fun t35=>
opP (zWa 1 (nth l 2) t35) fun t36=>
opW (zba t36 H) fun t37 H4=>
opP (zJa 64 1 (nth l 4) (nth l 5)) fun t38=>
opW (zka 1 t38 t37 H4) fun u H7=>
opP ((zsa P .add 3 true).f (nth l 5) (.int .i64 1)) fun t39=>
N [(nth l 0),(nth l 1),(nth l 2),(nth l 3),(nth l 4),t39] H7) (
Qx 2 [(nth l 0),(nth l 1),(nth l 2),(nth l 3),(nth l 4)] H)
theorem zhr:LpI P 45 ztk 1984 zqq:=.mk (by kernel_rfl) fun l H N Qx Qr=>by kernel_rfl
def zJz(t0 t1 t2:Value)(H:Heap)(K:VH):Prop:=
opW ((zpa P 99 0).f [] H) fun t12 H1=>
opW (lenSl t2 H1) fun t14 H3=>
opP ((zsa P .gtr 3 true).f t14 (.int .i64 4000)) fun t15=>
wIf t15 (
K t12 H3) (
wCall P zPe [t0,t1,t2] H3 fun t20 H6=>
zdb P true 45 zoq 192 [(.slice none 0 0),t12,t20,(.int .i64 0)] H6 (fun id l H8=>
cond (Nat.beq id 0) (
K (nth l 1) H8) (
False)) (fun l H8=>
K (nth l 0) H8))
theorem zKz{t0 t1 t2:Value}{H:Heap}{K:VH}(h:zJz t0 t1 t2 H K):wCall P zPg [t0,t1,t2] H K:=zea rfl (Eq.mpr (by kernel_rfl) h)
def zfo(t0 t1 t2 t3:Value)(H:Heap)(K:VH):Prop:=
zlb (zFa t3) H fun t7 H1=>
wCall P zFd [t0,t1,t2] H1 fun t15 H3=>
opP (zNb 0 t15) fun t16=>
opP (zNb 1 t15) fun t17=>
zab (fun J=>
opP ((zsa P .eql 3 true).f t17 (.int .i64 0)) fun t19=>
wIf t19 (
opP (zda t0) fun t21=>
opP (zca 0 t21) fun t22=>
opW (zba t22 H3) fun t23 H11=>
opW (zna 64 t7 H11) fun t25 H13=>
wCall P zRg [t23,t16,t25] H13 fun t26 H15=>
J [t0,t1,t2,t26] H15) (
J [t0,t1,t2,t17] H3)) (fun l H17=>
opP ((zsa P .eql 3 true).f (nth l 3) (.int .i64 0)) fun t28=>
wIf t28 (
opP (zda (nth l 0)) fun t31=>
opP (zca 3 t31) fun t32=>
opW (zba t32 H17) fun t33 H22=>
opP (zda (nth l 0)) fun t37=>
opP (zca 2 t37) fun t38=>
opW (zba t38 H22) fun t39 H26=>
opP ((zAa P 121).f [(0,(.int .i64 2)),(1,(nth l 1)),(2,(nth l 2)),(3,t39)]) fun t40=>
opW ((zpa P 46 1).f [(0,t40)] H26) fun t41 H29=>
opW (zva 4 32 t33 t41 H29) fun t42 H31=>
opP (zda (nth l 0)) fun t43=>
opP (zca 3 t43) fun t44=>
opW (zka 1 t44 t42 H31) fun u H35=>
K (nth l 3) H35) (
K (nth l 3) H17))
theorem zir{t0 t1 t2 t3:Value}{H:Heap}{K:VH}(h:zfo t0 t1 t2 t3 H K):wCall P zQg [t0,t1,t2,t3] H K:=zea rfl (Eq.mpr (by kernel_rfl) h)
def zqt(t0 t1 t2:Value)(H:Heap)(K:VH):Prop:=
wCall P zFd [t0,t1,t2] H fun t13 H1=>
opP (zNb 0 t13) fun t14=>
opP (zNb 1 t13) fun t15=>
zab (fun J=>
opP ((zsa P .eql 3 true).f t15 (.int .i64 0)) fun t17=>
wIf t17 (
opP (zda t0) fun t19=>
opP (zca 0 t19) fun t20=>
opW (zba t20 H1) fun t21 H9=>
wCall P zaj [t21,t14] H9 fun t23 H11=>
J [t0,t1,t2,t23] H11) (
J [t0,t1,t2,t15] H1)) (fun l H13=>
opP ((zsa P .eql 3 true).f (nth l 3) (.int .i64 0)) fun t25=>
wIf t25 (
opP (zda (nth l 0)) fun t28=>
opP (zca 3 t28) fun t29=>
opW (zba t29 H13) fun t30 H18=>
opP (zda (nth l 0)) fun t34=>
opP (zca 2 t34) fun t35=>
opW (zba t35 H18) fun t36 H22=>
opP ((zAa P 121).f [(0,(.int .i64 1)),(1,(nth l 1)),(2,(nth l 2)),(3,t36)]) fun t37=>
opW ((zpa P 46 1).f [(0,t37)] H22) fun t38 H25=>
opW (zva 4 32 t30 t38 H25) fun t39 H27=>
opP (zda (nth l 0)) fun t40=>
opP (zca 3 t40) fun t41=>
opW (zka 1 t41 t39 H27) fun u H31=>
K (nth l 3) H31) (
K (nth l 3) H13))
theorem zQu{t0 t1 t2:Value}{H:Heap}{K:VH}(h:zqt t0 t1 t2 H K):wCall P zZi [t0,t1,t2] H K:=zea rfl (Eq.mpr (by kernel_rfl) h)
def zrt(t0:Value)(H:Heap)(K:VH):Prop:=
zab (fun J=>
opP (zda t0) fun t4=>
opP (zca 4 t4) fun t5=>
opW (zba t5 H) fun t6 H4=>
wIf t6 (
opP (zda t0) fun t9=>
opP (zca 5 t9) fun t10=>
opW (zba t10 H4) fun t11 H8=>
opP ((zsa P .eql 3 true).f t11 (.int .i64 0)) fun t12=>
opP (zra t6 t12 (.bool false)) fun t13=>
J [t0,t13] H8) (
opP (zra t6 undef (.bool false)) fun t13_1=>
J [t0,t13_1] H4)) (fun l H13=>
wIf (nth l 1) (
opP (zda (nth l 0)) fun t15=>
opP (zca 6 t15) fun t16=>
opW (zka 1 t16 (.bool true) H13) fun u H17=>
K (.bool false) H17) (
opP (zda (nth l 0)) fun t18=>
opP (zca 4 t18) fun t19=>
opW (zba t19 H13) fun t20 H21=>
wIf t20 (
opP (zda (nth l 0)) fun t22=>
opP (zca 5 t22) fun t23=>
opW (zba t23 H21) fun t24 H25=>
opP ((zsa P .sub 3 true).f t24 (.int .i64 1)) fun t25=>
opP (zda (nth l 0)) fun t26=>
opP (zca 5 t26) fun t27=>
opW (zka 1 t27 t25 H25) fun u_1 H30=>
K (.bool true) H30) (
K (.bool true) H21)))
theorem zRu{t0:Value}{H:Heap}{K:VH}(h:zrt t0 H K):wCall P zSe [t0] H K:=zea rfl (Eq.mpr (by kernel_rfl) h)
def zrq(t0 t1:Value)(H:Heap)(K:VH):Prop:=
opP ((zsa P .geq 3 true).f t1 (.int .i64 0)) fun t6=>
wIf t6 (
opP (zda t0) fun t10=>
opP (zca 1 t10) fun t11=>
opW (zba t11 H) fun t12 H4=>
opW (lenSl t12 H4) fun t13 H6=>
opP ((zsa P .lss 3 false).f t1 t13) fun t14=>
opP (zra t6 t14 (.bool false)) fun t15=>
K t15 H6) (
opP (zra t6 undef (.bool false)) fun t15_1=>
K t15_1 H)
theorem zst{t0 t1:Value}{H:Heap}{K:VH}(h:zrq t0 t1 H K):wCall P zVd [t0,t1] H K:=zea rfl (Eq.mpr (by kernel_rfl) h)
def zem(t0 t1 t2:Value)(H:Heap)(K:VH):Prop:=
wCall P zVd [t0,t1] H fun t11 H1=>
opP (unA .not t11) fun t12=>
wIf t12 (
K (.tuple [(.int .i64 0),(.int .i64 71)].toArray) H1) (
zab (fun J=>
opP ((zsa P .lss 3 true).f t2 (.int .i64 0)) fun t15=>
wIf t15 (
opP (zra t15 (.bool true) undef) fun t27=>
J [t0,t1,t2,t27] H1) (
opP (zda t0) fun t19=>
opP (zca 1 t19) fun t20=>
opW (zba t20 H1) fun t21 H9=>
opP (zWa 2 t21 t1) fun t23=>
opP (zca 1 t23) fun t24=>
opW (zba t24 H9) fun t25 H13=>
opP ((zsa P .geq 3 false).f t2 t25) fun t26=>
opP (zra t15 (.bool true) t26) fun t27_1=>
J [t0,t1,t2,t27_1] H13)) (fun l H17=>
wIf (nth l 3) (
K (.tuple [(.int .i64 0),(.int .i64 61)].toArray) H17) (
opP (zda (nth l 0)) fun t29=>
opP (zca 1 t29) fun t30=>
opW (zba t30 H17) fun t31 H21=>
opP (zWa 2 t31 (nth l 1)) fun t33=>
opP (zca 0 t33) fun t34=>
opW (zba t34 H21) fun t35 H25=>
opP ((zsa P .add 3 false).f t35 (nth l 2)) fun t37=>
K (.tuple [t37,(.int .i64 0)].toArray) H25)))
theorem zkp{t0 t1 t2:Value}{H:Heap}{K:VH}(h:zem t0 t1 t2 H K):wCall P zWc [t0,t1,t2] H K:=zea rfl (Eq.mpr (by kernel_rfl) h)
def zni(t0 t1:Value)(H:Heap)(K:VH):Prop:=
zlb (zc P 94) H fun t4 H1=>
wCall P zdc [t0,t1] H1 fun t9 H3=>
opP ((zsa P .eql 224 true).f t9 (.pointer none)) fun t11=>
wIf t11 (
opP ((zAa P 94).f []) fun t12=>
opW (zka 64 t4 t12 H3) fun u H7=>
opW (zna 64 t4 H7) fun r _=>
K (.tuple [r,(.int .i64 61)].toArray) H7) (
opP (zda t9) fun t14=>
opP (zca 64 t14) fun t15=>
opW (zna 64 t15 H3) fun t16 H12=>
opW (zka 64 t4 t16 H12) fun u_1 H14=>
opW (zna 64 t4 H14) fun r_1 _=>
K (.tuple [r_1,(.int .i64 0)].toArray) H14)
theorem zsl{t0 t1:Value}{H:Heap}{K:VH}(h:zni t0 t1 H K):wCall P zfe [t0,t1] H K:=zea rfl (Eq.mpr (by kernel_rfl) h)
def zkf(t0 t1:Value)(H:Heap)(K:VH):Prop:=
zlb (zFa t0) H fun t2 H1=>
zlb (zFa t1) H1 fun t3 H3=>
opW (zba t3 H3) fun t5 H5=>
opP ((zsa P .lss 3 true).f t5 (.int .i64 1)) fun t6=>
wIf t6 (
False) (
K (.func (.func zpb) [].toArray [t2,t3].toArray) H5)
theorem zPh{t0 t1:Value}{H:Heap}{K:VH}(h:zkf t0 t1 H K):wCall P zoe [t0,t1] H K:=zea rfl (Eq.mpr (by kernel_rfl) h)
def zsq(t0 t1 t2:Value)(H:Heap)(K:VH):Prop:=
opW ((zpa P 32 2).f [(0,(.int .u8 66)),(1,(.int .u8 74))] H) fun t8 H1=>
opW (zBp t8 H1) fun t9 H3=>
opW ((zpa P 32 1).f [(0,t0)] H3) fun t11 H5=>
opW (zva 1 1 t9 t11 H5) fun t12 H7=>
wCall P zUa [t12,t1,(.int .i64 8)] H7 fun t15 H9=>
opW (lenSl t2 H9) fun t17 H11=>
opW (zob .u64 t17 H11) fun t18 H13=>
wCall P zUa [t15,t18,(.int .i64 2)] H13 fun t19 H15=>
opW ((zpa P 104 1).f [(0,t2)] H15) fun t21 H17=>
wCall P zzf [t19,t21] H17 fun t22 H19=>
opW ((zpa P 104 1).f [(0,t22)] H19) fun t25 H21=>
wCall P ztn [t25] H21 fun t26 H23=>
opW (zob .u64 t26 H23) fun t27 H25=>
wCall P zUa [t22,t27,(.int .i64 4)] H25 fun t28 H27=>
K t28 H27
theorem ztt{t0 t1 t2:Value}{H:Heap}{K:VH}(h:zsq t0 t1 t2 H K):wCall P zMh [t0,t1,t2] H K:=zea rfl (Eq.mpr (by kernel_rfl) h)
noncomputable abbrev zEc:Code:=zOa P zcb 0
def zFc(l:List Value)(H:Heap)(N:LN)(Qx:LX)(Qr:LN):Prop:=
opP ((zsa P .geq 3 true).f (nth l 2) (.int .i64 0)) fun t8=>
wIf t8 (
opW (zba (nth l 1) H) fun t13 H2=>
opP (zWa 1 t13 (nth l 2)) fun t15=>
opW (zba t15 H2) fun t16 H5=>
zzK P (zFh (nth l 0) [(nth l 2),t16]) H5 fun t17 H7=>
opP (unA .not t17) fun t18=>
wIf t18 (
Qr [] H7) (
opP ((zsa P .sub 3 true).f (nth l 2) (.int .i64 1)) fun t10=>
N [(nth l 0),(nth l 1),t10] H7)) (
Qx 0 [] H)
theorem zxe:LpI P 19 zEc 0 zFc:=.mk (by kernel_rfl) fun l H N Qx Qr=>by kernel_rfl
def zvd(t0 t1:Value)(H:Heap)(K:VH):Prop:=
opW (zba t1 H) fun t4 H1=>
opW (lenSl t4 H1) fun t5 H3=>
opP ((zsa P .sub 3 true).f t5 (.int .i64 1)) fun t6=>
zdb P true 19 zEc 0 [t0,t1,t6] H3 (fun id l H6=>
cond (Nat.beq id 0) (
K (.tuple [].toArray) H6) (
False)) (fun l H6=>
K (.tuple [].toArray) H6)
theorem zVf{t0 t1:Value}{H:Heap}{K:VH}(h:zvd t0 t1 H K):wCall P zcb [t0,t1] H K:=zea rfl (Eq.mpr (by kernel_rfl) h)
def zzj(t0 t1:Value)(H:Heap)(K:VH):Prop:=
opP (zda t0) fun t5=>
opP (zca 1 t5) fun t6=>
opW (zba t6 H) fun t7 H3=>
opP ((zsa P .eql 38 true).f t7 (.int .i64 0)) fun t8=>
wIf t8 (
opP (zda t0) fun t11=>
opP (zca 1 t11) fun t12=>
opW (zka 1 t12 t1 H3) fun u H8=>
opP (zda t0) fun t14=>
opP (zca 0 t14) fun t15=>
opW (zka 1 t15 (.slice none 0 0) H8) fun u_1 H12=>
K (.tuple [].toArray) H12) (
opP (zda t0) fun t14_1=>
opP (zca 0 t14_1) fun t15_1=>
opW (zka 1 t15_1 (.slice none 0 0) H3) fun u_2 H16=>
K (.tuple [].toArray) H16)
theorem zKm{t0 t1:Value}{H:Heap}{K:VH}(h:zzj t0 t1 H K):wCall P zTe [t0,t1] H K:=zea rfl (Eq.mpr (by kernel_rfl) h)
noncomputable abbrev zfm:Code:=zOa P zFd 0
def zgm(l:List Value)(H:Heap)(N:LN)(Qx:LX)(Qr:LN):Prop:=
opP ((zsa P .lss 3 false).f (nth l 5) (nth l 1)) fun t37=>
wIf t37 (
opP (zda (nth l 0)) fun t42=>
opP (zca 1 t42) fun t43=>
opW (zba t43 H) fun t44 H4=>
opP (zWa 1 t44 (nth l 5)) fun t46=>
opW (zba t46 H4) fun t47 H7=>
opP ((zsa P .add 3 false).f (nth l 4) t47) fun t48=>
opP ((zsa P .add 3 true).f (nth l 5) (.int .i64 1)) fun t39=>
N [(nth l 0),(nth l 1),(nth l 2),(nth l 3),t48,t39] H7) (
Qx 0 [(nth l 2),(nth l 3),(nth l 4)] H)
theorem zgo:LpI P 50 zfm 448 zgm:=.mk (by kernel_rfl) fun l H N Qx Qr=>by kernel_rfl
def zut(t0 t1 t2:Value)(H:Heap)(K:VH):Prop:=
zab (fun J=>
opP ((zsa P .lss 3 true).f t1 (.int .i64 0)) fun t11=>
wIf t11 (
opP (zra t11 (.bool true) undef) fun t20=>
J [t0,t1,t2,(.int .i64 0),(.int .i64 0),t20] H) (
opP (zda t0) fun t15=>
opP (zca 1 t15) fun t16=>
opW (zba t16 H) fun t17 H6=>
opW (lenSl t17 H6) fun t18 H8=>
opP ((zsa P .geq 3 false).f t1 t18) fun t19=>
opP (zra t11 (.bool true) t19) fun t20_1=>
J [t0,t1,t2,(.int .i64 0),(.int .i64 0),t20_1] H8)) (fun l H12=>
wIf (nth l 5) (
K (.tuple [(.int .i64 0),(.int .i64 71)].toArray) H12) (
zab (fun J_1=>
opP ((zsa P .lss 3 true).f (nth l 2) (.int .i64 0)) fun t22=>
wIf t22 (
opP (zra t22 (.bool true) undef) fun t33=>
J_1 [(nth l 0),(nth l 1),(nth l 2),(nth l 3),(nth l 4),t33] H12) (
opP (zda (nth l 0)) fun t26=>
opP (zca 1 t26) fun t27=>
opW (zba t27 H12) fun t28 H19=>
opP (zWa 1 t28 (nth l 1)) fun t30=>
opW (zba t30 H19) fun t31 H22=>
opP ((zsa P .geq 3 false).f (nth l 2) t31) fun t32=>
opP (zra t22 (.bool true) t32) fun t33_1=>
J_1 [(nth l 0),(nth l 1),(nth l 2),(nth l 3),(nth l 4),t33_1] H22)) (fun l_1 H26=>
wIf (nth l_1 5) (
K (.tuple [(.int .i64 0),(.int .i64 61)].toArray) H26) (
zdb P true 50 zfm 448 [(nth l_1 0),(nth l_1 1),(nth l_1 3),(nth l_1 4),(nth l_1 2),(.int .i64 0)] H26 (fun id l_2 H28=>
cond (Nat.beq id 0) (
K (.tuple [(nth l_2 2),(.int .i64 0)].toArray) H28) (
False)) (fun l_2 H28=>
K (.tuple [(nth l_2 0),(nth l_2 1)].toArray) H28)))))
theorem zSu{t0 t1 t2:Value}{H:Heap}{K:VH}(h:zut t0 t1 t2 H K):wCall P zFd [t0,t1,t2] H K:=zea rfl (Eq.mpr (by kernel_rfl) h)
noncomputable abbrev zho:Code:=zOa P zRf 0
def zio(l:List Value)(H:Heap)(N:LN)(Qx:LX)(Qr:LN):Prop:=
opP ((zsa P .lss 3 false).f (nth l 6) (nth l 5)) fun t27=>
wIf t27 (
opP (zWa 65 (nth l 4) (nth l 6)) fun t28=>
opW (zna 65 t28 H) fun t29 H3=>
zlb (zc P 125) H3 fun t8 H5=>
opW (zka 65 t8 t29 H5) fun u H7=>
opP (zca 0 t8) fun t30=>
opW (zba t30 H7) fun t31 H10=>
opP ((zsa P .eql 3 false).f t31 (nth l 0)) fun t33=>
wIf t33 (
opP (zca 1 t8) fun t34=>
opW (zna 64 t34 H10) fun t35 H14=>
opW (zka 64 (nth l 3) t35 H14) fun u_1 H16=>
opP ((zsa P .add 3 true).f (nth l 6) (.int .i64 1)) fun t36=>
N [(nth l 0),(nth l 1),(nth l 2),(nth l 3),(nth l 4),(nth l 5),t36] H16) (
opP ((zsa P .add 3 true).f (nth l 6) (.int .i64 1)) fun t36_1=>
N [(nth l 0),(nth l 1),(nth l 2),(nth l 3),(nth l 4),(nth l 5),t36_1] H10)) (
Qx 0 [(nth l 1),(nth l 2),(nth l 3)] H)
theorem zlp:LpI P 38 zho 112 zio:=.mk (by kernel_rfl) fun l H N Qx Qr=>by kernel_rfl
def zaw(t0 t1:Value)(H:Heap)(K:VH):Prop:=
zlb (zc P 94) H fun t4 H1=>
wCall P zbl [t0,t1] H1 fun t11 H3=>
opP (unA .not t11) fun t12=>
wIf t12 (
opP ((zAa P 94).f []) fun t13=>
opW (zka 64 t4 t13 H3) fun u H7=>
opW (zna 64 t4 H7) fun r _=>
K (.tuple [r,(.int .i64 61)].toArray) H7) (
opP (zda t0) fun t15=>
opP (zca 0 t15) fun t16=>
opW (zba t16 H3) fun t17 H12=>
opP (zWa 64 t17 t1) fun t19=>
opW (zna 64 t19 H12) fun t20 H15=>
zlb (zc P 94) H15 fun t6 H17=>
opW (zka 64 t6 t20 H17) fun u_1 H19=>
opP (zda t0) fun t22=>
opP (zca 3 t22) fun t23=>
opW (zba t23 H19) fun t24 H23=>
opW (lenSl t24 H23) fun t25 H25=>
zdb P true 38 zho 112 [t1,t4,(.int .i64 0),t6,t24,t25,(.int .i64 0)] H25 (fun id l H27=>
cond (Nat.beq id 0) (
opW (zna 64 (nth l 2) H27) fun t37 H29=>
opW (zka 64 (nth l 0) t37 H29) fun u_2 H31=>
opW (zna 64 (nth l 0) H31) fun r_1 _=>
K (.tuple [r_1,(.int .i64 0)].toArray) H31) (
False)) (fun l H27=>
opW (zna 64 (nth l 0) H27) fun r_2 _=>
K (.tuple [r_2,(nth l 1)].toArray) H27))
theorem zvx{t0 t1:Value}{H:Heap}{K:VH}(h:zaw t0 t1 H K):wCall P zRf [t0,t1] H K:=zea rfl (Eq.mpr (by kernel_rfl) h)
noncomputable abbrev zhm:Code:=zOa P zAg 0
def zim(l:List Value)(H:Heap)(N:LN)(Qx:LX)(Qr:LN):Prop:=
opW (lenSl (nth l 1) H) fun t33 H1=>
opP ((zsa P .rem 3 true).f t33 (.int .i64 63)) fun t34=>
opP ((zsa P .neq 3 true).f t34 (.int .i64 0)) fun t35=>
wIf t35 (
opW ((zpa P 32 1).f [(0,(.int .u8 255))] H1) fun t37 H5=>
opW (zva 1 1 (nth l 1) t37 H5) fun t38 H7=>
N [(nth l 0),t38] H7) (
Qx 0 [(nth l 0),(nth l 1)] H1)
theorem zjo:LpI P 40 zhm 192 zim:=.mk (by kernel_rfl) fun l H N Qx Qr=>by kernel_rfl
def zvt(t0 t1 t2:Value)(H:Heap)(K:VH):Prop:=
opW ((zpa P 32 2).f [(0,(.int .u8 66)),(1,(.int .u8 74))] H) fun t8 H1=>
opW (zBp t8 H1) fun t9 H3=>
opW ((zpa P 32 1).f [(0,t0)] H3) fun t11 H5=>
opW (zva 1 1 t9 t11 H5) fun t12 H7=>
wCall P zJb [t1,(.int .i64 8)] H7 fun t15 H9=>
opW (zva 1 1 t12 t15 H9) fun t16 H11=>
opW (lenSl t2 H11) fun t19 H13=>
opW (zob .u64 t19 H13) fun t20 H15=>
wCall P zJb [t20,(.int .i64 2)] H15 fun t21 H17=>
opW (zva 1 1 t16 t21 H17) fun t22 H19=>
opW (zva 1 1 t22 t2 H19) fun t25 H21=>
wCall P ztc [t25] H21 fun t28 H23=>
opW (zob .u64 t28 H23) fun t29 H25=>
wCall P zJb [t29,(.int .i64 4)] H25 fun t30 H27=>
opW (zva 1 1 t25 t30 H27) fun t31 H29=>
zdb P true 40 zhm 192 [(.slice none 0 0),t31] H29 (fun id l H31=>
cond (Nat.beq id 0) (
K (nth l 1) H31) (
False)) (fun l H31=>
K (nth l 0) H31)
theorem zTu{t0 t1 t2:Value}{H:Heap}{K:VH}(h:zvt t0 t1 t2 H K):wCall P zAg [t0,t1,t2] H K:=zea rfl (Eq.mpr (by kernel_rfl) h)
def zAj(t0 t1 t2 t3:Value)(H:Heap)(K:VH):Prop:=
zlb (zFa t3) H fun t7 H1=>
wCall P zWc [t0,t1,t2] H1 fun t15 H3=>
opP (zNb 0 t15) fun t16=>
opP (zNb 1 t15) fun t17=>
opP ((zsa P .neq 38 true).f t17 (.int .i64 0)) fun t19=>
wIf t19 (
K t17 H3) (
opP ((zAa P 121).f [(0,(.int .i64 2)),(1,t1),(2,t2)]) fun t24=>
opP (zda t0) fun t26=>
opP (zca 0 t26) fun t27=>
opW (zba t27 H3) fun t28 H11=>
opW (zna 64 t7 H11) fun t30 H13=>
wCall P zgd [t28,t16,t30] H13 fun t31 H15=>
wCall P zVe [t0,t24,t31] H15 fun t32 H17=>
K t32 H17)
theorem zLm{t0 t1 t2 t3:Value}{H:Heap}{K:VH}(h:zAj t0 t1 t2 t3 H K):wCall P zUe [t0,t1,t2,t3] H K:=zea rfl (Eq.mpr (by kernel_rfl) h)
noncomputable abbrev zId:Code:=zOa P zeb 0
noncomputable abbrev zJd:Code:=zOa P zeb 1
def zKd(l:List Value)(H:Heap)(N:LN)(Qx:LX)(Qr:LN):Prop:=
opP ((zsa P .lss 3 false).f (nth l 5) (nth l 4)) fun t12=>
wIf t12 (
opP (zWa 1 (nth l 3) (nth l 5)) fun t13=>
opW (zba t13 H) fun t14 H3=>
opW (lenSl t14 H3) fun t17 H5=>
opP ((zsa P .add 3 false).f (nth l 2) t17) fun t18=>
opP ((zsa P .lss 3 true).f t18 (.int .i64 0)) fun t20=>
wIf t20 (
False) (
opP ((zsa P .add 3 true).f (nth l 5) (.int .i64 1)) fun t22=>
N [(nth l 0),(nth l 1),t18,(nth l 3),(nth l 4),t22] H5)) (
Qx 0 [(nth l 0),(nth l 1),(nth l 2)] H)
theorem zWf:LpI P 36 zId 13 zKd:=.mk (by kernel_rfl) fun l H N Qx Qr=>by kernel_rfl
def zLd(l:List Value)(H:Heap)(N:LN)(Qx:LX)(Qr:LN):Prop:=
opP ((zsa P .lss 3 false).f (nth l 4) (nth l 3)) fun t28=>
wIf t28 (
opP (zWa 1 (nth l 2) (nth l 4)) fun t29=>
opW (zba t29 H) fun t30 H3=>
opW (zva 1 1 (nth l 1) t30 H3) fun t33 H5=>
opP ((zsa P .add 3 true).f (nth l 4) (.int .i64 1)) fun t34=>
N [(nth l 0),t33,(nth l 2),(nth l 3),t34] H5) (
Qx 2 [(nth l 0),(nth l 1)] H)
theorem zXf:LpI P 36 zJd 68 zLd:=.mk (by kernel_rfl) fun l H N Qx Qr=>by kernel_rfl
def zaf(t0:Value)(H:Heap)(K:VH):Prop:=
opW (lenSl t0 H) fun t10 H1=>
zdb P true 36 zId 13 [t0,(.slice none 0 0),(.int .i64 0),t0,t10,(.int .i64 0)] H1 (fun id l H3=>
cond (Nat.beq id 0) (
wCall P zRc [(.slice none 0 0),(nth l 2)] H3 fun t24 H5=>
opW (lenSl (nth l 0) H5) fun t26 H7=>
zdb P true 36 zJd 68 [(nth l 1),t24,(nth l 0),t26,(.int .i64 0)] H7 (fun id l_1 H9=>
cond (Nat.beq id 2) (
K (nth l_1 1) H9) (
False)) (fun l_1 H9=>
K (nth l_1 0) H9)) (
False)) (fun l H3=>
K (nth l 1) H3)
theorem zjh{t0:Value}{H:Heap}{K:VH}(h:zaf t0 H K):wCall P zeb [t0] H K:=zea rfl (Eq.mpr (by kernel_rfl) h)
def zjm(t0 t1 t2:Value)(H:Heap)(K:VH):Prop:=
wCall P zWc [t0,t1,t2] H fun t13 H1=>
opP (zNb 0 t13) fun t14=>
opP (zNb 1 t13) fun t15=>
opP ((zsa P .neq 38 true).f t15 (.int .i64 0)) fun t17=>
wIf t17 (
K t15 H1) (
opP ((zAa P 121).f [(0,(.int .i64 1)),(1,t1),(2,t2)]) fun t22=>
opP (zda t0) fun t24=>
opP (zca 0 t24) fun t25=>
opW (zba t25 H1) fun t26 H9=>
wCall P zNd [t26,t14] H9 fun t28 H11=>
wCall P zVe [t0,t22,t28] H11 fun t29 H13=>
K t29 H13)
theorem zmp{t0 t1 t2:Value}{H:Heap}{K:VH}(h:zjm t0 t1 t2 H K):wCall P zgg [t0,t1,t2] H K:=zea rfl (Eq.mpr (by kernel_rfl) h)
noncomputable abbrev zpg:Code:=zOa P zQc 0
def zqg(l:List Value)(H:Heap)(N:LN)(Qx:LX)(Qr:LN):Prop:=
opP ((zsa P .lss 3 false).f (nth l 4) (nth l 3)) fun t20=>
wIf t20 (
opP (zWa 65 (nth l 2) (nth l 4)) fun t21=>
opW (zna 65 t21 H) fun t22 H3=>
zlb (zc P 123) H3 fun t4 H5=>
opW (zka 65 t4 t22 H5) fun u H7=>
opP (zda (nth l 0)) fun t24=>
opP (zca 0 t24) fun t25=>
opW (zba t25 H7) fun t26 H11=>
opP (zca 0 t4) fun t27=>
opW (zba t27 H11) fun t28 H14=>
opP (zca 1 t4) fun t29=>
opW (zna 64 t29 H14) fun t30 H17=>
opP (zWa 129 t26 t28) fun t31=>
opP (zca 0 t31) fun t32=>
opW (zka 64 t32 t30 H17) fun u_1 H21=>
opP ((zsa P .add 3 true).f (nth l 4) (.int .i64 1)) fun t33=>
N [(nth l 0),(nth l 1),(nth l 2),(nth l 3),t33] H21) (
Qx 0 [(nth l 0),(nth l 1)] H)
theorem zoi:LpI P 37 zpg 5 zqg:=.mk (by kernel_rfl) fun l H N Qx Qr=>by kernel_rfl
def zpi(t0:Value)(H:Heap)(K:VH):Prop:=
zab (fun J=>
opP (zda t0) fun t6=>
opP (zca 4 t6) fun t7=>
opW (zba t7 H) fun t8 H4=>
wIf t8 (
opP (zra t8 (.bool true) undef) fun t13=>
wIf t13 (
K (.int .i64 62) H4) (
J [t0,(.int .i64 0)] H4)) (
wCall P zGb [t0] H4 fun t11 H7=>
opP (unA .not t11) fun t12=>
opP (zra t8 (.bool true) t12) fun t13_1=>
wIf t13_1 (
K (.int .i64 62) H7) (
J [t0,(.int .i64 0)] H7))) (fun l H11=>
opP (zda (nth l 0)) fun t15=>
opP (zca 1 t15) fun t16=>
opW (zba t16 H11) fun t17 H15=>
opW (lenSl t17 H15) fun t18 H17=>
zdb P true 37 zpg 5 [(nth l 0),(nth l 1),t17,t18,(.int .i64 0)] H17 (fun id l_1 H19=>
cond (Nat.beq id 0) (
opP (zda (nth l_1 0)) fun t35=>
opP (zca 1 t35) fun t36=>
opW (zka 1 t36 (.slice none 0 0) H19) fun u H23=>
K (.int .i64 0) H23) (
False)) (fun l_1 H19=>
K (nth l_1 1) H19))
theorem ztl{t0:Value}{H:Heap}{K:VH}(h:zpi t0 H K):wCall P zQc [t0] H K:=zea rfl (Eq.mpr (by kernel_rfl) h)
def zko(t0 t1 t2:Value)(H:Heap)(K:VH):Prop:=
zlb (zFa t2) H fun t5 H1=>
wCall P zRf [t0,t1] H1 fun t12 H3=>
opP (zNb 0 t12) fun t13=>
opP (zNb 1 t12) fun t14=>
zlb (zc P 94) H3 fun t7 H7=>
opW (zka 64 t7 t13 H7) fun u H9=>
opP ((zsa P .neq 3 true).f t14 (.int .i64 0)) fun t16=>
wIf t16 (
K t14 H9) (
opP (zda t0) fun t19=>
opP (zca 6 t19) fun t20=>
opW (zba t20 H9) fun t21 H14=>
wIf t21 (
K (.int .i64 62) H14) (
opW (zna 64 t7 H14) fun t22 H16=>
wCall P zLc [] H16 fun t23 H18=>
zrc (zjc H16 H18) (zNa [t7])∧(opP ((zsa P .neq 94 false).f t22 t23) fun t24=>
wIf t24 (
K (.int .i64 63) H18) (
wCall P zSe [t0] H18 fun t26 H21=>
opP (unA .not t26) fun t27=>
wIf t27 (
K (.int .i64 62) H21) (
opP (zda t0) fun t30=>
opP (zca 3 t30) fun t31=>
opW (zba t31 H21) fun t32 H26=>
opW (zna 64 t5 H26) fun t34 H28=>
opP ((zAa P 125).f [(0,t1),(1,t34)]) fun t35=>
opW ((zpa P 100 1).f [(0,t35)] H28) fun t36 H31=>
opW (zva 65 72 t32 t36 H31) fun t37 H33=>
opP (zda t0) fun t38=>
opP (zca 3 t38) fun t39=>
opW (zka 1 t39 t37 H33) fun u_1 H37=>
K (.int .i64 0) H37)))))
theorem zjr{t0 t1 t2:Value}{H:Heap}{K:VH}(h:zko t0 t1 t2 H K):wCall P zRg [t0,t1,t2] H K:=zea rfl (Eq.mpr (by kernel_rfl) h)
def zwt(t0 t1:Value)(H:Heap)(K:VH):Prop:=
wCall P zbl [t0,t1] H fun t7 H1=>
opP (unA .not t7) fun t8=>
wIf t8 (
K (.int .i64 61) H1) (
opP (zda t0) fun t10=>
opP (zca 6 t10) fun t11=>
opW (zba t11 H1) fun t12 H6=>
wIf t12 (
K (.int .i64 62) H6) (
opP (zda t0) fun t14=>
opP (zca 1 t14) fun t15=>
opW (zba t15 H6) fun t16 H10=>
opP (zWa 1 t16 t1) fun t18=>
opW (zba t18 H10) fun t19 H13=>
opP (zda t0) fun t21=>
opP (zca 2 t21) fun t22=>
opW (zba t22 H13) fun t23 H17=>
opP ((zsa P .eql 3 false).f t19 t23) fun t24=>
wIf t24 (
K (.int .i64 64) H17) (
wCall P zSe [t0] H17 fun t26 H20=>
opP (unA .not t26) fun t27=>
wIf t27 (
K (.int .i64 62) H20) (
opP (zda t0) fun t29=>
opP (zca 1 t29) fun t30=>
opW (zba t30 H20) fun t31 H25=>
opP (zWa 1 t31 t1) fun t33=>
opW (zba t33 H25) fun t34 H28=>
opP ((zsa P .add 3 true).f t34 (.int .i64 1)) fun t35=>
opP (zWa 1 t31 t1) fun t36=>
opW (zka 1 t36 t35 H28) fun u H32=>
opP (zda t0) fun t39=>
opP (zca 3 t39) fun t40=>
opW (zba t40 H32) fun t41 H36=>
wCall P zLc [] H36 fun t43 H38=>
zrc (zjc H36 H38) (zNa [t40])∧(opP ((zAa P 125).f [(0,t1),(1,t43)]) fun t44=>
opW ((zpa P 100 1).f [(0,t44)] H38) fun t45 H41=>
opW (zva 65 72 t41 t45 H41) fun t46 H43=>
opP (zda t0) fun t47=>
opP (zca 3 t47) fun t48=>
opW (zka 1 t48 t46 H43) fun u_1 H47=>
K (.int .i64 0) H47)))))
theorem zUu{t0 t1:Value}{H:Heap}{K:VH}(h:zwt t0 t1 H K):wCall P zaj [t0,t1] H K:=zea rfl (Eq.mpr (by kernel_rfl) h)
def zqi(t0 t1:Value)(H:Heap)(K:VH):Prop:=
zab (fun J=>
opP ((zsa P .lss 3 true).f t1 (.int .i64 0)) fun t6=>
wIf t6 (
opP (zra t6 (.bool true) undef) fun t15=>
wIf t15 (
K (.pointer none) H) (
J [t0,t1] H)) (
opP (zda t0) fun t10=>
opP (zca 0 t10) fun t11=>
opW (zba t11 H) fun t12 H6=>
opW (lenSl t12 H6) fun t13 H8=>
opP ((zsa P .geq 3 false).f t1 t13) fun t14=>
opP (zra t6 (.bool true) t14) fun t15_1=>
wIf t15_1 (
K (.pointer none) H8) (
J [t0,t1] H8))) (fun l H12=>
opP (zda (nth l 0)) fun t17=>
opP (zca 0 t17) fun t18=>
opW (zba t18 H12) fun t19 H16=>
opP (zWa 129 t19 (nth l 1)) fun t21=>
K t21 H16)
theorem zul{t0 t1:Value}{H:Heap}{K:VH}(h:zqi t0 t1 H K):wCall P zdc [t0,t1] H K:=zea rfl (Eq.mpr (by kernel_rfl) h)
noncomputable abbrev zwd:Code:=zOa P zpb 0
def zxd(l:List Value)(H:Heap)(N:LN)(Qx:LX)(Qr:LN):Prop:=
opW (zba (nth l 1) H) fun t7 H1=>
opW (lenSl t7 H1) fun t8 H3=>
opP ((zsa P .lss 3 false).f (nth l 3) t8) fun t9=>
wIf t9 (
opW (zba (nth l 2) H3) fun t13 H6=>
opW (zba (nth l 1) H6) fun t14 H8=>
opP (zLa 1 t14 (some (nth l 3)) none none) fun t16=>
opW (lenSl t16 H8) fun t17 H11=>
opW (zwe H11 (zNH [t13,t17])) fun t18 H13=>
opW (zba (nth l 1) H13) fun t20 H15=>
opP ((zsa P .add 3 false).f (nth l 3) t18) fun t24=>
opP ((zsa P .add 3 false).f (nth l 3) t18) fun t27=>
opP (zLa 1 t20 (some (nth l 3)) (some t24) (some t27)) fun t28=>
zzK P (zFh (nth l 0) [t28]) H15 fun t29 H20=>
opP (unA .not t29) fun t30=>
wIf t30 (
Qr [] H20) (
opW (zba (nth l 2) H20) fun t11 H23=>
opP ((zsa P .add 3 false).f (nth l 3) t11) fun t12=>
N [(nth l 0),(nth l 1),(nth l 2),t12] H23)) (
Qx 0 [] H3)
theorem zBf:LpI P 31 zwd 0 zxd:=.mk (by kernel_rfl) fun l H N Qx Qr=>by kernel_rfl
def zre(t0 t1 t2:Value)(H:Heap)(K:VH):Prop:=
zdb P true 31 zwd 0 [t0,t1,t2,(.int .i64 0)] H (fun id l H1=>
cond (Nat.beq id 0) (
K (.tuple [].toArray) H1) (
False)) (fun l H1=>
K (.tuple [].toArray) H1)
theorem zXg{t0 t1 t2:Value}{H:Heap}{K:VH}(h:zre t0 t1 t2 H K):wCall P zpb [t0,t1,t2] H K:=zea rfl (Eq.mpr (by kernel_rfl) h)
noncomputable abbrev zbw:Code:=zOa P ztn 0
def zcw(l:List Value)(H:Heap)(N:LN)(Qx:LX)(Qr:LN):Prop:=
opP ((zsa P .lss 3 false).f (nth l 4) (nth l 3)) fun t9=>
wIf t9 (
opP (zWa 1 (nth l 2) (nth l 4)) fun t10=>
opW (zba t10 H) fun t11 H3=>
wCall P zcl [(nth l 1),t11] H3 fun t14 H5=>
opP ((zsa P .add 3 true).f (nth l 4) (.int .i64 1)) fun t15=>
N [(nth l 0),t14,(nth l 2),(nth l 3),t15] H5) (
Qx 0 [(nth l 0),(nth l 1)] H)
theorem zVu:LpI P 17 zbw 12 zcw:=.mk (by kernel_rfl) fun l H N Qx Qr=>by kernel_rfl
def zrG(t0:Value)(H:Heap)(K:VH):Prop:=
opW (lenSl t0 H) fun t7 H1=>
zdb P true 17 zbw 12 [(.int .u32 0),(.int .u32 0),t0,t7,(.int .i64 0)] H1 (fun id l H3=>
cond (Nat.beq id 0) (
K (nth l 1) H3) (
False)) (fun l H3=>
K (nth l 0) H3)
theorem zoE{t0:Value}{H:Heap}{K:VH}(h:zrG t0 H K):wCall P ztn [t0] H K:=zea rfl (Eq.mpr (by kernel_rfl) h)
def znD(t0 t1:Value)(H:Heap)(K:VH):Prop:=
opP ((zsa P .geq 3 true).f t1 (.int .i64 0)) fun t6=>
wIf t6 (
opP (zda t0) fun t10=>
opP (zca 0 t10) fun t11=>
opW (zba t11 H) fun t12 H4=>
opW (lenSl t12 H4) fun t13 H6=>
opP ((zsa P .lss 3 false).f t1 t13) fun t14=>
opP (zra t6 t14 (.bool false)) fun t15=>
K t15 H6) (
opP (zra t6 undef (.bool false)) fun t15_1=>
K t15_1 H)
theorem zFB{t0 t1:Value}{H:Heap}{K:VH}(h:znD t0 t1 H K):wCall P zbl [t0,t1] H K:=zea rfl (Eq.mpr (by kernel_rfl) h)
noncomputable abbrev ztq:Code:=zOa P ztc 0
noncomputable abbrev zuq:Code:=zOa P ztc 1
noncomputable abbrev zuk:Code:=zOa P ztc 2
noncomputable abbrev zvk:Code:=zOa P ztc 3
noncomputable abbrev zwk:Code:=zOa P ztc 4
noncomputable abbrev zxk:Code:=zOa P ztc 5
noncomputable abbrev zvq:Code:=zOa P ztc 6
def zwq(l:List Value)(H:Heap)(N:LN)(Qx:LX)(Qr:LN):Prop:=
opP ((zsa P .lss 3 true).f (nth l 3) (.int .i64 32)) fun t19=>
wIf t19 (
opP (zJa 32 1 (nth l 2) (nth l 3)) fun t22=>
opW (zka 1 t22 (.int .i64 1) H) fun u H3=>
opP ((zsa P .add 3 true).f (nth l 3) (.int .i64 1)) fun t23=>
N [(nth l 0),(nth l 1),(nth l 2),t23] H3) (
Qx 0 [(nth l 0),(nth l 1),(nth l 2)] H)
theorem zkr:LpI P 91 ztq 13 zwq:=.mk (by kernel_rfl) fun l H N Qx Qr=>by kernel_rfl
def zxq(l:List Value)(H:Heap)(N:LN)(Qx:LX)(Qr:LN):Prop:=
opP ((zsa P .lss 3 false).f (nth l 5) (nth l 4)) fun t28=>
wIf t28 (
opP (zWa 1 (nth l 3) (nth l 5)) fun t29=>
opW (zba t29 H) fun t30 H3=>
zdb P true 91 zuk 234881068 [(nth l 0),(nth l 1),(nth l 2),t30,(.int .i64 0),(nth l 3),(nth l 4),(nth l 5)] H3 (fun id l_1 H5=>
cond (Nat.beq id 4) (
zdb P true 91 zvk 234881068 [(nth l_1 0),(nth l_1 1),(nth l_1 2),(.int .i64 0),(nth l_1 3),(nth l_1 4),(nth l_1 5)] H5 (fun id l_2 H7=>
cond (Nat.beq id 6) (
opP ((zsa P .add 3 true).f (nth l_2 5) (.int .i64 1)) fun t78=>
N [(nth l_2 0),(nth l_2 1),(nth l_2 2),(nth l_2 3),(nth l_2 4),t78] H7) (
cond (Nat.beq id 3) (
opP ((zsa P .add 3 true).f (nth l_2 5) (.int .i64 1)) fun t78_1=>
N [(nth l_2 0),(nth l_2 1),(nth l_2 2),(nth l_2 3),(nth l_2 4),t78_1] H7) (
Qx id [(nth l_2 0),(nth l_2 1)] H7))) (fun l_2 H7=>
Qr [(nth l_2 0),(nth l_2 1)] H7)) (
cond (Nat.beq id 3) (
opP ((zsa P .add 3 true).f (nth l_1 5) (.int .i64 1)) fun t78_2=>
N [(nth l_1 0),(nth l_1 1),(nth l_1 2),(nth l_1 3),(nth l_1 4),t78_2] H5) (
Qx id [(nth l_1 0),(nth l_1 1)] H5))) (fun l_1 H5=>
Qr [(nth l_1 0),(nth l_1 1)] H5)) (
Qx 2 [(nth l 0),(nth l 1)] H)
theorem zlr:LpI P 91 zuq 12 zxq:=.mk (by kernel_rfl) fun l H N Qx Qr=>by kernel_rfl
def zyq(l:List Value)(H:Heap)(N:LN)(Qx:LX)(Qr:LN):Prop:=
opP ((zsa P .lss 3 true).f (nth l 3) (.int .i64 32)) fun t81=>
wIf t81 (
opP (zWr 32 1 (zpu P 3).f (nth l 2) (nth l 3)) fun t82=>
opP ((zsa P .mul 227 true).f (.int .u32 2) (nth l 1)) fun t84=>
opP ((zsa P .sub 3 true).f (.int .i64 1) t82) fun t86=>
opW (zob .u32 t86 H) fun t87 H5=>
opP ((zsa P .add 227 false).f t84 t87) fun t88=>
opP ((zsa P .add 3 true).f (nth l 3) (.int .i64 1)) fun t89=>
N [(nth l 0),t88,(nth l 2),t89] H5) (
Qx 12 [(nth l 0),(nth l 1)] H)
theorem zmr:LpI P 91 zvq 16388 zyq:=.mk (by kernel_rfl) fun l H N Qx Qr=>by kernel_rfl
def zzq(l:List Value)(H:Heap)(N:LN)(Qx:LX)(Qr:LN):Prop:=
opP ((zsa P .lss 3 true).f (nth l 4) (.int .i64 8)) fun t32=>
wIf t32 (
opP ((zsa P .sub 3 true).f (.int .i64 31) (nth l 4)) fun t36=>
opP (zJa 32 1 (nth l 1) t36) fun t37=>
opW (zba t37 H) fun t38 H4=>
opP ((zsa P .shr 5 false).f (nth l 3) (nth l 4)) fun t41=>
opW (zob .i64 t41 H4) fun t42 H7=>
opP ((zsa P .rem 3 true).f t42 (.int .i64 2)) fun t43=>
opP ((zsa P .xor 3 false).f t38 t43) fun t44=>
opP (zJa 32 1 (nth l 1) t36) fun t45=>
opW (zka 1 t45 t44 H7) fun u H12=>
opP ((zsa P .add 3 true).f (nth l 4) (.int .i64 1)) fun t34=>
N [(nth l 0),(nth l 1),(nth l 2),(nth l 3),t34,(nth l 5),(nth l 6),(nth l 7)] H12) (
Qx 4 [(nth l 0),(nth l 1),(nth l 2),(nth l 5),(nth l 6),(nth l 7)] H)
theorem znr:LpI P 91 zuk 234881068 zzq:=.mk (by kernel_rfl) fun l H N Qx Qr=>by kernel_rfl
def zAq(l:List Value)(H:Heap)(N:LN)(Qx:LX)(Qr:LN):Prop:=
opP ((zsa P .lss 3 true).f (nth l 3) (.int .i64 8)) fun t47=>
wIf t47 (
opP (zJa 32 1 (nth l 1) (.int .i64 31)) fun t50=>
opW (zba t50 H) fun t51 H3=>
opP ((zAa P 235).f []) fun t52=>
zlb (zc P 235) H3 fun t11 H6=>
opW (zka 32 t11 t52 H6) fun u H8=>
zdb P true 91 zwk 234884652 [(nth l 0),(nth l 1),(nth l 2),(nth l 3),t51,t11,(.int .i64 1),(nth l 4),(nth l 5),(nth l 6)] H8 (fun id l_1 H10=>
cond (Nat.beq id 8) (
zdb P true 91 zxk 234883628 [(nth l_1 0),(nth l_1 1),(nth l_1 2),(nth l_1 3),(nth l_1 4),(nth l_1 5),(nth l_1 6),(nth l_1 7),(nth l_1 8),(.int .i64 0)] H10 (fun id l_2 H12=>
cond (Nat.beq id 10) (
opW (zna 32 (nth l_2 4) H12) fun t77 H14=>
opW (zka 32 (nth l_2 1) t77 H14) fun u_1 H16=>
opP ((zsa P .add 3 true).f (nth l_2 3) (.int .i64 1)) fun t49=>
N [(nth l_2 0),(nth l_2 1),(nth l_2 2),t49,(nth l_2 5),(nth l_2 6),(nth l_2 7)] H16) (
cond (Nat.beq id 7) (
opP ((zsa P .add 3 true).f (nth l_2 3) (.int .i64 1)) fun t49_1=>
N [(nth l_2 0),(nth l_2 1),(nth l_2 2),t49_1,(nth l_2 5),(nth l_2 6),(nth l_2 7)] H12) (
Qx id [(nth l_2 0),(nth l_2 1),(nth l_2 2),(nth l_2 5),(nth l_2 6),(nth l_2 7)] H12))) (fun l_2 H12=>
Qr [(nth l_2 0),(nth l_2 1),(nth l_2 2),(nth l_2 5),(nth l_2 6),(nth l_2 7)] H12)) (
cond (Nat.beq id 7) (
opP ((zsa P .add 3 true).f (nth l_1 3) (.int .i64 1)) fun t49_2=>
N [(nth l_1 0),(nth l_1 1),(nth l_1 2),t49_2,(nth l_1 6),(nth l_1 7),(nth l_1 8)] H10) (
Qx id [(nth l_1 0),(nth l_1 1),(nth l_1 2),(nth l_1 6),(nth l_1 7),(nth l_1 8)] H10))) (fun l_1 H10=>
Qr [(nth l_1 0),(nth l_1 1),(nth l_1 2),(nth l_1 6),(nth l_1 7),(nth l_1 8)] H10)) (
Qx 6 [(nth l 0),(nth l 1),(nth l 2),(nth l 4),(nth l 5),(nth l 6)] H)
theorem zor:LpI P 91 zvk 234881068 zAq:=.mk (by kernel_rfl) fun l H N Qx Qr=>by kernel_rfl
def zBq(l:List Value)(H:Heap)(N:LN)(Qx:LX)(Qr:LN):Prop:=
opP ((zsa P .lss 3 true).f (nth l 6) (.int .i64 32)) fun t54=>
wIf t54 (
opP ((zsa P .sub 3 true).f (nth l 6) (.int .i64 1)) fun t59=>
opP (zJa 32 1 (nth l 1) t59) fun t60=>
opW (zba t60 H) fun t61 H4=>
opP (zJa 32 1 (nth l 5) (nth l 6)) fun t62=>
opW (zka 1 t62 t61 H4) fun u H7=>
opP ((zsa P .add 3 true).f (nth l 6) (.int .i64 1)) fun t56=>
N [(nth l 0),(nth l 1),(nth l 2),(nth l 3),(nth l 4),(nth l 5),t56,(nth l 7),(nth l 8),(nth l 9)] H7) (
Qx 8 [(nth l 0),(nth l 1),(nth l 2),(nth l 3),(nth l 4),(nth l 5),(nth l 7),(nth l 8),(nth l 9)] H)
theorem zpr:LpI P 91 zwk 234884652 zBq:=.mk (by kernel_rfl) fun l H N Qx Qr=>by kernel_rfl
def zCq(l:List Value)(H:Heap)(N:LN)(Qx:LX)(Qr:LN):Prop:=
opP ((zsa P .lss 3 true).f (nth l 9) (.int .i64 32)) fun t64=>
wIf t64 (
opP ((zsa P .eql 3 true).f (nth l 4) (.int .i64 1)) fun t67=>
wIf t67 (
opP (zJa 32 1 (nth l 5) (nth l 9)) fun t69=>
opW (zba t69 H) fun t70 H4=>
opP (zJa 32 1 (nth l 2) (nth l 9)) fun t72=>
opW (zba t72 H4) fun t73 H7=>
opP ((zsa P .xor 3 false).f t70 t73) fun t74=>
opP (zJa 32 1 (nth l 5) (nth l 9)) fun t75=>
opW (zka 1 t75 t74 H7) fun u H11=>
opP ((zsa P .add 3 true).f (nth l 9) (.int .i64 1)) fun t76=>
N [(nth l 0),(nth l 1),(nth l 2),(nth l 3),(nth l 4),(nth l 5),(nth l 6),(nth l 7),(nth l 8),t76] H11) (
opP ((zsa P .add 3 true).f (nth l 9) (.int .i64 1)) fun t76_1=>
N [(nth l 0),(nth l 1),(nth l 2),(nth l 3),(nth l 4),(nth l 5),(nth l 6),(nth l 7),(nth l 8),t76_1] H)) (
Qx 10 [(nth l 0),(nth l 1),(nth l 2),(nth l 3),(nth l 5),(nth l 6),(nth l 7),(nth l 8)] H)
theorem zqr:LpI P 91 zxk 234883628 zCq:=.mk (by kernel_rfl) fun l H N Qx Qr=>by kernel_rfl
def zLz(t0:Value)(H:Heap)(K:VH):Prop:=
opP ((zAa P 235).f []) fun t17=>
zlb (zc P 235) H fun t3 H2=>
opW (zka 32 t3 t17 H2) fun u H4=>
zdb P true 91 ztq 13 [t0,(.int .u32 0),t3,(.int .i64 0)] H4 (fun id l H6=>
cond (Nat.beq id 0) (
opP ((zAa P 235).f [(0,(.int .i64 1)),(1,(.int .i64 1)),(2,(.int .i64 1)),(3,(.int .i64 0)),(4,(.int .i64 1)),(5,(.int .i64 1)),(6,(.int .i64 0)),(7,(.int .i64 1)),(8,(.int .i64 1)),(9,(.int .i64 0)),(10,(.int .i64 1)),(11,(.int .i64 1)),(12,(.int .i64 1)),(13,(.int .i64 0)),(14,(.int .i64 0)),(15,(.int .i64 0)),(16,(.int .i64 1)),(17,(.int .i64 0)),(18,(.int .i64 0)),(19,(.int .i64 0)),(20,(.int .i64 0)),(21,(.int .i64 0)),(22,(.int .i64 1)),(23,(.int .i64 1)),(24,(.int .i64 0)),(25,(.int .i64 0)),(26,(.int .i64 1)),(27,(.int .i64 0)),(28,(.int .i64 0)),(29,(.int .i64 0)),(30,(.int .i64 0)),(31,(.int .i64 0))]) fun t24=>
zlb (zc P 235) H6 fun t5 H9=>
opW (zka 32 t5 t24 H9) fun u_1 H11=>
opW (lenSl (nth l 0) H11) fun t26 H13=>
zdb P true 91 zuq 12 [(nth l 1),(nth l 2),t5,(nth l 0),t26,(.int .i64 0)] H13 (fun id l_1 H15=>
cond (Nat.beq id 2) (
opW (zna 32 (nth l_1 1) H15) fun t79 H17=>
zdb P true 91 zvq 16388 [(nth l_1 0),(.int .u32 0),t79,(.int .i64 0)] H17 (fun id l_2 H19=>
cond (Nat.beq id 12) (
K (nth l_2 1) H19) (
False)) (fun l_2 H19=>
K (nth l_2 0) H19)) (
False)) (fun l_1 H15=>
K (nth l_1 0) H15)) (
False)) (fun l H6=>
K (nth l 1) H6)
theorem zMz{t0:Value}{H:Heap}{K:VH}(h:zLz t0 H K):wCall P ztc [t0] H K:=zea rfl (Eq.mpr (by kernel_rfl) h)
def zlo(t0 t1 t2:Value)(H:Heap)(K:VH):Prop:=
zlb (zFa t1) H fun t4 H1=>
opP ((zsa P .eql 38 true).f t2 (.int .i64 0)) fun t8=>
wIf t8 (
opP (zda t0) fun t10=>
opP (zca 2 t10) fun t11=>
opW (zba t11 H1) fun t12 H6=>
opP (zca 3 t4) fun t13=>
opW (zka 1 t13 t12 H6) fun u H9=>
opP (zda t0) fun t16=>
opP (zca 3 t16) fun t17=>
opW (zba t17 H9) fun t18 H13=>
opW (zna 4 t4 H13) fun t19 H15=>
opW ((zpa P 46 1).f [(0,t19)] H15) fun t20 H17=>
opW (zva 4 32 t18 t20 H17) fun t21 H19=>
opP (zda t0) fun t22=>
opP (zca 3 t22) fun t23=>
opW (zka 1 t23 t21 H19) fun u_1 H23=>
K t2 H23) (
K t2 H1)
theorem zrr{t0 t1 t2:Value}{H:Heap}{K:VH}(h:zlo t0 t1 t2 H K):wCall P zVe [t0,t1,t2] H K:=zea rfl (Eq.mpr (by kernel_rfl) h)
def zrg(t0 t1 t2:Value)(H:Heap)(K:VH):Prop:=
zlb (zFa t2) H fun t5 H1=>
wCall P zdc [t0,t1] H1 fun t10 H3=>
opP ((zsa P .eql 224 true).f t10 (.pointer none)) fun t13=>
wIf t13 (
K (.int .i64 61) H3) (
opP (zda t0) fun t16=>
opP (zca 4 t16) fun t17=>
opW (zba t17 H3) fun t18 H8=>
wIf t18 (
K (.int .i64 62) H8) (
opP (zda t10) fun t21=>
opP (zca 64 t21) fun t22=>
opW (zna 64 t22 H8) fun t23 H12=>
wCall P zIb [] H12 fun t24 H14=>
zrc (zjc H12 H14) (zNa [t22])∧(opP ((zsa P .neq 94 false).f t23 t24) fun t25=>
wIf t25 (
K (.int .i64 63) H14) (
wCall P zGb [t0] H14 fun t28 H17=>
opP (unA .not t28) fun t29=>
wIf t29 (
K (.int .i64 62) H17) (
opW (zna 64 t5 H17) fun t32 H20=>
wCall P zmd [t0,t1,t32] H20 fun t33 H22=>
K (.int .i64 0) H22)))))
theorem zhj{t0 t1 t2:Value}{H:Heap}{K:VH}(h:zrg t0 t1 t2 H K):wCall P zgd [t0,t1,t2] H K:=zea rfl (Eq.mpr (by kernel_rfl) h)
def zYf(t0 t1:Value)(H:Heap)(K:VH):Prop:=
zab (fun J=>
opP ((zsa P .lss 3 true).f t1 (.int .i64 0)) fun t6=>
wIf t6 (
False) (
J [t0,t1] H)) (fun l H3=>
opW ((zjd P .cap [32]).f [(nth l 0)] H3) fun t10 H5=>
opW (lenSl (nth l 0) H5) fun t12 H7=>
opP ((zsa P .sub 3 false).f t10 t12) fun t13=>
opP ((zsa P .sub 3 false).f (nth l 1) t13) fun t14=>
opP ((zsa P .gtr 3 true).f t14 (.int .i64 0)) fun t16=>
wIf t16 (
opW ((zjd P .cap [32]).f [(nth l 0)] H7) fun t19 H12=>
opP (zLa 1 (nth l 0) none (some t19) none) fun t20=>
opW ((zjd P .append [32,3]).f [t20,t14] H12) fun t22 H15=>
opW (lenSl (nth l 0) H15) fun t24 H17=>
opP (zLa 1 t22 none (some t24) none) fun t25=>
K t25 H17) (
K (nth l 0) H7))
theorem zri{t0 t1:Value}{H:Heap}{K:VH}(h:zYf t0 t1 H K):wCall P zRc [t0,t1] H K:=zea rfl (Eq.mpr (by kernel_rfl) h)
def zyh(t0 t1:Value)(H:Heap)(K:VH):Prop:=
wCall P zdc [t0,t1] H fun t8 H1=>
opP ((zsa P .eql 224 true).f t8 (.pointer none)) fun t11=>
wIf t11 (
K (.int .i64 61) H1) (
opP (zda t0) fun t14=>
opP (zca 4 t14) fun t15=>
opW (zba t15 H1) fun t16 H6=>
wIf t16 (
K (.int .i64 62) H6) (
opP (zda t8) fun t19=>
opP (zca 128 t19) fun t20=>
opW (zba t20 H6) fun t21 H10=>
opP (zda t0) fun t23=>
opP (zca 2 t23) fun t24=>
opW (zba t24 H10) fun t25 H14=>
opP ((zsa P .geq 3 false).f t21 t25) fun t26=>
wIf t26 (
K (.int .i64 64) H14) (
wCall P zGb [t0] H14 fun t29 H17=>
opP (unA .not t29) fun t30=>
wIf t30 (
K (.int .i64 62) H17) (
opP (zda t8) fun t32=>
opP (zca 128 t32) fun t33=>
opW (zba t33 H17) fun t34 H22=>
opP ((zsa P .add 3 true).f t34 (.int .i64 1)) fun t35=>
opP (zda t8) fun t36=>
opP (zca 128 t36) fun t37=>
opW (zka 1 t37 t35 H22) fun u H27=>
wCall P zIb [] H27 fun t40 H29=>
wCall P zmd [t0,t1,t40] H29 fun t41 H31=>
K (.int .i64 0) H31))))
theorem zyk{t0 t1:Value}{H:Heap}{K:VH}(h:zyh t0 t1 H K):wCall P zNd [t0,t1] H K:=zea rfl (Eq.mpr (by kernel_rfl) h)
def zsi(t0:Value)(H:Heap)(K:VH):Prop:=
zab (fun J=>
opP (zda t0) fun t5=>
opP (zca 4 t5) fun t6=>
opW (zba t6 H) fun t7 H4=>
wIf t7 (
opP (zra t7 (.bool true) undef) fun t14=>
opP (zda t0) fun t15=>
opP (zca 4 t15) fun t16=>
opW (zka 1 t16 t14 H4) fun u H9=>
J [t0] H9) (
opP (zda t0) fun t10=>
opP (zca 3 t10) fun t11=>
opW (zba t11 H4) fun t12 H13=>
opP ((zsa P .eql 3 true).f t12 (.int .i64 0)) fun t13=>
opP (zra t7 (.bool true) t13) fun t14_1=>
opP (zda t0) fun t15_1=>
opP (zca 4 t15_1) fun t16_1=>
opW (zka 1 t16_1 t14_1 H13) fun u_1 H19=>
J [t0] H19)) (fun l H21=>
zab (fun J_1=>
zab (fun J_2=>
opP (zda (nth l 0)) fun t18=>
opP (zca 4 t18) fun t19=>
opW (zba t19 H21) fun t20 H27=>
opP (unA .not t20) fun t21=>
wIf t21 (
opP (zda (nth l 0)) fun t24=>
opP (zca 3 t24) fun t25=>
opW (zba t25 H27) fun t26 H32=>
opP ((zsa P .gtr 3 true).f t26 (.int .i64 0)) fun t27=>
opP (zra t21 t27 (.bool false)) fun t28=>
J_2 [(nth l 0),t28] H32) (
opP (zra t21 undef (.bool false)) fun t28_1=>
J_2 [(nth l 0),t28_1] H27)) (fun l_1 H37=>
wIf (nth l_1 1) (
opP (zda (nth l_1 0)) fun t30=>
opP (zca 3 t30) fun t31=>
opW (zba t31 H37) fun t32 H41=>
opP ((zsa P .sub 3 true).f t32 (.int .i64 1)) fun t33=>
opP (zda (nth l_1 0)) fun t34=>
opP (zca 3 t34) fun t35=>
opW (zka 1 t35 t33 H41) fun u_2 H46=>
J_1 [(nth l_1 0)] H46) (
J_1 [(nth l_1 0)] H37))) (fun l_2 H48=>
opP (zda (nth l_2 0)) fun t37=>
opP (zca 4 t37) fun t38=>
opW (zba t38 H48) fun t39 H52=>
opP (unA .not t39) fun t40=>
K t40 H52))
theorem zvl{t0:Value}{H:Heap}{K:VH}(h:zsi t0 H K):wCall P zGb [t0] H K:=zea rfl (Eq.mpr (by kernel_rfl) h)
noncomputable abbrev zxt:Code:=zOa P zcl 0
def zyt(l:List Value)(H:Heap)(N:LN)(Qx:LX)(Qr:LN):Prop:=
opP ((zsa P .lss 3 false).f (nth l 4) (nth l 3)) fun t13=>
wIf t13 (
opP (zWa 1 (nth l 2) (nth l 4)) fun t14=>
opW (zba t14 H) fun t15 H3=>
opW (zob .u32 t15 H3) fun t18 H5=>
opP ((zsa P .xor 227 false).f (nth l 1) t18) fun t19=>
wCall P zdl [t19] H5 fun t20 H8=>
opP ((zsa P .add 3 true).f (nth l 4) (.int .i64 1)) fun t21=>
N [(nth l 0),t20,(nth l 2),(nth l 3),t21] H8) (
Qx 0 [(nth l 0),(nth l 1)] H)
theorem zzt:LpI P 24 zxt 48 zyt:=.mk (by kernel_rfl) fun l H N Qx Qr=>by kernel_rfl
def zoD(t0 t1:Value)(H:Heap)(K:VH):Prop:=
opP (unA .xor t0) fun t9=>
opW (lenSl t1 H) fun t11 H2=>
zdb P true 24 zxt 48 [(.int .u32 0),t9,t1,t11,(.int .i64 0)] H2 (fun id l H4=>
cond (Nat.beq id 0) (
opP (unA .xor (nth l 1)) fun t23=>
K t23 H4) (
False)) (fun l H4=>
K (nth l 0) H4)
theorem zGB{t0 t1:Value}{H:Heap}{K:VH}(h:zoD t0 t1 H K):wCall P zcl [t0,t1] H K:=zea rfl (Eq.mpr (by kernel_rfl) h)
def zBj(t0 t1 t2:Value)(H:Heap)(K:VH):Prop:=
zlb (zFa t2) H fun t5 H1=>
opP (zda t0) fun t7=>
opP (zca 0 t7) fun t8=>
opW (zba t8 H1) fun t9 H5=>
opW (zna 64 t5 H5) fun t11 H7=>
opP (zWa 129 t9 t1) fun t12=>
opP (zca 64 t12) fun t13=>
opW (zka 64 t13 t11 H7) fun u H11=>
opP (zda t0) fun t16=>
opP (zca 1 t16) fun t17=>
opW (zba t17 H11) fun t18 H15=>
opW (zna 64 t5 H15) fun t20 H17=>
opP ((zAa P 123).f [(0,t1),(1,t20)]) fun t21=>
opW ((zpa P 90 1).f [(0,t21)] H17) fun t22 H20=>
opW (zva 65 72 t18 t22 H20) fun t23 H22=>
opP (zda t0) fun t24=>
opP (zca 1 t24) fun t25=>
opW (zka 1 t25 t23 H22) fun u_1 H26=>
K (.tuple [].toArray) H26
theorem zMm{t0 t1 t2:Value}{H:Heap}{K:VH}(h:zBj t0 t1 t2 H K):wCall P zmd [t0,t1,t2] H K:=zea rfl (Eq.mpr (by kernel_rfl) h)
noncomputable abbrev zAt:Code:=zOa P zdl 0
def zBt(l:List Value)(H:Heap)(N:LN)(Qx:LX)(Qr:LN):Prop:=
opP ((zsa P .lss 3 true).f (nth l 2) (.int .i64 8)) fun t4=>
wIf t4 (
opP ((zsa P .shr 227 true).f (nth l 0) (.int .u64 1)) fun t6=>
opP ((zsa P .and 227 true).f (nth l 0) (.int .u32 1)) fun t8=>
opP (unA .neg t8) fun t9=>
opP ((zsa P .and 227 true).f (.int .u32 3988292384) t9) fun t10=>
opP ((zsa P .xor 227 false).f t6 t10) fun t11=>
opP ((zsa P .add 3 true).f (nth l 2) (.int .i64 1)) fun t12=>
N [t11,(nth l 1),t12] H) (
Qx 0 [(nth l 0),(nth l 1)] H)
theorem zCt:LpI P 14 zAt 5 zBt:=.mk (by kernel_rfl) fun l H N Qx Qr=>by kernel_rfl
def zpD(t0:Value)(H:Heap)(K:VH):Prop:=
zdb P true 14 zAt 5 [t0,(.int .u32 0),(.int .i64 0)] H (fun id l H1=>
cond (Nat.beq id 0) (
K (nth l 0) H1) (
False)) (fun l H1=>
K (nth l 1) H1)
theorem zHB{t0:Value}{H:Heap}{K:VH}(h:zpD t0 H K):wCall P zdl [t0] H K:=zea rfl (Eq.mpr (by kernel_rfl) h)
end
end J
