/- texts of the proof, one behind the other -/
import Derived.Test.YtnemiikeflojaaaGreatProg
import Derived.KernelRfl
import Derived.Test.YtnemiikeflojaaaGreatAbC
set_option linter.unusedSimpArgs false
set_option linter.unusedSectionVars false
set_option linter.unusedVariables false
set_option maxRecDepth 100000
namespace J
open Go Go.Ab
noncomputable abbrev P:Program:=Go.Proofs.Tryz.prog
noncomputable section
abbrev zHe:Nat:=3
abbrev zvf:Nat:=5
abbrev zJc:Nat:=6
abbrev zZk:Nat:=7
abbrev zJi:Nat:=8
abbrev zKi:Nat:=9
abbrev zYj:Nat:=10
abbrev zqh:Nat:=11
abbrev zCd:Nat:=12
abbrev zoc:Nat:=13
abbrev zwg:Nat:=14
abbrev zZj:Nat:=15
abbrev zLi:Nat:=16
abbrev zKc:Nat:=17
abbrev zrh:Nat:=18
abbrev zIh:Nat:=19
abbrev zak:Nat:=20
abbrev zqb:Nat:=21
abbrev zzc:Nat:=22
abbrev zxm:Nat:=23
abbrev zHb:Nat:=31
abbrev zee:Nat:=32
abbrev zIb:Nat:=33
abbrev zHf:Nat:=34
abbrev zLc:Nat:=35
abbrev zMc:Nat:=36
abbrev zJh:Nat:=37
abbrev zIf:Nat:=38
abbrev zbk:Nat:=39
abbrev zMi:Nat:=40
abbrev zNi:Nat:=41
abbrev zIe:Nat:=42
abbrev zfg:Nat:=43
abbrev zck:Nat:=44
abbrev zUo:Nat:=45
abbrev zym:Nat:=46
abbrev zbe:Nat:=47
abbrev zJf:Nat:=48
abbrev zVo:Nat:=49
abbrev zal:Nat:=50
abbrev zOi:Nat:=51
abbrev zWo:Nat:=52
abbrev zXb:Nat:=55
abbrev zwf:Nat:=56
abbrev zNc:Nat:=57
abbrev zVc:Nat:=58
abbrev zxg:Nat:=59
abbrev zPi:Nat:=60
abbrev zJe:Nat:=61
abbrev zUd:Nat:=62
abbrev ztd:Nat:=63
abbrev zKf:Nat:=64
abbrev zbb:Nat:=65
abbrev zQi:Nat:=66
abbrev zxf:Nat:=67
abbrev zNg:Nat:=68
abbrev zKe:Nat:=69
abbrev zdk:Nat:=70
abbrev zzm:Nat:=71
abbrev zAm:Nat:=72
abbrev zKh:Nat:=73
abbrev zRi:Nat:=74
abbrev zSi:Nat:=75
abbrev zOg:Nat:=76
abbrev zBm:Nat:=77
abbrev zDd:Nat:=78
abbrev zCm:Nat:=79
abbrev zGg:Nat:=80
abbrev zTi:Nat:=81
abbrev zCa:Nat:=82
abbrev zEd:Nat:=83
abbrev zLh:Nat:=84
abbrev zbc:Nat:=85
abbrev zUi:Nat:=86
abbrev zVi:Nat:=87
abbrev zWi:Nat:=88
abbrev zsh:Nat:=89
abbrev zLe:Nat:=90
abbrev zJb:Nat:=91
abbrev zDm:Nat:=92
abbrev zOc:Nat:=93
abbrev zAc:Nat:=94
abbrev zXi:Nat:=95
abbrev zPc:Nat:=96
abbrev zYi:Nat:=97
abbrev zce:Nat:=98
abbrev zme:Nat:=99
abbrev zek:Nat:=100
abbrev zMe:Nat:=101
abbrev zfk:Nat:=102
abbrev zth:Nat:=103
abbrev zne:Nat:=104
abbrev zcc:Nat:=105
abbrev zNe:Nat:=106
abbrev zBc:Nat:=107
abbrev zuh:Nat:=108
abbrev zyg:Nat:=109
abbrev zYa:Nat:=110
abbrev zyf:Nat:=111
abbrev zvb:Nat:=112
abbrev zCc:Nat:=113
abbrev zud:Nat:=114
abbrev zld:Nat:=115
abbrev zzg:Nat:=116
abbrev zOe:Nat:=117
abbrev zvh:Nat:=118
abbrev zPe:Nat:=119
abbrev zed:Nat:=120
abbrev zyb:Nat:=121
abbrev zUa:Nat:=122
abbrev zzf:Nat:=123
abbrev zQf:Nat:=124
abbrev zfd:Nat:=125
abbrev zQe:Nat:=126
abbrev zRe:Nat:=127
abbrev zPg:Nat:=128
abbrev zQg:Nat:=129
abbrev zZi:Nat:=130
abbrev zSe:Nat:=131
abbrev zVd:Nat:=132
abbrev zWc:Nat:=133
abbrev zfe:Nat:=134
abbrev zoe:Nat:=135
abbrev zMh:Nat:=136
abbrev zcb:Nat:=137
abbrev zTe:Nat:=138
abbrev zFd:Nat:=139
abbrev zRf:Nat:=140
abbrev zAg:Nat:=141
abbrev zUe:Nat:=142
abbrev zeb:Nat:=143
abbrev zgg:Nat:=144
abbrev zQc:Nat:=145
abbrev zRg:Nat:=146
abbrev zaj:Nat:=147
abbrev zdc:Nat:=148
abbrev zpb:Nat:=149
abbrev ztn:Nat:=150
abbrev zbl:Nat:=151
abbrev ztc:Nat:=152
abbrev zVe:Nat:=153
abbrev zgd:Nat:=154
abbrev zRc:Nat:=155
abbrev zNd:Nat:=156
abbrev zGb:Nat:=157
abbrev zcl:Nat:=158
abbrev zmd:Nat:=159
abbrev zdl:Nat:=160
instance:Orc:=zpO zvf
theorem zjl{H:Heap}{K:VH}(hk:K (.bool true) H):wCall P zvf [] H K:=⟨1,.ret,_,H,rfl,hk⟩
noncomputable abbrev zge:Code:=zOa P zHe 0
def zSg(l:List Value)(H:Heap)(N:LN)(Qx:LX)(Qr:LN):Prop:=
opP ((zsa P .lss 3 false).f (nth l 7) (nth l 6)) fun t83=>
wIf t83 (
opP (zWa 1 (nth l 5) (nth l 7)) fun t84=>
opW (zba t84 H) fun t85 H3=>
opW (zna 75 (nth l 1) H3) fun t88 H5=>
wCall P zYj [(nth l 3),(.int .i64 0),(.int .i64 1),t88] H5 fun t89 H7=>
opP (zNb 0 t89) fun t90=>
opP (zNb 1 t89) fun t91=>
opW (zna 75 (nth l 1) H7) fun t93 H11=>
wCall P zqh [(nth l 4),(.int .i64 0),(.int .i64 1),t93] H11 fun t94 H13=>
opP ((zsa P .eql 49 true).f t90 (.pointer none)) fun t96=>
wIf t96 (
Qr [(.bool false)] H13) (
wCall P zCd [(nth l 3)] H13 fun t98 H16=>
wCall P zoc [t98,t85] H16 fun t100 H18=>
opP (zda (nth l 4)) fun t102=>
opP (zca 0 t102) fun t103=>
opW (zba t103 H18) fun t104 H22=>
wCall P zwg [t104,t85] H22 fun t106 H24=>
wCall P zZj [t90] H24 fun t109 H26=>
opP (zNb 0 t109) fun t110=>
opP (zNb 1 t109) fun t111=>
wCall P zLi [t94] H26 fun t114 H30=>
opP (zNb 0 t114) fun t115=>
opP (zNb 1 t114) fun t116=>
zab (fun J=>
opP ((zsa P .neq 3 false).f t110 t115) fun t119=>
wIf t119 (
opP (zra t119 (.bool true) undef) fun t124=>
opP (zra t124 (.bool true) undef) fun t133=>
opP (zra t133 (.bool true) undef) fun t141=>
wIf t141 (
Qr [(.bool false)] H30) (
J [(nth l 0),(nth l 1),(nth l 2),(nth l 3),(nth l 4),(nth l 5),(nth l 6),(nth l 7)] H30)) (
opP ((zsa P .neq 3 false).f t111 t116) fun t123=>
opP (zra t119 (.bool true) t123) fun t124_1=>
wIf t124_1 (
opP (zra t124_1 (.bool true) undef) fun t133_1=>
opP (zra t133_1 (.bool true) undef) fun t141_1=>
wIf t141_1 (
Qr [(.bool false)] H30) (
J [(nth l 0),(nth l 1),(nth l 2),(nth l 3),(nth l 4),(nth l 5),(nth l 6),(nth l 7)] H30)) (
wCall P zKc [t90] H30 fun t127 H43=>
opP (zda t94) fun t129=>
opP (zca 1 t129) fun t130=>
opW (zna 75 t130 H43) fun t131 H47=>
zrc (zjc H30 H43) (zNa [t130])∧(opP ((zsa P .neq 30 false).f t127 t131) fun t132=>
opP (zra t124_1 (.bool true) t132) fun t133_2=>
wIf t133_2 (
opP (zra t133_2 (.bool true) undef) fun t141_2=>
wIf t141_2 (
Qr [(.bool false)] H47) (
J [(nth l 0),(nth l 1),(nth l 2),(nth l 3),(nth l 4),(nth l 5),(nth l 6),(nth l 7)] H47)) (
wCall P zIh [(nth l 3)] H47 fun t136 H52=>
wCall P zak [(nth l 4)] H52 fun t138 H54=>
wCall P zrh [t136,t138] H54 fun t139 H56=>
opP (unA .not t139) fun t140=>
opP (zra t133_2 (.bool true) t140) fun t141_3=>
wIf t141_3 (
Qr [(.bool false)] H56) (
J [(nth l 0),(nth l 1),(nth l 2),(nth l 3),(nth l 4),(nth l 5),(nth l 6),(nth l 7)] H56)))))) (fun l_1 H60=>
wCall P zCd [(nth l_1 3)] H60 fun t143 H62=>
wCall P zqb [t143,(nth l_1 2)] H62 fun t145 H64=>
opP (zda (nth l_1 4)) fun t147=>
opP (zca 0 t147) fun t148=>
opW (zba t148 H64) fun t149 H68=>
wCall P zzc [t149,(nth l_1 2)] H68 fun t151 H70=>
opP ((zsa P .add 3 true).f (nth l_1 7) (.int .i64 1)) fun t152=>
N [(nth l_1 0),(nth l_1 1),(nth l_1 2),(nth l_1 3),(nth l_1 4),(nth l_1 5),(nth l_1 6),t152] H70))) (
Qx 0 [(nth l 0)] H)
theorem zbj:LpI P 153 zge 4 zSg:=.mk (by kernel_rfl) fun l H N Qx Qr=>by kernel_rfl
def zoj(t0:Value)(H:Heap)(K:VH):Prop:=
zlb (zFa t0) H fun t1 H1=>
wCall P zvf [] H1 fun t19 H3=>
opP (unA .not t19) fun t20=>
wIf t20 (
K (.bool false) H3) (
opP (zca 0 t1) fun t21=>
opW (zna 2 t21 H3) fun t22 H7=>
opP (zca 2 t1) fun t23=>
opW (zna 75 t23 H7) fun t24 H10=>
opP (zca 77 t1) fun t25=>
opW (zba t25 H10) fun t26 H13=>
opP (zca 78 t1) fun t27=>
opW (zba t27 H13) fun t28 H16=>
zlb (zc P 22) H16 fun t3 H18=>
zlb (zc P 30) H18 fun t4 H20=>
opW (zka 2 t3 t22 H20) fun u H22=>
zOf (zNa [t27]) (zNa [t3,t22])∧(zOf (zNa [t25]) (zNa [t3,t22])∧(zOf (zNa [t23]) (zNa [t3,t22])∧(opW (zka 75 t4 t24 H22) fun u_1 H24=>
zOf (zNa [t27]) (zNa [t4,t24])∧(zOf (zNa [t25]) (zNa [t4,t24])∧(zab (fun J=>
opP (zJa 2 1 t3 (.int .i64 0)) fun t29=>
opW (zba t29 H24) fun t30 H28=>
opP ((zsa P .lss 3 true).f t30 (.int .i64 1)) fun t31=>
wIf t31 (
opP (zra t31 (.bool true) undef) fun t36=>
opP (zra t36 (.bool true) undef) fun t41=>
opP (zra t41 (.bool true) undef) fun t46=>
opP (zra t46 (.bool true) undef) fun t51=>
opP (zra t51 (.bool true) undef) fun t56=>
opP (zra t56 (.bool true) undef) fun t61=>
wIf t61 (
K (.bool true) H28) (
J [(.bool false),t3,t4,t26,t28] H28)) (
opP (zJa 2 1 t3 (.int .i64 1)) fun t33=>
opW (zba t33 H28) fun t34 H38=>
opP ((zsa P .lss 3 true).f t34 (.int .i64 1)) fun t35=>
opP (zra t31 (.bool true) t35) fun t36_1=>
wIf t36_1 (
opP (zra t36_1 (.bool true) undef) fun t41_1=>
opP (zra t41_1 (.bool true) undef) fun t46_1=>
opP (zra t46_1 (.bool true) undef) fun t51_1=>
opP (zra t51_1 (.bool true) undef) fun t56_1=>
opP (zra t56_1 (.bool true) undef) fun t61_1=>
wIf t61_1 (
K (.bool true) H38) (
J [(.bool false),t3,t4,t26,t28] H38)) (
opP (zJa 2 1 t3 (.int .i64 0)) fun t38=>
opW (zba t38 H38) fun t39 H48=>
opP ((zsa P .gtr 3 true).f t39 (.int .i64 20)) fun t40=>
opP (zra t36_1 (.bool true) t40) fun t41_2=>
wIf t41_2 (
opP (zra t41_2 (.bool true) undef) fun t46_2=>
opP (zra t46_2 (.bool true) undef) fun t51_2=>
opP (zra t51_2 (.bool true) undef) fun t56_2=>
opP (zra t56_2 (.bool true) undef) fun t61_2=>
wIf t61_2 (
K (.bool true) H48) (
J [(.bool false),t3,t4,t26,t28] H48)) (
opP (zJa 2 1 t3 (.int .i64 1)) fun t43=>
opW (zba t43 H48) fun t44 H57=>
opP ((zsa P .gtr 3 true).f t44 (.int .i64 20)) fun t45=>
opP (zra t41_2 (.bool true) t45) fun t46_3=>
wIf t46_3 (
opP (zra t46_3 (.bool true) undef) fun t51_3=>
opP (zra t51_3 (.bool true) undef) fun t56_3=>
opP (zra t56_3 (.bool true) undef) fun t61_3=>
wIf t61_3 (
K (.bool true) H57) (
J [(.bool false),t3,t4,t26,t28] H57)) (
opW (lenSl t26 H57) fun t49 H64=>
opP ((zsa P .gtr 3 true).f t49 (.int .i64 30)) fun t50=>
opP (zra t46_3 (.bool true) t50) fun t51_4=>
wIf t51_4 (
opP (zra t51_4 (.bool true) undef) fun t56_4=>
opP (zra t56_4 (.bool true) undef) fun t61_4=>
wIf t61_4 (
K (.bool true) H64) (
J [(.bool false),t3,t4,t26,t28] H64)) (
opW (lenSl t28 H64) fun t54 H70=>
opP ((zsa P .gtr 3 true).f t54 (.int .i64 100)) fun t55=>
opP (zra t51_4 (.bool true) t55) fun t56_5=>
wIf t56_5 (
opP (zra t56_5 (.bool true) undef) fun t61_5=>
wIf t61_5 (
K (.bool true) H70) (
J [(.bool false),t3,t4,t26,t28] H70)) (
opW (zna 75 t4 H70) fun t58 H75=>
wCall P zJc [t58] H75 fun t59 H77=>
opP (unA .not t59) fun t60=>
opP (zra t56_5 (.bool true) t60) fun t61_6=>
wIf t61_6 (
K (.bool true) H77) (
J [(.bool false),t3,t4,t26,t28] H77)))))))) (fun l H81=>
wCall P zJi [(.int .i64 60),(.int .i64 10000)] H81 fun t63 H83=>
opP (zJa 2 1 (nth l 1) (.int .i64 0)) fun t64=>
opW (zba t64 H83) fun t65 H86=>
zrc (zjc H81 H83) (zNa [t64])∧(opP (zJa 2 1 (nth l 1) (.int .i64 1)) fun t66=>
opW (zba t66 H86) fun t67 H89=>
zrc (zjc H81 H83) (zNa [t66])∧(opW ((zpa P 31 2).f [(0,t65),(1,t67)] H89) fun t68 H91=>
wCall P zZk [t63,t68] H91 fun t69 H93=>
opP (zNb 0 t69) fun t70=>
opP (zNb 1 t69) fun t71=>
wCall P zKi [(.int .i64 60),(.int .i64 10000)] H93 fun t72 H97=>
opP (zJa 2 1 (nth l 1) (.int .i64 0)) fun t73=>
opW (zba t73 H97) fun t74 H100=>
zrc (zjc H93 H97) (zNa [t73])∧(opP (zJa 2 1 (nth l 1) (.int .i64 1)) fun t75=>
opW (zba t75 H100) fun t76 H103=>
zrc (zjc H93 H97) (zNa [t75])∧(opW ((zpa P 31 2).f [(0,t74),(1,t76)] H103) fun t77 H105=>
opP ((zAa P 48).f [(0,t72),(1,t77)]) fun t78=>
zlb (zFa t78) H105 fun t79 H108=>
opW (lenSl (nth l 3) H108) fun t81 H110=>
zdb P true 153 zge 4 [(nth l 0),(nth l 2),(nth l 4),t70,t79,(nth l 3),t81,(.int .i64 0)] H110 (fun id l_1 H112=>
cond (Nat.beq id 0) (
K (.bool true) H112) (
False)) (fun l_1 H112=>
K (nth l_1 0) H112))))))))))))
theorem zEm{t0:Value}{H:Heap}{K:VH}(h:zoj t0 H K):wCall P zHe [t0] H K:=zea rfl (Eq.mpr (by kernel_rfl) h)
def zGs(t0:Value)(H:Heap)(K:VH):Prop:=
zlb (zFa t0) H fun t1 H1=>
zab (fun J=>
opP (zca 0 t1) fun t3=>
opP (zJa 2 36 t3 (.int .i64 0)) fun t4=>
opW (zna 36 t4 H1) fun t5 H6=>
wCall P zHb [t5] H6 fun t6 H8=>
opP (unA .not t6) fun t7=>
wIf t7 (
opP (zra t7 (.bool true) undef) fun t14=>
wIf t14 (
K (.bool false) H8) (
J [t1] H8)) (
opP (zca 0 t1) fun t9=>
opP (zJa 2 36 t9 (.int .i64 1)) fun t10=>
opW (zna 36 t10 H8) fun t11 H14=>
wCall P zHb [t11] H14 fun t12 H16=>
opP (unA .not t12) fun t13=>
opP (zra t7 (.bool true) t13) fun t14_1=>
wIf t14_1 (
K (.bool false) H16) (
J [t1] H16))) (fun l H20=>
opP (zca 72 (nth l 0)) fun t15=>
opW (zba t15 H20) fun t16 H23=>
opP ((zsa P .geq 3 true).f t16 (.int .i64 0)) fun t17=>
wIf t17 (
opP (zca 72 (nth l 0)) fun t19=>
opW (zba t19 H23) fun t20 H27=>
opP ((zsa P .leq 3 true).f t20 (.int .i64 1)) fun t21=>
opP (zra t17 t21 (.bool false)) fun t22=>
wIf t22 (
opP (zca 73 (nth l 0)) fun t24=>
opW (zba t24 H27) fun t25 H32=>
opP ((zsa P .geq 3 true).f t25 (.int .i64 (-1))) fun t26=>
opP (zra t22 t26 (.bool false)) fun t27=>
wIf t27 (
opP (zca 73 (nth l 0)) fun t29=>
opW (zba t29 H32) fun t30 H37=>
opP ((zsa P .leq 3 true).f t30 (.int .i64 1)) fun t31=>
opP (zra t27 t31 (.bool false)) fun t32=>
wIf t32 (
opP (zca 74 (nth l 0)) fun t34=>
opW (zba t34 H37) fun t35 H42=>
opP ((zsa P .leq 23 true).f t35 (.int .u64 281474976710656)) fun t36=>
opP (zra t32 t36 (.bool false)) fun t37=>
K t37 H42) (
opP (zra t32 undef (.bool false)) fun t37_1=>
K t37_1 H37)) (
opP (zra t27 undef (.bool false)) fun t32_1=>
opP (zra t32_1 undef (.bool false)) fun t37_2=>
K t37_2 H32)) (
opP (zra t22 undef (.bool false)) fun t27_1=>
opP (zra t27_1 undef (.bool false)) fun t32_2=>
opP (zra t32_2 undef (.bool false)) fun t37_3=>
K t37_3 H27)) (
opP (zra t17 undef (.bool false)) fun t22_1=>
opP (zra t22_1 undef (.bool false)) fun t27_2=>
opP (zra t27_2 undef (.bool false)) fun t32_3=>
opP (zra t32_3 undef (.bool false)) fun t37_4=>
K t37_4 H23))
theorem ztu{t0:Value}{H:Heap}{K:VH}(h:zGs t0 H K):wCall P zJc [t0] H K:=zea rfl (Eq.mpr (by kernel_rfl) h)
noncomputable abbrev zHs:Code:=zOa P zZk 0
def zIs(l:List Value)(H:Heap)(N:LN)(Qx:LX)(Qr:LN):Prop:=
opP ((zsa P .lss 3 false).f (nth l 7) (nth l 6)) fun t24=>
wIf t24 (
opP (zWa 1 (nth l 5) (nth l 7)) fun t25=>
opW (zba t25 H) fun t26 H3=>
zab (fun J=>
opP ((zsa P .lss 3 true).f t26 (.int .i64 1)) fun t28=>
wIf t28 (
opP (zra t28 (.bool true) undef) fun t36=>
J [(nth l 0),(nth l 1),(nth l 2),(nth l 3),(nth l 4),t26,(nth l 5),(nth l 6),(nth l 7),t36] H3) (
wCall P zee [(nth l 0)] H3 fun t32 H8=>
opP ((zsa P .sub 3 false).f t32 (nth l 4)) fun t34=>
opP ((zsa P .gtr 3 false).f t26 t34) fun t35=>
opP (zra t28 (.bool true) t35) fun t36_1=>
J [(nth l 0),(nth l 1),(nth l 2),(nth l 3),(nth l 4),t26,(nth l 5),(nth l 6),(nth l 7),t36_1] H8)) (fun l_1 H13=>
wIf (nth l_1 9) (
Qr [(.pointer none),(.int .i64 71),(nth l_1 3)] H13) (
opP (zda (nth l_1 3)) fun t39=>
opP (zca 1 t39) fun t40=>
opW (zba t40 H13) fun t41 H17=>
opP ((zAa P 88).f [(0,(nth l_1 4)),(1,(nth l_1 5))]) fun t44=>
opW ((zpa P 83 1).f [(0,t44)] H17) fun t45 H20=>
opW (zva 2 16 t41 t45 H20) fun t46 H22=>
opP (zda (nth l_1 3)) fun t47=>
opP (zca 1 t47) fun t48=>
opW (zka 1 t48 t46 H22) fun u H26=>
opP ((zsa P .add 3 false).f (nth l_1 4) (nth l_1 5)) fun t51=>
opP ((zsa P .add 3 true).f (nth l_1 8) (.int .i64 1)) fun t52=>
N [(nth l_1 0),(nth l_1 1),(nth l_1 2),(nth l_1 3),t51,(nth l_1 6),(nth l_1 7),t52] H26))) (
Qx 0 [(nth l 1),(nth l 2),(nth l 3)] H)
theorem zJs:LpI P 54 zHs 112 zIs:=.mk (by kernel_rfl) fun l H N Qx Qr=>by kernel_rfl
def zgD(t0 t1:Value)(H:Heap)(K:VH):Prop:=
zab (fun J=>
opW (lenSl t1 H) fun t11 H2=>
opP ((zsa P .eql 3 true).f t11 (.int .i64 0)) fun t12=>
wIf t12 (
opP (zra t12 (.bool true) undef) fun t17=>
J [t0,t1,(.pointer none),(.int .i64 0),t17] H2) (
opW (lenSl t1 H2) fun t15 H6=>
opP ((zsa P .gtr 3 true).f t15 (.int .i64 16)) fun t16=>
opP (zra t12 (.bool true) t16) fun t17_1=>
J [t0,t1,(.pointer none),(.int .i64 0),t17_1] H6)) (fun l H10=>
wIf (nth l 4) (
K (.tuple [(.pointer none),(.int .i64 71)].toArray) H10) (
opP ((zAa P 85).f [(0,(nth l 0))]) fun t19=>
zlb (zFa t19) H10 fun t20 H13=>
opW (lenSl (nth l 1) H13) fun t22 H15=>
zdb P true 54 zHs 112 [(nth l 0),(nth l 2),(nth l 3),t20,(.int .i64 0),(nth l 1),t22,(.int .i64 0)] H15 (fun id l_1 H17=>
cond (Nat.beq id 0) (
K (.tuple [(nth l_1 2),(.int .i64 0)].toArray) H17) (
False)) (fun l_1 H17=>
K (.tuple [(nth l_1 0),(nth l_1 1)].toArray) H17)))
theorem zyB{t0 t1:Value}{H:Heap}{K:VH}(h:zgD t0 t1 H K):wCall P zZk [t0,t1] H K:=zea rfl (Eq.mpr (by kernel_rfl) h)
noncomputable abbrev zMp:Code:=zOa P zJi 0
def zNp(l:List Value)(H:Heap)(N:LN)(Qx:LX)(Qr:LN):Prop:=
opP ((zsa P .lss 3 false).f (nth l 3) (nth l 2)) fun t22=>
wIf t22 (
opP (zda (nth l 1)) fun t25=>
opP (zca 0 t25) fun t26=>
opW (zba t26 H) fun t27 H4=>
wCall P zIb [] H4 fun t29 H6=>
zrc (zjc H4 H6) (zNa [t26])∧(wCall P zIb [] H6 fun t30 H8=>
zrc (zjc H6 H8) (zNa [t26])∧(opP ((zAa P 97).f [(0,t29),(1,t30)]) fun t31=>
opP (zWa 129 t27 (nth l 3)) fun t32=>
opW (zka 129 t32 t31 H8) fun u H12=>
opP ((zsa P .add 3 true).f (nth l 3) (.int .i64 1)) fun t33=>
N [(nth l 0),(nth l 1),(nth l 2),t33] H12))) (
Qx 0 [(nth l 0),(nth l 1)] H)
theorem zQq:LpI P 35 zMp 48 zNp:=.mk (by kernel_rfl) fun l H N Qx Qr=>by kernel_rfl
def zVy(t0 t1:Value)(H:Heap)(K:VH):Prop:=
opW (zwe H (zNH [t0,(.int .i64 4096)])) fun t8 H1=>
opW (zwe H1 (zPH [(.int .i64 0),t8])) fun t9 H3=>
opW ((zlc P 89).f t9 t9 H3) fun t10 H5=>
opW (zwe H5 (zNH [t1,(.int .i64 100000)])) fun t12 H7=>
opW (zwe H7 (zPH [(.int .i64 0),t12])) fun t13 H9=>
opP ((zAa P 92).f [(0,t10),(2,t13),(3,(.int .i64 (-1)))]) fun t14=>
zlb (zFa t14) H9 fun t15 H12=>
opP (zda t15) fun t17=>
opP (zca 0 t17) fun t18=>
opW (zba t18 H12) fun t19 H16=>
opW (lenSl t19 H16) fun t20 H18=>
zdb P true 35 zMp 48 [(.pointer none),t15,t20,(.int .i64 0)] H18 (fun id l H20=>
cond (Nat.beq id 0) (
K (nth l 1) H20) (
False)) (fun l H20=>
K (nth l 0) H20)
theorem zWy{t0 t1:Value}{H:Heap}{K:VH}(h:zVy t0 t1 H K):wCall P zJi [t0,t1] H K:=zea rfl (Eq.mpr (by kernel_rfl) h)
noncomputable abbrev zOp:Code:=zOa P zKi 0
def zPp(l:List Value)(H:Heap)(N:LN)(Qx:LX)(Qr:LN):Prop:=
opP ((zsa P .lss 3 false).f (nth l 3) (nth l 2)) fun t24=>
wIf t24 (
opP (zda (nth l 1)) fun t27=>
opP (zca 0 t27) fun t28=>
opW (zba t28 H) fun t29 H4=>
wCall P zLc [] H4 fun t31 H6=>
zrc (zjc H4 H6) (zNa [t28])∧(opP (zWa 64 t29 (nth l 3)) fun t32=>
opW (zka 64 t32 t31 H6) fun u H9=>
opP ((zsa P .add 3 true).f (nth l 3) (.int .i64 1)) fun t33=>
N [(nth l 0),(nth l 1),(nth l 2),t33] H9)) (
Qx 0 [(nth l 0),(nth l 1)] H)
theorem zRq:LpI P 35 zOp 80 zPp:=.mk (by kernel_rfl) fun l H N Qx Qr=>by kernel_rfl
def zXy(t0 t1:Value)(H:Heap)(K:VH):Prop:=
wCall P zHf [t0,(.int .i64 4096)] H fun t9 H1=>
opW ((zlc P 99).f t9 t9 H1) fun t11 H3=>
opW ((zlc P 31).f t9 t9 H3) fun t13 H5=>
wCall P zHf [t1,(.int .i64 100000)] (bare H5) fun t15 H7=>
ziM H7 H5∧(
opP ((zAa P 102).f [(0,t11),(1,t13),(2,t15)]) fun t16=>
zlb (zFa t16) H5 fun t17 H10=>
opP (zda t17) fun t19=>
opP (zca 0 t19) fun t20=>
opW (zba t20 H10) fun t21 H14=>
opW (lenSl t21 H14) fun t22 H16=>
zdb P true 35 zOp 80 [(.pointer none),t17,t22,(.int .i64 0)] H16 (fun id l H18=>
cond (Nat.beq id 0) (
K (nth l 1) H18) (
False)) (fun l H18=>
K (nth l 0) H18))
theorem zYy{t0 t1:Value}{H:Heap}{K:VH}(h:zXy t0 t1 H K):wCall P zKi [t0,t1] H K:=zea rfl (Eq.mpr (by kernel_rfl) h)
def zGv(t0 t1 t2 t3:Value)(H:Heap)(K:VH):Prop:=
zlb (zFa t3) H fun t7 H1=>
opW (zna 75 t7 H1) fun t12 H3=>
wCall P zMc [t12] H3 fun t13 H5=>
opP (unA .not t13) fun t14=>
wIf t14 (
K (.tuple [(.pointer none),(.int .i64 111)].toArray) H5) (
wCall P zJh [t0,t1,t2] H5 fun t19 H8=>
opP (zNb 0 t19) fun t20=>
opP (zNb 1 t19) fun t21=>
opW (zna 75 t7 H8) fun t24 H12=>
wCall P zIf [t21,t24] H12 fun t25 H14=>
opP ((zAa P 109).f [(0,t20),(1,t25)]) fun t26=>
zlb (zFa t26) H14 fun t27 H17=>
K (.tuple [t27,(.int .i64 0)].toArray) H17)
theorem zbx{t0 t1 t2 t3:Value}{H:Heap}{K:VH}(h:zGv t0 t1 t2 t3 H K):wCall P zYj [t0,t1,t2,t3] H K:=zea rfl (Eq.mpr (by kernel_rfl) h)
noncomputable abbrev zcj:Code:=zOa P zqh 0
def zun(l:List Value)(H:Heap)(N:LN)(Qx:LX)(Qr:LN):Prop:=
opP ((zsa P .lss 3 false).f (nth l 4) (nth l 3)) fun t34=>
wIf t34 (
opP (zWa 1 (nth l 2) (nth l 4)) fun t36=>
opW (zba t36 H) fun t37 H3=>
opP ((zsa P .eql 3 true).f (nth l 4) (.int .i64 0)) fun t39=>
wIf t39 (
opW (zje t37 H3) fun t42 H6=>
wCall P zMi [t42] H6 fun t43 H8=>
opP (zNb 0 t43) fun t44=>
opP (zNb 1 t43) fun t45=>
zlb (zc P 30) H8 fun t14 H12=>
opW (zka 75 t14 t44 H12) fun u H14=>
opP ((zsa P .neq 3 true).f t45 (.int .i64 0)) fun t47=>
wIf t47 (
Qr [(nth l 1),(nth l 1)] H14) (
opW (zna 75 t14 H14) fun t50 H17=>
opP (zda (nth l 1)) fun t51=>
opP (zca 1 t51) fun t52=>
opW (zka 75 t52 t50 H17) fun u_1 H21=>
opP ((zsa P .add 3 true).f (nth l 4) (.int .i64 1)) fun t79=>
N [(nth l 0),(nth l 1),(nth l 2),(nth l 3),t79] H21)) (
opW (zje t37 H3) fun t55 H24=>
wCall P zNi [t55] H24 fun t56 H26=>
opP (zNb 0 t56) fun t57=>
opP (zNb 1 t56) fun t58=>
opP (zda (nth l 1)) fun t61=>
opP (zca 1 t61) fun t62=>
opW (zna 75 t62 H26) fun t63 H32=>
wCall P zIe [t63,t57] H32 fun t65 H34=>
opP (zNb 0 t65) fun t66=>
opP (zNb 1 t65) fun t67=>
zlb (zc P 30) H34 fun t18 H38=>
opW (zka 75 t18 t66 H38) fun u_2 H40=>
zab (fun J=>
opP ((zsa P .neq 3 true).f t58 (.int .i64 0)) fun t69=>
wIf t69 (
opP (zra t69 (.bool true) undef) fun t73=>
J [(nth l 0),(nth l 1),t18,(nth l 2),(nth l 3),(nth l 4),t73] H40) (
opP ((zsa P .neq 3 true).f t67 (.int .i64 0)) fun t72=>
opP (zra t69 (.bool true) t72) fun t73_1=>
J [(nth l 0),(nth l 1),t18,(nth l 2),(nth l 3),(nth l 4),t73_1] H40)) (fun l_1 H47=>
wIf (nth l_1 6) (
Qr [(nth l_1 1),(nth l_1 1)] H47) (
opW (zna 75 (nth l_1 2) H47) fun t76 H49=>
opP (zda (nth l_1 1)) fun t77=>
opP (zca 1 t77) fun t78=>
opW (zka 75 t78 t76 H49) fun u_3 H53=>
opP ((zsa P .add 3 true).f (nth l_1 5) (.int .i64 1)) fun t79_1=>
N [(nth l_1 0),(nth l_1 1),(nth l_1 3),(nth l_1 4),t79_1] H53)))) (
Qx 0 [(nth l 0),(nth l 1)] H)
theorem zXo:LpI P 81 zcj 2304 zun:=.mk (by kernel_rfl) fun l H N Qx Qr=>by kernel_rfl
def zHv(t0 t1 t2 t3:Value)(H:Heap)(K:VH):Prop:=
zlb (zFa t3) H fun t7 H1=>
wCall P zbk [t0,t1,t2] H1 fun t24 H3=>
opP (zNb 0 t24) fun t25=>
opP (zNb 1 t24) fun t26=>
opW (zna 75 t7 H3) fun t28 H7=>
opP ((zAa P 64).f [(0,t25),(1,t28)]) fun t29=>
zlb (zFa t29) H7 fun t30 H10=>
opW (lenSl t26 H10) fun t32 H12=>
zdb P true 81 zcj 2304 [(.pointer none),t30,t26,t32,(.int .i64 0)] H12 (fun id l H14=>
cond (Nat.beq id 0) (
K (nth l 1) H14) (
False)) (fun l H14=>
K (nth l 0) H14)
theorem zcx{t0 t1 t2 t3:Value}{H:Heap}{K:VH}(h:zHv t0 t1 t2 t3 H K):wCall P zqh [t0,t1,t2,t3] H K:=zea rfl (Eq.mpr (by kernel_rfl) h)
def zgk(t0:Value)(H:Heap)(K:VH):Prop:=
opP (zda t0) fun t4=>
opP (zca 0 t4) fun t5=>
opW (zba t5 H) fun t6 H3=>
K t6 H3
theorem zvn{t0:Value}{H:Heap}{K:VH}(h:zgk t0 H K):wCall P zCd [t0] H K:=zea rfl (Eq.mpr (by kernel_rfl) h)
def zTg(t0 t1:Value)(H:Heap)(K:VH):Prop:=
opW (zwe H (zPH [t1,(.int .i64 (-1))])) fun t6 H1=>
opP (zda t0) fun t7=>
opP (zca 3 t7) fun t8=>
opW (zka 1 t8 t6 H1) fun u H5=>
K (.tuple [].toArray) H5
theorem zIj{t0 t1:Value}{H:Heap}{K:VH}(h:zTg t0 t1 H K):wCall P zoc [t0,t1] H K:=zea rfl (Eq.mpr (by kernel_rfl) h)
def zKs(t0 t1:Value)(H:Heap)(K:VH):Prop:=
opP ((zsa P .geq 3 true).f t1 (.int .i64 0)) fun t6=>
opP (zda t0) fun t7=>
opP (zca 4 t7) fun t8=>
opW (zka 1 t8 t6 H) fun u H4=>
opP (zda t0) fun t11=>
opP (zca 5 t11) fun t12=>
opW (zka 1 t12 t1 H4) fun u_1 H8=>
K (.tuple [].toArray) H8
theorem zuu{t0 t1:Value}{H:Heap}{K:VH}(h:zKs t0 t1 H K):wCall P zwg [t0,t1] H K:=zea rfl (Eq.mpr (by kernel_rfl) h)
def zIv(t0:Value)(H:Heap)(K:VH):Prop:=
wCall P zKc [t0] H fun t9 H1=>
wCall P zxm [t9] H1 fun t10 H3=>
opP (zNb 0 t10) fun t11=>
opP (zNb 1 t10) fun t12=>
opP ((zsa P .eql 3 true).f t11 (.int .i64 (-1))) fun t14=>
wIf t14 (
K (.tuple [(.int .i64 (-1)),(.int .i64 121)].toArray) H3) (
wCall P zfg [t0,t12] H3 fun t17 H8=>
opP ((zsa P .neq 38 true).f t17 (.int .i64 0)) fun t19=>
wIf t19 (
K (.tuple [(.int .i64 (-1)),t17].toArray) H8) (
K (.tuple [t11,(.int .i64 0)].toArray) H8))
theorem zdx{t0:Value}{H:Heap}{K:VH}(h:zIv t0 H K):wCall P zZj [t0] H K:=zea rfl (Eq.mpr (by kernel_rfl) h)
def zLs(t0:Value)(H:Heap)(K:VH):Prop:=
opP (zda t0) fun t9=>
opP (zca 1 t9) fun t10=>
opW (zna 75 t10 H) fun t11 H3=>
wCall P zck [t11] H3 fun t12 H5=>
opP (zNb 0 t12) fun t13=>
opP (zNb 1 t12) fun t14=>
opP ((zsa P .eql 3 true).f t13 (.int .i64 (-1))) fun t16=>
wIf t16 (
K (.tuple [(.int .i64 (-1)),(.int .i64 121)].toArray) H5) (
wCall P zUo [t0,t14] H5 fun t19 H10=>
opP ((zsa P .neq 3 true).f t19 (.int .i64 0)) fun t21=>
wIf t21 (
K (.tuple [(.int .i64 (-1)),t19].toArray) H10) (
K (.tuple [t13,(.int .i64 0)].toArray) H10))
theorem zvu{t0:Value}{H:Heap}{K:VH}(h:zLs t0 H K):wCall P zLi [t0] H K:=zea rfl (Eq.mpr (by kernel_rfl) h)
def zci(t0:Value)(H:Heap)(K:VH):Prop:=
zlb (zc P 30) H fun t2 H1=>
opP (zda t0) fun t4=>
opP (zca 1 t4) fun t5=>
opW (zna 75 t5 H1) fun t6 H5=>
opW (zka 75 t2 t6 H5) fun u H7=>
opW (zna 75 t2 H7) fun r _=>
K r H7
theorem zkl{t0:Value}{H:Heap}{K:VH}(h:zci t0 H K):wCall P zKc [t0] H K:=zea rfl (Eq.mpr (by kernel_rfl) h)
noncomputable abbrev zwn:Code:=zOa P zrh 0
def zxn(l:List Value)(H:Heap)(N:LN)(Qx:LX)(Qr:LN):Prop:=
opP ((zsa P .lss 3 false).f (nth l 4) (nth l 3)) fun t14=>
wIf t14 (
opP (zWa 4 (nth l 0) (nth l 4)) fun t18=>
opW (zna 4 t18 H) fun t19 H3=>
opP (zWa 4 (nth l 1) (nth l 4)) fun t22=>
opW (zna 4 t22 H3) fun t23 H6=>
opP ((zsa P .neq 121 false).f t19 t23) fun t24=>
wIf t24 (
Qr [(.bool false)] H6) (
opP ((zsa P .add 3 true).f (nth l 4) (.int .i64 1)) fun t25=>
N [(nth l 0),(nth l 1),(nth l 2),(nth l 3),t25] H6)) (
Qx 0 [(nth l 2)] H)
theorem zYo:LpI P 26 zwn 16 zxn:=.mk (by kernel_rfl) fun l H N Qx Qr=>by kernel_rfl
def zJv(t0 t1:Value)(H:Heap)(K:VH):Prop:=
opW (lenSl t0 H) fun t7 H1=>
opW (lenSl t1 H1) fun t9 H3=>
opP ((zsa P .neq 3 false).f t7 t9) fun t10=>
wIf t10 (
K (.bool false) H3) (
opW (lenSl t0 H3) fun t12 H6=>
zdb P true 26 zwn 16 [t0,t1,(.bool false),t12,(.int .i64 0)] H6 (fun id l H8=>
cond (Nat.beq id 0) (
K (.bool true) H8) (
False)) (fun l H8=>
K (nth l 0) H8))
theorem zex{t0 t1:Value}{H:Heap}{K:VH}(h:zJv t0 t1 H K):wCall P zrh [t0,t1] H K:=zea rfl (Eq.mpr (by kernel_rfl) h)
def zQp(t0:Value)(H:Heap)(K:VH):Prop:=
opP (zda t0) fun t5=>
opP (zca 3 t5) fun t6=>
opW (zba t6 H) fun t7 H3=>
opP (zda t0) fun t9=>
opP (zca 3 t9) fun t10=>
opW (zka 1 t10 (.slice none 0 0) H3) fun u H7=>
K t7 H7
theorem zMs{t0:Value}{H:Heap}{K:VH}(h:zQp t0 H K):wCall P zIh [t0] H K:=zea rfl (Eq.mpr (by kernel_rfl) h)
def zKv(t0:Value)(H:Heap)(K:VH):Prop:=
opP (zda t0) fun t5=>
opP (zca 3 t5) fun t6=>
opW (zba t6 H) fun t7 H3=>
opP (zda t0) fun t9=>
opP (zca 3 t9) fun t10=>
opW (zka 1 t10 (.slice none 0 0) H3) fun u H7=>
K t7 H7
theorem zfx{t0:Value}{H:Heap}{K:VH}(h:zKv t0 H K):wCall P zak [t0] H K:=zea rfl (Eq.mpr (by kernel_rfl) h)
noncomputable abbrev zWe:Code:=zOa P zqb 0
noncomputable abbrev zXe:Code:=zOa P zqb 1
def zYe(l:List Value)(H:Heap)(N:LN)(Qx:LX)(Qr:LN):Prop:=
opP ((zsa P .lss 3 false).f (nth l 4) (nth l 3)) fun t15=>
wIf t15 (
opP (zWa 65 (nth l 2) (nth l 4)) fun t17=>
opW (zna 65 t17 H) fun t18 H3=>
zlb (zc P 123) H3 fun t5 H5=>
opW (zka 65 t5 t18 H5) fun u H7=>
opW (lenSl (nth l 1) H7) fun t21 H9=>
opP ((zsa P .lss 3 false).f (nth l 4) t21) fun t22=>
wIf t22 (
opP (zWa 1 (nth l 1) (nth l 4)) fun t25=>
opW (zba t25 H9) fun t26 H13=>
opW (zob .i64 t26 H13) fun t27 H15=>
opW (zwe H15 (zNH [t27,(.int .i64 64)])) fun t28 H17=>
opP (zda (nth l 0)) fun t30=>
opP (zca 0 t30) fun t31=>
opW (zba t31 H17) fun t32 H21=>
opP (zca 0 t5) fun t33=>
opW (zba t33 H21) fun t34 H24=>
opP (zWa 129 t32 t34) fun t35=>
opP (zca 0 t35) fun t36=>
opP (zmc 64 1 t36 none (some t28) none H24) fun t38=>
opP (zca 1 t5) fun t39=>
opP (zmc 64 1 t39 none (some t28) none H24) fun t41=>
opW (znj 1 t38 t41 H24) fun t42 H31=>
opP ((zsa P .add 3 true).f (nth l 4) (.int .i64 1)) fun t43=>
N [(nth l 0),(nth l 1),(nth l 2),(nth l 3),t43] H31) (
opP ((zsa P .add 3 true).f (nth l 4) (.int .i64 1)) fun t43_1=>
N [(nth l 0),(nth l 1),(nth l 2),(nth l 3),t43_1] H9)) (
Qx 0 [(nth l 0)] H)
theorem zUg:LpI P 80 zWe 1 zYe:=.mk (by kernel_rfl) fun l H N Qx Qr=>by kernel_rfl
def zZe(l:List Value)(H:Heap)(N:LN)(Qx:LX)(Qr:LN):Prop:=
opP ((zsa P .lss 3 false).f (nth l 3) (nth l 2)) fun t50=>
wIf t50 (
opP (zWa 65 (nth l 1) (nth l 3)) fun t51=>
opW (zna 65 t51 H) fun t52 H3=>
zlb (zc P 123) H3 fun t8 H5=>
opW (zka 65 t8 t52 H5) fun u H7=>
opP (zda (nth l 0)) fun t54=>
opP (zca 0 t54) fun t55=>
opW (zba t55 H7) fun t56 H11=>
opP (zca 0 t8) fun t57=>
opW (zba t57 H11) fun t58 H14=>
opP (zda (nth l 0)) fun t60=>
opP (zca 0 t60) fun t61=>
opW (zba t61 H14) fun t62 H18=>
opP (zca 0 t8) fun t63=>
opW (zba t63 H18) fun t64 H21=>
opP (zWa 129 t62 t64) fun t65=>
opP (zca 0 t65) fun t66=>
opW (zna 64 t66 H21) fun t67 H25=>
opP (zWa 129 t56 t58) fun t68=>
opP (zca 64 t68) fun t69=>
opW (zka 64 t69 t67 H25) fun u_1 H29=>
opP ((zsa P .add 3 true).f (nth l 3) (.int .i64 1)) fun t70=>
N [(nth l 0),(nth l 1),(nth l 2),t70] H29) (
Qx 2 [(nth l 0)] H)
theorem zVg:LpI P 80 zXe 1 zZe:=.mk (by kernel_rfl) fun l H N Qx Qr=>by kernel_rfl
def zjg(t0 t1:Value)(H:Heap)(K:VH):Prop:=
opP (zda t0) fun t10=>
opP (zca 1 t10) fun t11=>
opW (zba t11 H) fun t12 H3=>
opW (lenSl t12 H3) fun t13 H5=>
zdb P true 80 zWe 1 [t0,t1,t12,t13,(.int .i64 0)] H5 (fun id l H7=>
cond (Nat.beq id 0) (
opP (zda (nth l 0)) fun t45=>
opP (zca 1 t45) fun t46=>
opW (zba t46 H7) fun t47 H11=>
opW (lenSl t47 H11) fun t48 H13=>
zdb P true 80 zXe 1 [(nth l 0),t47,t48,(.int .i64 0)] H13 (fun id l_1 H15=>
cond (Nat.beq id 2) (
opP (zda (nth l_1 0)) fun t74=>
opP (zca 1 t74) fun t75=>
opW (zka 1 t75 (.slice none 0 0) H15) fun u H19=>
opP (zda (nth l_1 0)) fun t76=>
opP (zca 3 t76) fun t77=>
opW (zka 1 t77 (.int .i64 (-1)) H19) fun u_1 H23=>
opP (zda (nth l_1 0)) fun t78=>
opP (zca 4 t78) fun t79=>
opW (zka 1 t79 (.bool false) H23) fun u_2 H27=>
K (.tuple [].toArray) H27) (
False)) (fun l_1 H15=>
K (.tuple [].toArray) H15)) (
False)) (fun l H7=>
K (.tuple [].toArray) H7)
theorem zdj{t0 t1:Value}{H:Heap}{K:VH}(h:zjg t0 t1 H K):wCall P zqb [t0,t1] H K:=zea rfl (Eq.mpr (by kernel_rfl) h)
noncomputable abbrev zpj:Code:=zOa P zzc 0
noncomputable abbrev zqj:Code:=zOa P zzc 1
def zrj(l:List Value)(H:Heap)(N:LN)(Qx:LX)(Qr:LN):Prop:=
opP ((zsa P .lss 3 false).f (nth l 4) (nth l 3)) fun t13=>
wIf t13 (
opP (zWa 65 (nth l 2) (nth l 4)) fun t15=>
opW (zna 65 t15 H) fun t16 H3=>
zlb (zc P 125) H3 fun t5 H5=>
opW (zka 65 t5 t16 H5) fun u H7=>
zdb P true 57 zqj 7171 [(nth l 0),(nth l 1),(nth l 4),t5,(nth l 2),(nth l 3),(nth l 4),(.int .i64 0)] H7 (fun id l_1 H9=>
cond (Nat.beq id 2) (
opP ((zsa P .add 3 true).f (nth l_1 4) (.int .i64 1)) fun t47=>
N [(nth l_1 0),(nth l_1 1),(nth l_1 2),(nth l_1 3),t47] H9) (
cond (Nat.beq id 1) (
opP ((zsa P .add 3 true).f (nth l_1 4) (.int .i64 1)) fun t47_1=>
N [(nth l_1 0),(nth l_1 1),(nth l_1 2),(nth l_1 3),t47_1] H9) (
Qx id [(nth l_1 0)] H9))) (fun l_1 H9=>
Qr [(nth l_1 0)] H9)) (
Qx 0 [(nth l 0)] H)
theorem zll:LpI P 57 zpj 1 zrj:=.mk (by kernel_rfl) fun l H N Qx Qr=>by kernel_rfl
def zsj(l:List Value)(H:Heap)(N:LN)(Qx:LX)(Qr:LN):Prop:=
opP ((zsa P .lss 3 true).f (nth l 7) (.int .i64 64)) fun t18=>
wIf t18 (
zab (fun J=>
opW (lenSl (nth l 1) H) fun t22 H3=>
opP ((zsa P .lss 3 false).f (nth l 2) t22) fun t23=>
wIf t23 (
opP (zWa 1 (nth l 1) (nth l 2)) fun t28=>
opW (zba t28 H3) fun t29 H7=>
opW (zob .i64 t29 H7) fun t30 H9=>
opP ((zsa P .lss 3 false).f (nth l 7) t30) fun t31=>
opP (zra t23 t31 (.bool false)) fun t32=>
J [(nth l 0),(nth l 1),(nth l 2),(nth l 3),(nth l 7),(nth l 4),(nth l 5),(nth l 6),(nth l 7),t32] H9) (
opP (zra t23 undef (.bool false)) fun t32_1=>
J [(nth l 0),(nth l 1),(nth l 2),(nth l 3),(nth l 7),(nth l 4),(nth l 5),(nth l 6),(nth l 7),t32_1] H3)) (fun l_1 H14=>
wIf (nth l_1 9) (
opP (zda (nth l_1 0)) fun t34=>
opP (zca 0 t34) fun t35=>
opW (zba t35 H14) fun t36 H18=>
opP (zca 0 (nth l_1 3)) fun t37=>
opW (zba t37 H18) fun t38 H21=>
opP (zca 1 (nth l_1 3)) fun t41=>
opP (zJa 64 1 t41 (nth l_1 4)) fun t42=>
opW (zba t42 H21) fun t43 H25=>
opP (zWa 64 t36 t38) fun t44=>
opP (zJa 64 1 t44 (nth l_1 4)) fun t45=>
opW (zka 1 t45 t43 H25) fun u H29=>
opP ((zsa P .add 3 true).f (nth l_1 8) (.int .i64 1)) fun t46=>
N [(nth l_1 0),(nth l_1 1),(nth l_1 2),(nth l_1 3),(nth l_1 5),(nth l_1 6),(nth l_1 7),t46] H29) (
opP ((zsa P .add 3 true).f (nth l_1 8) (.int .i64 1)) fun t46_1=>
N [(nth l_1 0),(nth l_1 1),(nth l_1 2),(nth l_1 3),(nth l_1 5),(nth l_1 6),(nth l_1 7),t46_1] H14))) (
Qx 2 [(nth l 0),(nth l 1),(nth l 4),(nth l 5),(nth l 6)] H)
theorem zml:LpI P 57 zqj 7171 zsj:=.mk (by kernel_rfl) fun l H N Qx Qr=>by kernel_rfl
def zyn(t0 t1:Value)(H:Heap)(K:VH):Prop:=
opP (zda t0) fun t8=>
opP (zca 3 t8) fun t9=>
opW (zba t9 H) fun t10 H3=>
opW (lenSl t10 H3) fun t11 H5=>
zdb P true 57 zpj 1 [t0,t1,t10,t11,(.int .i64 0)] H5 (fun id l H7=>
cond (Nat.beq id 0) (
opP (zda (nth l 0)) fun t49=>
opP (zca 3 t49) fun t50=>
opW (zka 1 t50 (.slice none 0 0) H7) fun u H11=>
opP (zda (nth l 0)) fun t52=>
opP (zca 4 t52) fun t53=>
opW (zka 1 t53 (.bool false) H11) fun u_1 H15=>
opP (zda (nth l 0)) fun t55=>
opP (zca 6 t55) fun t56=>
opW (zka 1 t56 (.bool false) H15) fun u_2 H19=>
K (.tuple [].toArray) H19) (
False)) (fun l H7=>
K (.tuple [].toArray) H7)
theorem zSq{t0 t1:Value}{H:Heap}{K:VH}(h:zyn t0 t1 H K):wCall P zzc [t0,t1] H K:=zea rfl (Eq.mpr (by kernel_rfl) h)
def zZy(t0:Value)(H:Heap)(K:VH):Prop:=
zlb (zFa t0) H fun t1 H1=>
opW (zna 75 t1 H1) fun t13 H3=>
wCall P zym [t13] H3 fun t14 H5=>
opP (zNb 0 t14) fun t15=>
opP (zNb 1 t14) fun t16=>
zlb (zc P 127) H5 fun t4 H9=>
opW (zka 75 t4 t15 H9) fun u H11=>
zab (fun J=>
wIf t16 (
opW (zna 75 t4 H11) fun t18 H14=>
wCall P zbe [t18] H14 fun t19 H16=>
J [t4,t19] H16) (
J [t4,(.int .i64 (-1))] H11)) (fun l H18=>
opP ((zsa P .eql 3 true).f (nth l 1) (.int .i64 (-1))) fun t21=>
wIf t21 (
K (.tuple [(.int .i64 (-1)),(.slice none 0 0)].toArray) H18) (
zab (fun J_1=>
opP (zca 0 (nth l 0)) fun t23=>
opP (zca 72 t23) fun t24=>
opW (zba t24 H18) fun t25 H24=>
opP ((zsa P .neq 3 false).f (nth l 1) t25) fun t26=>
wIf t26 (
zab (fun J_2=>
opW (zna 75 (nth l 0) H24) fun t27 H28=>
opP (zca 0 (nth l 0)) fun t28=>
opP (zca 72 t28) fun t29=>
opW (zba t29 H28) fun t30 H32=>
wCall P zJf [t27,t30,(.int .i64 2)] H32 fun t31 H34=>
wIf t31 (
opP (zca 0 (nth l 0)) fun t33=>
opP (zca 72 t33) fun t34=>
opW (zba t34 H34) fun t35 H38=>
opP (zca 0 (nth l 0)) fun t36=>
opP (zca 0 t36) fun t37=>
opP (zJa 2 36 t37 t35) fun t38=>
opW (zna 36 t38 H38) fun t39 H43=>
wCall P zVo [t39] H43 fun t40 H45=>
opP (zNb 0 t40) fun t41=>
opP (zNb 1 t40) fun t42=>
zlb (zc P 27) H45 fun t8 H49=>
opW (zka 36 t8 t41 H49) fun u_1 H51=>
opP (zca 0 (nth l 0)) fun t44=>
opP (zca 72 t44) fun t45=>
opW (zba t45 H51) fun t46 H55=>
opW (zna 36 t8 H55) fun t47 H57=>
wCall P zal [t46,t47] H57 fun t48 H59=>
opW ((zpa P 71 1).f [(0,t48)] H59) fun t49 H61=>
opW (zva 40 96 (.slice none 0 0) t49 H61) fun t50 H63=>
J_2 [(nth l 0),(nth l 1),t50] H63) (
J_2 [(nth l 0),(nth l 1),(.slice none 0 0)] H34)) (fun l_1 H65=>
wCall P zOi [(nth l_1 1)] H65 fun t53 H67=>
opW ((zpa P 71 1).f [(0,t53)] H67) fun t54 H69=>
opW (zva 40 96 (nth l_1 2) t54 H69) fun t55 H71=>
J_1 [(nth l_1 0),(nth l_1 1),t55] H71)) (
J_1 [(nth l 0),(nth l 1),(.slice none 0 0)] H24)) (fun l_2 H73=>
zab (fun J_3=>
opW (zna 75 (nth l_2 0) H73) fun t56 H76=>
wCall P zJf [t56,(nth l_2 1),(.int .i64 2)] H76 fun t58 H78=>
wIf t58 (
opP (zca 0 (nth l_2 0)) fun t61=>
opP (zca 0 t61) fun t62=>
opP (zJa 2 36 t62 (nth l_2 1)) fun t63=>
opW (zna 36 t63 H78) fun t64 H83=>
wCall P zWo [t64] H83 fun t65 H85=>
opP (zNb 0 t65) fun t66=>
opP (zNb 1 t65) fun t67=>
zlb (zc P 27) H85 fun t10 H89=>
opW (zka 36 t10 t66 H89) fun u_2 H91=>
opW (zna 36 t10 H91) fun t70 H93=>
wCall P zal [(nth l_2 1),t70] H93 fun t71 H95=>
opW ((zpa P 71 1).f [(0,t71)] H95) fun t72 H97=>
opW (zva 40 96 (nth l_2 2) t72 H97) fun t73 H99=>
J_3 [(nth l_2 1),t73] H99) (
J_3 [(nth l_2 1),(nth l_2 2)] H78)) (fun l_3 H101=>
opP ((zAa P 81).f [(0,(.int .i64 3)),(2,(nth l_3 0))]) fun t77=>
opW ((zpa P 71 1).f [(0,t77)] H101) fun t78 H104=>
opW (zva 40 96 (nth l_3 1) t78 H104) fun t79 H106=>
K (.tuple [(nth l_3 0),t79].toArray) H106))))
theorem zaz{t0:Value}{H:Heap}{K:VH}(h:zZy t0 H K):wCall P zxm [t0] H K:=zea rfl (Eq.mpr (by kernel_rfl) h)
def zNs(t0:Value)(H:Heap)(K:VH):Prop:=
zlb (zFa t0) H fun t1 H1=>
zab (fun J=>
opP (zca 1 t1) fun t5=>
opW (zba t5 H1) fun t6 H5=>
opP ((zsa P .eql 3 true).f t6 (.int .i64 0)) fun t7=>
wIf t7 (
opP (zca 2 t1) fun t9=>
opW (zba t9 H5) fun t10 H9=>
opP ((zsa P .eql 23 true).f t10 (.int .u64 0)) fun t11=>
opP (zra t7 t11 (.bool false)) fun t12=>
wIf t12 (
opP (zca 3 t1) fun t14=>
opW (zba t14 H9) fun t15 H14=>
opP ((zsa P .eql 3 true).f t15 (.int .i64 0)) fun t16=>
opP (zra t12 t16 (.bool false)) fun t17=>
wIf t17 (
opP (zca 4 t1) fun t19=>
opW (zna 32 t19 H14) fun t20 H19=>
opP ((zAa P 25).f []) fun t21=>
opP ((zsa P .eql 25 false).f t20 t21) fun t22=>
opP (zra t17 t22 (.bool false)) fun t23=>
J [t1,t23] H19) (
opP (zra t17 undef (.bool false)) fun t23_1=>
J [t1,t23_1] H14)) (
opP (zra t12 undef (.bool false)) fun t17_1=>
opP (zra t17_1 undef (.bool false)) fun t23_2=>
J [t1,t23_2] H9)) (
opP (zra t7 undef (.bool false)) fun t12_1=>
opP (zra t12_1 undef (.bool false)) fun t17_2=>
opP (zra t17_2 undef (.bool false)) fun t23_3=>
J [t1,t23_3] H5)) (fun l H30=>
zab (fun J_1=>
opP (zca 2 (nth l 0)) fun t24=>
opW (zba t24 H30) fun t25 H34=>
opP ((zsa P .geq 23 true).f t25 (.int .u64 1)) fun t26=>
wIf t26 (
opP (zca 2 (nth l 0)) fun t28=>
opW (zba t28 H34) fun t29 H38=>
opP ((zsa P .leq 23 true).f t29 (.int .u64 281474976710656)) fun t30=>
opP (zra t26 t30 (.bool false)) fun t31=>
wIf t31 (
opP (zca 3 (nth l 0)) fun t33=>
opW (zba t33 H38) fun t34 H43=>
opP ((zsa P .geq 3 true).f t34 (.int .i64 1)) fun t35=>
opP (zra t31 t35 (.bool false)) fun t36=>
wIf t36 (
opP (zca 3 (nth l 0)) fun t38=>
opW (zba t38 H43) fun t39 H48=>
opP ((zsa P .leq 3 true).f t39 (.int .i64 65536)) fun t40=>
opP (zra t36 t40 (.bool false)) fun t41=>
J_1 [(nth l 0),(nth l 1),t41] H48) (
opP (zra t36 undef (.bool false)) fun t41_1=>
J_1 [(nth l 0),(nth l 1),t41_1] H43)) (
opP (zra t31 undef (.bool false)) fun t36_1=>
opP (zra t36_1 undef (.bool false)) fun t41_2=>
J_1 [(nth l 0),(nth l 1),t41_2] H38)) (
opP (zra t26 undef (.bool false)) fun t31_1=>
opP (zra t31_1 undef (.bool false)) fun t36_2=>
opP (zra t36_2 undef (.bool false)) fun t41_3=>
J_1 [(nth l 0),(nth l 1),t41_3] H34)) (fun l_1 H58=>
zab (fun J_2=>
opP (zca 0 (nth l_1 0)) fun t42=>
opW (zba t42 H58) fun t43 H62=>
opP ((zsa P .eql 3 true).f t43 (.int .i64 0)) fun t44=>
wIf t44 (
opP (zra t44 (.bool true) undef) fun t49=>
opP (zra t49 (.bool true) undef) fun t54=>
J_2 [(nth l_1 0),(nth l_1 1),(nth l_1 2),t54] H62) (
opP (zca 0 (nth l_1 0)) fun t46=>
opW (zba t46 H62) fun t47 H68=>
opP ((zsa P .eql 3 true).f t47 (.int .i64 1)) fun t48=>
opP (zra t44 (.bool true) t48) fun t49_1=>
wIf t49_1 (
opP (zra t49_1 (.bool true) undef) fun t54_1=>
J_2 [(nth l_1 0),(nth l_1 1),(nth l_1 2),t54_1] H68) (
opP (zca 0 (nth l_1 0)) fun t51=>
opW (zba t51 H68) fun t52 H74=>
opP ((zsa P .eql 3 true).f t52 (.int .i64 4)) fun t53=>
opP (zra t49_1 (.bool true) t53) fun t54_2=>
J_2 [(nth l_1 0),(nth l_1 1),(nth l_1 2),t54_2] H74))) (fun l_2 H78=>
wIf (nth l_2 3) (
K (nth l_2 1) H78) (
opP (zca 0 (nth l_2 0)) fun t56=>
opW (zba t56 H78) fun t57 H81=>
opP ((zsa P .eql 3 true).f t57 (.int .i64 2)) fun t58=>
wIf t58 (
wIf (nth l_2 2) (
opP (zca 1 (nth l_2 0)) fun t61=>
opW (zba t61 H81) fun t62 H85=>
opP ((zsa P .geq 3 true).f t62 (.int .i64 0)) fun t63=>
opP (zra (nth l_2 2) t63 (.bool false)) fun t64=>
wIf t64 (
opP (zca 1 (nth l_2 0)) fun t66=>
opW (zba t66 H85) fun t67 H90=>
opP ((zsa P .leq 3 true).f t67 (.int .i64 7)) fun t68=>
opP (zra t64 t68 (.bool false)) fun t69=>
K t69 H90) (
opP (zra t64 undef (.bool false)) fun t69_1=>
K t69_1 H85)) (
opP (zra (nth l_2 2) undef (.bool false)) fun t64_1=>
opP (zra t64_1 undef (.bool false)) fun t69_2=>
K t69_2 H81)) (
opP (zca 0 (nth l_2 0)) fun t70=>
opW (zba t70 H81) fun t71 H98=>
opP ((zsa P .eql 3 true).f t71 (.int .i64 3)) fun t72=>
wIf t72 (
opP (zra t72 (nth l_2 2) (.bool false)) fun t75=>
wIf t75 (
opP (zca 1 (nth l_2 0)) fun t77=>
opW (zba t77 H98) fun t78 H103=>
opP ((zsa P .eql 3 true).f t78 (.int .i64 0)) fun t79=>
opP (zra t75 t79 (.bool false)) fun t80=>
K t80 H103) (
opP (zra t75 undef (.bool false)) fun t80_1=>
K t80_1 H98)) (
opP (zra t72 undef (.bool false)) fun t75_1=>
opP (zra t75_1 undef (.bool false)) fun t80_2=>
K t80_2 H98))))))
theorem zwu{t0:Value}{H:Heap}{K:VH}(h:zNs t0 H K):wCall P zHb [t0] H K:=zea rfl (Eq.mpr (by kernel_rfl) h)
def zdi(t0:Value)(H:Heap)(K:VH):Prop:=
opP (zda t0) fun t4=>
opP (zca 0 t4) fun t5=>
opW (zba t5 H) fun t6 H3=>
opW (lenSl t6 H3) fun t7 H5=>
K t7 H5
theorem znl{t0:Value}{H:Heap}{K:VH}(h:zdi t0 H K):wCall P zee [t0] H K:=zea rfl (Eq.mpr (by kernel_rfl) h)
noncomputable abbrev zIl:Code:=zOa P zIb 0
def zJl(l:List Value)(H:Heap)(N:LN)(Qx:LX)(Qr:LN):Prop:=
opP ((zsa P .lss 3 true).f (nth l 2) (.int .i64 64)) fun t4=>
wIf t4 (
opP (zJa 64 1 (nth l 1) (nth l 2)) fun t7=>
opW (zka 1 t7 (.int .u8 255) H) fun u H3=>
opP ((zsa P .add 3 true).f (nth l 2) (.int .i64 1)) fun t8=>
N [(nth l 0),(nth l 1),t8] H3) (
Qx 0 [(nth l 0),(nth l 1)] H)
theorem zzn:LpI P 10 zIl 3 zJl:=.mk (by kernel_rfl) fun l H N Qx Qr=>by kernel_rfl
def zOs(H:Heap)(K:VH):Prop:=
zlb (zc P 94) H fun t0 H1=>
zlb (zc P 94) H1 fun t1 H3=>
zdb P true 10 zIl 3 [t0,t1,(.int .i64 0)] H3 (fun id l H5=>
cond (Nat.beq id 0) (
opW (zna 64 (nth l 1) H5) fun t9 H7=>
opW (zka 64 (nth l 0) t9 H7) fun u H9=>
opW (zna 64 (nth l 0) H9) fun r _=>
K r H9) (
False)) (fun l H5=>
opW (zna 64 (nth l 0) H5) fun r_1 _=>
K r_1 H5)
theorem zxu{H:Heap}{K:VH}(h:zOs  H K):wCall P zIb [] H K:=zea rfl (Eq.mpr (by kernel_rfl) h)
def zRp(t0 t1:Value)(H:Heap)(K:VH):Prop:=
opP ((zsa P .lss 3 true).f t0 (.int .i64 0)) fun t6=>
wIf t6 (
K (.int .i64 0) H) (
opP ((zsa P .gtr 3 false).f t0 t1) fun t9=>
wIf t9 (
K t1 H) (
K t0 H))
theorem zPs{t0 t1:Value}{H:Heap}{K:VH}(h:zRp t0 t1 H K):wCall P zHf [t0,t1] H K:=zea rfl (Eq.mpr (by kernel_rfl) h)
noncomputable abbrev zKl:Code:=zOa P zLc 0
def zLl(l:List Value)(H:Heap)(N:LN)(Qx:LX)(Qr:LN):Prop:=
opP ((zsa P .lss 3 true).f (nth l 2) (.int .i64 64)) fun t5=>
wIf t5 (
opP (zJa 64 1 (nth l 1) (nth l 2)) fun t8=>
opW (zka 1 t8 (.int .u8 255) H) fun u H3=>
opP ((zsa P .add 3 true).f (nth l 2) (.int .i64 1)) fun t9=>
N [(nth l 0),(nth l 1),t9] H3) (
Qx 0 [(nth l 0),(nth l 1)] H)
theorem zAn:LpI P 11 zKl 3 zLl:=.mk (by kernel_rfl) fun l H N Qx Qr=>by kernel_rfl
def zQs(H:Heap)(K:VH):Prop:=
zlb (zc P 94) H fun t0 H1=>
opP ((zAa P 94).f []) fun t3=>
zlb (zc P 94) H1 fun t1 H4=>
opW (zka 64 t1 t3 H4) fun u H6=>
zdb P true 11 zKl 3 [t0,t1,(.int .i64 0)] H6 (fun id l H8=>
cond (Nat.beq id 0) (
opW (zna 64 (nth l 1) H8) fun t10 H10=>
opW (zka 64 (nth l 0) t10 H10) fun u_1 H12=>
opW (zna 64 (nth l 0) H12) fun r _=>
K r H12) (
False)) (fun l H8=>
opW (zna 64 (nth l 0) H8) fun r_1 _=>
K r_1 H8)
theorem zyu{H:Heap}{K:VH}(h:zQs  H K):wCall P zLc [] H K:=zea rfl (Eq.mpr (by kernel_rfl) h)
def zRs(t0:Value)(H:Heap)(K:VH):Prop:=
zlb (zFa t0) H fun t1 H1=>
opP (zca 0 t1) fun t3=>
opP (zJa 2 36 t3 (.int .i64 0)) fun t4=>
opW (zna 36 t4 H1) fun t5 H5=>
wCall P zXb [t5] H5 fun t6 H7=>
wIf t6 (
opP (zca 0 t1) fun t8=>
opP (zJa 2 36 t8 (.int .i64 1)) fun t9=>
opW (zna 36 t9 H7) fun t10 H11=>
wCall P zXb [t10] H11 fun t11 H13=>
opP (zra t6 t11 (.bool false)) fun t12=>
wIf t12 (
opP (zca 72 t1) fun t14=>
opW (zba t14 H13) fun t15 H17=>
wCall P zNc [t15] H17 fun t16 H19=>
opP (zra t12 t16 (.bool false)) fun t17=>
wIf t17 (
opP (zca 73 t1) fun t19=>
opW (zba t19 H19) fun t20 H23=>
opP ((zsa P .eql 3 true).f t20 (.int .i64 (-1))) fun t21=>
wIf t21 (
opP (zra t21 (.bool true) undef) fun t26=>
opP (zra t17 t26 (.bool false)) fun t27=>
opP (zca 74 t1) fun t29=>
opW (zba t29 H23) fun t30 H29=>
opP ((zsa P .leq 23 true).f t30 (.int .u64 281474976710656)) fun t31=>
opP (zra t27 t31 (.bool false)) fun t32=>
K t32 H29) (
opP (zca 73 t1) fun t23=>
opW (zba t23 H23) fun t24 H34=>
wCall P zNc [t24] H34 fun t25 H36=>
opP (zra t21 (.bool true) t25) fun t26_1=>
opP (zra t17 t26_1 (.bool false)) fun t27_1=>
wIf t27_1 (
opP (zca 74 t1) fun t29_1=>
opW (zba t29_1 H36) fun t30_1 H41=>
opP ((zsa P .leq 23 true).f t30_1 (.int .u64 281474976710656)) fun t31_1=>
opP (zra t27_1 t31_1 (.bool false)) fun t32_1=>
K t32_1 H41) (
opP (zra t27_1 undef (.bool false)) fun t32_2=>
K t32_2 H36))) (
opP (zra t17 undef (.bool false)) fun t27_2=>
opP (zra t27_2 undef (.bool false)) fun t32_3=>
K t32_3 H19)) (
opP (zra t12 undef (.bool false)) fun t17_1=>
opP (zra t17_1 undef (.bool false)) fun t27_3=>
opP (zra t27_3 undef (.bool false)) fun t32_4=>
K t32_4 H13)) (
opP (zra t6 undef (.bool false)) fun t12_1=>
opP (zra t12_1 undef (.bool false)) fun t17_2=>
opP (zra t17_2 undef (.bool false)) fun t27_4=>
opP (zra t27_4 undef (.bool false)) fun t32_5=>
K t32_5 H7)
theorem zzu{t0:Value}{H:Heap}{K:VH}(h:zRs t0 H K):wCall P zMc [t0] H K:=zea rfl (Eq.mpr (by kernel_rfl) h)
def zSp(t0 t1 t2:Value)(H:Heap)(K:VH):Prop:=
opP ((zAa P 22).f [(0,t1),(1,t2)]) fun t14=>
opP ((zAa P 137).f [(0,t0),(1,t14),(2,(.int .i64 1))]) fun t15=>
zlb (zFa t15) H fun t16 H3=>
wCall P zVc [t0,t1] H3 fun t19 H5=>
wCall P zVc [t0,t2] H5 fun t22 H7=>
zlb (zc P 139) H7 fun t9 H9=>
zlb (zc P 139) H9 fun t10 H11=>
opW (zka 3 t9 t19 H11) fun u H13=>
opW (zka 3 t10 t22 H13) fun u_1 H15=>
zab (fun J=>
zab (fun J_1=>
opP (zca 0 t9) fun t23=>
opW (zba t23 H15) fun t24 H20=>
opW (lenSl t24 H20) fun t25 H22=>
opP ((zsa P .gtr 3 true).f t25 (.int .i64 0)) fun t26=>
wIf t26 (
opP (zca 0 t10) fun t28=>
opW (zba t28 H22) fun t29 H26=>
opW (lenSl t29 H26) fun t30 H28=>
opP ((zsa P .eql 3 true).f t30 (.int .i64 0)) fun t31=>
wIf t31 (
opP (zra t31 (.bool true) undef) fun t38=>
opP (zra t26 t38 (.bool false)) fun t39=>
J_1 [t16,t9,t10,t39] H28) (
opP (zca 1 t9) fun t33=>
opW (zba t33 H28) fun t34 H34=>
opP (zca 1 t10) fun t35=>
opW (zba t35 H34) fun t36 H37=>
opP ((zsa P .gtr 23 false).f t34 t36) fun t37=>
opP (zra t31 (.bool true) t37) fun t38_1=>
opP (zra t26 t38_1 (.bool false)) fun t39_1=>
J_1 [t16,t9,t10,t39_1] H37)) (
opP (zra t26 undef (.bool false)) fun t39_2=>
J_1 [t16,t9,t10,t39_2] H22)) (fun l H43=>
wIf (nth l 3) (
opW (zna 3 (nth l 1) H43) fun t41 H45=>
opP (zda (nth l 0)) fun t42=>
opP (zca 3 t42) fun t43=>
opW (zka 1 t43 (.int .i64 0) H45) fun u_2 H49=>
zOf (zNa [(nth l 1)]) (zNa [t43,(.int .i64 0)])∧(opW (zka 3 (nth l 2) t41 H49) fun u_3 H51=>
J [(nth l 0),(nth l 2)] H51)) (
J [(nth l 0),(nth l 2)] H43))) (fun l_1 H53=>
opP (zca 2 (nth l_1 1)) fun t45=>
opW (zba t45 H53) fun t46 H56=>
opP (zda (nth l_1 0)) fun t47=>
opP (zca 4 t47) fun t48=>
opW (zka 1 t48 t46 H56) fun u_4 H60=>
opP (zca 0 (nth l_1 1)) fun t50=>
opW (zba t50 H60) fun t51 H63=>
K (.tuple [(nth l_1 0),t51].toArray) H63)
theorem zSs{t0 t1 t2:Value}{H:Heap}{K:VH}(h:zSp t0 t1 t2 H K):wCall P zJh [t0,t1,t2] H K:=zea rfl (Eq.mpr (by kernel_rfl) h)
noncomputable abbrev zhk:Code:=zOa P zIf 0
def zik(l:List Value)(H:Heap)(N:LN)(Qx:LX)(Qr:LN):Prop:=
opP ((zsa P .lss 3 false).f (nth l 4) (nth l 3)) fun t31=>
wIf t31 (
opP (zWa 1 (nth l 2) (nth l 4)) fun t32=>
opW (zba t32 H) fun t33 H3=>
wCall P zPi [t33] H3 fun t36 H5=>
opP (zNb 0 t36) fun t37=>
opP (zNb 1 t36) fun t38=>
opP ((zsa P .neq 38 true).f t38 (.int .i64 0)) fun t40=>
wIf t40 (
opW (zna 75 (nth l 1) H5) fun t41 H10=>
opW (zka 75 (nth l 0) t41 H10) fun u H12=>
Qr [(nth l 0),(nth l 1)] H12) (
opW (zna 75 (nth l 1) H5) fun t43 H14=>
wCall P zJe [t43,t37] H14 fun t45 H16=>
opP (zNb 0 t45) fun t46=>
opP (zNb 1 t45) fun t47=>
zlb (zc P 30) H16 fun t11 H20=>
opW (zka 75 t11 t46 H20) fun u_1 H22=>
opP ((zsa P .neq 38 true).f t47 (.int .i64 0)) fun t49=>
wIf t49 (
opW (zna 75 (nth l 1) H22) fun t50 H25=>
opW (zka 75 (nth l 0) t50 H25) fun u_2 H27=>
Qr [(nth l 0),(nth l 1)] H27) (
opW (zna 75 t11 H22) fun t51 H29=>
opW (zka 75 (nth l 1) t51 H29) fun u_3 H31=>
opP ((zsa P .add 3 true).f (nth l 4) (.int .i64 1)) fun t52=>
N [(nth l 0),(nth l 1),(nth l 2),(nth l 3),t52] H31))) (
Qx 0 [(nth l 0),(nth l 1)] H)
theorem zFm:LpI P 54 zhk 48 zik:=.mk (by kernel_rfl) fun l H N Qx Qr=>by kernel_rfl
def zTp(t0 t1:Value)(H:Heap)(K:VH):Prop:=
zlb (zFa t1) H fun t3 H1=>
zlb (zc P 30) H1 fun t4 H3=>
opW (lenSl t0 H3) fun t14 H5=>
opP ((zsa P .eql 3 true).f t14 (.int .i64 0)) fun t15=>
wIf t15 (
opW (zna 75 t3 H5) fun t16 H8=>
opW (zka 75 t4 t16 H8) fun u H10=>
opW (zna 75 t4 H10) fun r _=>
K r H10) (
opP (zWa 1 t0 (.int .i64 0)) fun t19=>
opW (zba t19 H5) fun t20 H14=>
wCall P zxg [t20] H14 fun t21 H16=>
opP (zNb 0 t21) fun t22=>
opP (zNb 1 t21) fun t23=>
zlb (zc P 30) H16 fun t5 H20=>
opW (zka 75 t5 t22 H20) fun u_1 H22=>
opP ((zsa P .neq 38 true).f t23 (.int .i64 0)) fun t25=>
wIf t25 (
opW (zna 75 t3 H22) fun t26 H25=>
opW (zka 75 t4 t26 H25) fun u_2 H27=>
opW (zna 75 t4 H27) fun r_1 _=>
K r_1 H27) (
opP (zLa 1 t0 (some (.int .i64 1)) none none) fun t28=>
opW (lenSl t28 H22) fun t29 H31=>
zdb P true 54 zhk 48 [t4,t5,t28,t29,(.int .i64 0)] H31 (fun id l H33=>
cond (Nat.beq id 0) (
opW (zna 75 (nth l 1) H33) fun t53 H35=>
opW (zka 75 (nth l 0) t53 H35) fun u_3 H37=>
opW (zna 75 (nth l 0) H37) fun r_2 _=>
K r_2 H37) (
False)) (fun l H33=>
opW (zna 75 (nth l 0) H33) fun r_3 _=>
K r_3 H33)))
theorem zTs{t0 t1:Value}{H:Heap}{K:VH}(h:zTp t0 t1 H K):wCall P zIf [t0,t1] H K:=zea rfl (Eq.mpr (by kernel_rfl) h)
def zLv(t0 t1 t2:Value)(H:Heap)(K:VH):Prop:=
wCall P zUd [t0,t1] H fun t18 H1=>
opP (zNb 0 t18) fun t19=>
opP (zNb 1 t18) fun t20=>
opP (zNb 2 t18) fun t21=>
wCall P zUd [t0,t2] H1 fun t25 H6=>
opP (zNb 0 t25) fun t26=>
opP (zNb 1 t25) fun t27=>
opP (zNb 2 t25) fun t28=>
opP ((zAa P 22).f [(0,t1),(1,t2)]) fun t32=>
opP ((zAa P 148).f [(0,t0),(1,t32),(2,(.int .i64 1)),(4,t28)]) fun t34=>
zlb (zFa t34) H6 fun t35 H13=>
zab (fun J=>
opW (lenSl t26 H13) fun t37 H16=>
opP ((zsa P .eql 3 true).f t37 (.int .i64 0)) fun t38=>
wIf t38 (
opW (lenSl t19 H16) fun t41 H19=>
opP ((zsa P .gtr 3 true).f t41 (.int .i64 0)) fun t42=>
opP (zra t38 t42 (.bool false)) fun t43=>
wIf t43 (
opP (zra t43 (.bool true) undef) fun t53=>
J [t19,t21,t26,t35,t53] H19) (
opW (lenSl t19 H19) fun t46 H24=>
opP ((zsa P .gtr 3 true).f t46 (.int .i64 0)) fun t47=>
wIf t47 (
opP ((zsa P .gtr 23 false).f t20 t27) fun t51=>
opP (zra t47 t51 (.bool false)) fun t52=>
opP (zra t43 (.bool true) t52) fun t53_1=>
J [t19,t21,t26,t35,t53_1] H24) (
opP (zra t47 undef (.bool false)) fun t52_1=>
opP (zra t43 (.bool true) t52_1) fun t53_2=>
J [t19,t21,t26,t35,t53_2] H24))) (
opP (zra t38 undef (.bool false)) fun t43_1=>
opW (lenSl t19 H16) fun t46_1 H33=>
opP ((zsa P .gtr 3 true).f t46_1 (.int .i64 0)) fun t47_1=>
wIf t47_1 (
opP ((zsa P .gtr 23 false).f t20 t27) fun t51_1=>
opP (zra t47_1 t51_1 (.bool false)) fun t52_2=>
opP (zra t43_1 (.bool true) t52_2) fun t53_3=>
J [t19,t21,t26,t35,t53_3] H33) (
opP (zra t47_1 undef (.bool false)) fun t52_3=>
opP (zra t43_1 (.bool true) t52_3) fun t53_4=>
J [t19,t21,t26,t35,t53_4] H33))) (fun l H41=>
wIf (nth l 4) (
opP (zda (nth l 3)) fun t55=>
opP (zca 3 t55) fun t56=>
opW (zka 1 t56 (.int .i64 0) H41) fun u H45=>
opP (zda (nth l 3)) fun t59=>
opP (zca 5 t59) fun t60=>
opW (zka 1 t60 (nth l 1) H45) fun u_1 H49=>
K (.tuple [(nth l 3),(nth l 0)].toArray) H49) (
K (.tuple [(nth l 3),(nth l 2)].toArray) H41))
theorem zgx{t0 t1 t2:Value}{H:Heap}{K:VH}(h:zLv t0 t1 t2 H K):wCall P zbk [t0,t1,t2] H K:=zea rfl (Eq.mpr (by kernel_rfl) h)
def zUs(t0:Value)(H:Heap)(K:VH):Prop:=
zlb (zc P 30) H fun t2 H1=>
opW (lenSl t0 H1) fun t10 H3=>
opP ((zsa P .neq 3 true).f t10 (.int .i64 102)) fun t11=>
wIf t11 (
opP ((zAa P 30).f []) fun t12=>
opW (zka 75 t2 t12 H3) fun u H7=>
opW (zna 75 t2 H7) fun r _=>
K (.tuple [r,(.int .i64 111)].toArray) H7) (
opP ((zAa P 151).f [(0,t0)]) fun t14=>
zlb (zFa t14) H3 fun t15 H11=>
wCall P ztd [t15] H11 fun t18 H13=>
opP (zNb 0 t18) fun t19=>
opP (zNb 1 t18) fun t20=>
zlb (zc P 27) H13 fun t5 H17=>
opW (zka 36 t5 t19 H17) fun u_1 H19=>
opP ((zsa P .neq 3 true).f t20 (.int .i64 0)) fun t22=>
wIf t22 (
opP ((zAa P 30).f []) fun t23=>
opW (zka 75 t2 t23 H19) fun u_2 H23=>
opW (zna 75 t2 H23) fun r_1 _=>
K (.tuple [r_1,(.int .i64 111)].toArray) H23) (
wCall P ztd [t15] H19 fun t26 H26=>
opP (zNb 0 t26) fun t27=>
opP (zNb 1 t26) fun t28=>
zlb (zc P 27) H26 fun t7 H30=>
opW (zka 36 t7 t27 H30) fun u_3 H32=>
opW (zna 36 t5 H32) fun t29 H34=>
opW (zna 36 t7 H34) fun t30 H36=>
opP ((zAa P 28).f [(0,t29),(1,t30)]) fun t31=>
opP (zWa 1 t0 (.int .i64 92)) fun t33=>
opW (zba t33 H36) fun t34 H40=>
opW (zob .i64 t34 H40) fun t35 H42=>
opP (zWa 1 t0 (.int .i64 93)) fun t37=>
opW (zba t37 H42) fun t38 H45=>
opW (zob .i64 t38 H45) fun t39 H47=>
opP ((zsa P .sub 3 true).f t39 (.int .i64 1)) fun t40=>
opP (zLa 1 t0 (some (.int .i64 94)) none none) fun t42=>
wCall P zKf [t42] H47 fun t43 H51=>
zrc (zjc H47 H51) (zNa [t37])∧(zrc (zjc H47 H51) (zNa [t33])∧(zrc (zjc H47 H51) (zNa [t7])∧(zrc (zjc H47 H51) (zNa [t5])∧(opP ((zAa P 30).f [(0,t31),(1,t35),(2,t40),(3,t43)]) fun t44=>
zlb (zc P 30) H51 fun t8 H54=>
opW (zka 75 t8 t44 H54) fun u_4 H56=>
zab (fun J=>
opP ((zsa P .neq 3 true).f t28 (.int .i64 0)) fun t46=>
wIf t46 (
opP (zra t46 (.bool true) undef) fun t51=>
J [t2,t8,t51] H56) (
opW (zna 75 t8 H56) fun t48 H61=>
wCall P zJc [t48] H61 fun t49 H63=>
opP (unA .not t49) fun t50=>
opP (zra t46 (.bool true) t50) fun t51_1=>
J [t2,t8,t51_1] H63)) (fun l H67=>
wIf (nth l 2) (
opP ((zAa P 30).f []) fun t52=>
opW (zka 75 (nth l 0) t52 H67) fun u_5 H70=>
opW (zna 75 (nth l 0) H70) fun r_2 _=>
K (.tuple [r_2,(.int .i64 111)].toArray) H70) (
opW (zna 75 (nth l 1) H67) fun t53 H73=>
opW (zka 75 (nth l 0) t53 H73) fun u_6 H75=>
opW (zna 75 (nth l 0) H75) fun r_3 _=>
K (.tuple [r_3,(.int .i64 0)].toArray) H75))))))))
theorem zAu{t0:Value}{H:Heap}{K:VH}(h:zUs t0 H K):wCall P zMi [t0] H K:=zea rfl (Eq.mpr (by kernel_rfl) h)
noncomputable abbrev zUp:Code:=zOa P zNi 0
def zVp(l:List Value)(H:Heap)(N:LN)(Qx:LX)(Qr:LN):Prop:=
zab (fun J=>
opP ((zsa P .lss 3 false).f (nth l 6) (nth l 4)) fun t18=>
wIf t18 (
opP ((zsa P .lss 3 true).f (nth l 6) (.int .i64 9)) fun t21=>
opP (zra t18 t21 (.bool false)) fun t22=>
wIf t22 (
J [(nth l 0),(nth l 1),(nth l 2),(nth l 3),(nth l 4),(nth l 5),(nth l 6)] H) (
Qx 0 [(nth l 0),(nth l 1),(nth l 2),(nth l 3),(nth l 5)] H)) (
opP (zra t18 undef (.bool false)) fun t22_1=>
wIf t22_1 (
J [(nth l 0),(nth l 1),(nth l 2),(nth l 3),(nth l 4),(nth l 5),(nth l 6)] H) (
Qx 0 [(nth l 0),(nth l 1),(nth l 2),(nth l 3),(nth l 5)] H))) (fun l_1 H6=>
wCall P zbb [(nth l_1 3),(.int .i64 1)] H6 fun t26 H8=>
opW (zob .i64 t26 H8) fun t27 H10=>
opP ((zAa P 81).f [(0,t27)]) fun t28=>
zlb (zc P 81) H10 fun t8 H13=>
opW (zka 40 t8 t28 H13) fun u H15=>
opP (zca 0 t8) fun t29=>
opW (zba t29 H15) fun t30 H18=>
opP ((zsa P .eql 3 true).f t30 (.int .i64 1)) fun t32=>
wIf t32 (
wCall P zbb [(nth l_1 3),(.int .i64 1)] H18 fun t34 H21=>
opW (zob .i64 t34 H21) fun t35 H23=>
opP (zca 1 t8) fun t36=>
opW (zka 1 t36 t35 H23) fun u_1 H26=>
wCall P ztd [(nth l_1 3)] H26 fun t39 H28=>
opP (zNb 0 t39) fun t40=>
opP (zNb 1 t39) fun t41=>
opP (zca 3 t8) fun t42=>
opW (zka 36 t42 t40 H28) fun u_2 H33=>
opW (zna 40 t8 H33) fun t62 H35=>
opW ((zpa P 71 1).f [(0,t62)] H35) fun t63 H37=>
opW (zva 40 96 (nth l_1 5) t63 H37) fun t64 H39=>
opP ((zsa P .add 3 true).f (nth l_1 6) (.int .i64 1)) fun t24=>
N [(nth l_1 0),(nth l_1 1),(nth l_1 2),(nth l_1 3),(nth l_1 4),t64,t24] H39) (
opP ((zsa P .eql 3 true).f t30 (.int .i64 2)) fun t44=>
wIf t44 (
wCall P zbb [(nth l_1 3),(.int .i64 1)] H18 fun t46 H43=>
opW (zob .i64 t46 H43) fun t47 H45=>
opP (zca 2 t8) fun t48=>
opW (zka 1 t48 t47 H45) fun u_3 H48=>
opW (zna 40 t8 H48) fun t62_1 H50=>
opW ((zpa P 71 1).f [(0,t62_1)] H50) fun t63_1 H52=>
opW (zva 40 96 (nth l_1 5) t63_1 H52) fun t64_1 H54=>
opP ((zsa P .add 3 true).f (nth l_1 6) (.int .i64 1)) fun t24_1=>
N [(nth l_1 0),(nth l_1 1),(nth l_1 2),(nth l_1 3),(nth l_1 4),t64_1,t24_1] H54) (
opP ((zsa P .eql 3 true).f t30 (.int .i64 3)) fun t50=>
wIf t50 (
wCall P zbb [(nth l_1 3),(.int .i64 1)] H18 fun t52 H58=>
opW (zob .i64 t52 H58) fun t53 H60=>
opP ((zsa P .sub 3 true).f t53 (.int .i64 1)) fun t54=>
opP (zca 2 t8) fun t55=>
opW (zka 1 t55 t54 H60) fun u_4 H64=>
opW (zna 40 t8 H64) fun t62_2 H66=>
opW ((zpa P 71 1).f [(0,t62_2)] H66) fun t63_2 H68=>
opW (zva 40 96 (nth l_1 5) t63_2 H68) fun t64_2 H70=>
opP ((zsa P .add 3 true).f (nth l_1 6) (.int .i64 1)) fun t24_2=>
N [(nth l_1 0),(nth l_1 1),(nth l_1 2),(nth l_1 3),(nth l_1 4),t64_2,t24_2] H70) (
opP ((zsa P .eql 3 true).f t30 (.int .i64 4)) fun t57=>
wIf t57 (
wCall P zbb [(nth l_1 3),(.int .i64 8)] H18 fun t59 H74=>
opP (zca 39 t8) fun t60=>
opW (zka 1 t60 t59 H74) fun u_5 H77=>
opW (zna 40 t8 H77) fun t62_3 H79=>
opW ((zpa P 71 1).f [(0,t62_3)] H79) fun t63_3 H81=>
opW (zva 40 96 (nth l_1 5) t63_3 H81) fun t64_3 H83=>
opP ((zsa P .add 3 true).f (nth l_1 6) (.int .i64 1)) fun t24_3=>
N [(nth l_1 0),(nth l_1 1),(nth l_1 2),(nth l_1 3),(nth l_1 4),t64_3,t24_3] H83) (
opW (zna 40 t8 H18) fun t62_4 H86=>
opW ((zpa P 71 1).f [(0,t62_4)] H86) fun t63_4 H88=>
opW (zva 40 96 (nth l_1 5) t63_4 H88) fun t64_4 H90=>
opP ((zsa P .add 3 true).f (nth l_1 6) (.int .i64 1)) fun t24_4=>
N [(nth l_1 0),(nth l_1 1),(nth l_1 2),(nth l_1 3),(nth l_1 4),t64_4,t24_4] H90)))))
theorem zTq:LpI P 77 zUp 93 zVp:=.mk (by kernel_rfl) fun l H N Qx Qr=>by kernel_rfl
def zbz(t0:Value)(H:Heap)(K:VH):Prop:=
opP ((zAa P 151).f [(0,t0)]) fun t10=>
zlb (zFa t10) H fun t11 H2=>
wCall P zbb [t11,(.int .i64 1)] H2 fun t13 H4=>
opW (zob .i64 t13 H4) fun t14 H6=>
opW ((zpa P 71 0).f [] H6) fun t15 H8=>
zdb P true 77 zUp 93 [t0,(.slice none 0 0),(.int .i64 0),t11,t14,t15,(.int .i64 0)] H8 (fun id l H10=>
cond (Nat.beq id 0) (
zab (fun J=>
wCall P zQi [(nth l 3)] H10 fun t66 H13=>
opP ((zsa P .neq 3 true).f t66 (.int .i64 0)) fun t67=>
wIf t67 (
opP (zra t67 (.bool true) undef) fun t75=>
J [(nth l 4),t75] H13) (
wCall P zxf [(nth l 4)] H13 fun t70 H17=>
opW (zzb t70 H17) fun t71 H19=>
opW (zzb (nth l 0) H19) fun t73 H21=>
zrc (zjc H13 H17) (zNa [(nth l 0)])∧(opP ((zsa P .neq 9 false).f t71 t73) fun t74=>
opP (zra t67 (.bool true) t74) fun t75_1=>
J [(nth l 4),t75_1] H21))) (fun l_1 H25=>
wIf (nth l_1 1) (
K (.tuple [(.slice none 0 0),(.int .i64 111)].toArray) H25) (
K (.tuple [(nth l_1 0),(.int .i64 0)].toArray) H25))) (
False)) (fun l H10=>
K (.tuple [(nth l 1),(nth l 2)].toArray) H10)
theorem zcz{t0:Value}{H:Heap}{K:VH}(h:zbz t0 H K):wCall P zNi [t0] H K:=zea rfl (Eq.mpr (by kernel_rfl) h)
noncomputable abbrev zMl:Code:=zOa P zIe 0
def zNl(l:List Value)(H:Heap)(N:LN)(Qx:LX)(Qr:LN):Prop:=
opP ((zsa P .lss 3 false).f (nth l 5) (nth l 4)) fun t20=>
wIf t20 (
opP (zWa 40 (nth l 3) (nth l 5)) fun t21=>
opW (zna 40 t21 H) fun t22 H3=>
zlb (zc P 81) H3 fun t7 H5=>
opW (zka 40 t7 t22 H5) fun u H7=>
zab (fun J=>
opP (zca 0 t7) fun t23=>
opW (zba t23 H7) fun t24 H11=>
opP ((zsa P .eql 3 true).f t24 (.int .i64 1)) fun t25=>
wIf t25 (
opP (zca 1 t7) fun t26=>
opW (zba t26 H11) fun t27 H15=>
opP (zca 3 t7) fun t28=>
opW (zna 36 t28 H15) fun t29 H18=>
opP (zca 0 (nth l 0)) fun t30=>
opP (zJa 2 36 t30 t27) fun t31=>
opW (zka 36 t31 t29 H18) fun u_1 H22=>
J [(nth l 0),(nth l 1),(nth l 2),t7,(nth l 3),(nth l 4),(nth l 5)] H22) (
J [(nth l 0),(nth l 1),(nth l 2),t7,(nth l 3),(nth l 4),(nth l 5)] H11)) (fun l_1 H24=>
zab (fun J_1=>
opP (zca 0 (nth l_1 3)) fun t32=>
opW (zba t32 H24) fun t33 H28=>
opP ((zsa P .eql 3 true).f t33 (.int .i64 2)) fun t34=>
wIf t34 (
opP (zca 2 (nth l_1 3)) fun t35=>
opW (zba t35 H28) fun t36 H32=>
opP (zca 72 (nth l_1 0)) fun t37=>
opW (zka 1 t37 t36 H32) fun u_2 H35=>
J_1 [(nth l_1 0),(nth l_1 1),(nth l_1 2),(nth l_1 3),(nth l_1 4),(nth l_1 5),(nth l_1 6)] H35) (
J_1 [(nth l_1 0),(nth l_1 1),(nth l_1 2),(nth l_1 3),(nth l_1 4),(nth l_1 5),(nth l_1 6)] H28)) (fun l_2 H37=>
zab (fun J_2=>
opP (zca 0 (nth l_2 3)) fun t38=>
opW (zba t38 H37) fun t39 H41=>
opP ((zsa P .eql 3 true).f t39 (.int .i64 3)) fun t40=>
wIf t40 (
opP (zca 2 (nth l_2 3)) fun t41=>
opW (zba t41 H41) fun t42 H45=>
opP (zca 73 (nth l_2 0)) fun t43=>
opW (zka 1 t43 t42 H45) fun u_3 H48=>
J_2 [(nth l_2 0),(nth l_2 1),(nth l_2 2),(nth l_2 3),(nth l_2 4),(nth l_2 5),(nth l_2 6)] H48) (
J_2 [(nth l_2 0),(nth l_2 1),(nth l_2 2),(nth l_2 3),(nth l_2 4),(nth l_2 5),(nth l_2 6)] H41)) (fun l_3 H50=>
opP (zca 0 (nth l_3 3)) fun t44=>
opW (zba t44 H50) fun t45 H53=>
opP ((zsa P .eql 3 true).f t45 (.int .i64 4)) fun t46=>
wIf t46 (
opP (zca 39 (nth l_3 3)) fun t47=>
opW (zba t47 H53) fun t48 H57=>
opP (zca 74 (nth l_3 0)) fun t49=>
opW (zba t49 H57) fun t50 H60=>
opP ((zsa P .lss 23 false).f t48 t50) fun t51=>
wIf t51 (
opP ((zAa P 30).f []) fun t52=>
opW (zka 75 (nth l_3 1) t52 H60) fun u_4 H64=>
Qr [(nth l_3 0),(nth l_3 1),(.int .i64 111)] H64) (
opP (zca 39 (nth l_3 3)) fun t53=>
opW (zba t53 H60) fun t54 H67=>
opP (zca 74 (nth l_3 0)) fun t55=>
opW (zka 1 t55 t54 H67) fun u_5 H70=>
opP ((zsa P .add 3 true).f (nth l_3 6) (.int .i64 1)) fun t56=>
N [(nth l_3 0),(nth l_3 1),(nth l_3 2),(nth l_3 4),(nth l_3 5),t56] H70)) (
opP ((zsa P .add 3 true).f (nth l_3 6) (.int .i64 1)) fun t56_1=>
N [(nth l_3 0),(nth l_3 1),(nth l_3 2),(nth l_3 4),(nth l_3 5),t56_1] H53))))) (
Qx 0 [(nth l 0),(nth l 1),(nth l 2)] H)
theorem zBn:LpI P 58 zMl 52 zNl:=.mk (by kernel_rfl) fun l H N Qx Qr=>by kernel_rfl
def zVs(t0 t1:Value)(H:Heap)(K:VH):Prop:=
zlb (zFa t0) H fun t2 H1=>
zlb (zc P 30) H1 fun t4 H3=>
zab (fun J=>
opW (zna 75 t2 H3) fun t8 H6=>
wCall P zJc [t8] H6 fun t9 H8=>
opP (unA .not t9) fun t10=>
wIf t10 (
opP (zra t10 (.bool true) undef) fun t15=>
J [t1,t2,t4,(.int .i64 0),t15] H8) (
wCall P zNg [t1] H8 fun t13 H12=>
opP (unA .not t13) fun t14=>
opP (zra t10 (.bool true) t14) fun t15_1=>
J [t1,t2,t4,(.int .i64 0),t15_1] H12)) (fun l H16=>
wIf (nth l 4) (
opP ((zAa P 30).f []) fun t16=>
opW (zka 75 (nth l 2) t16 H16) fun u H19=>
opW (zna 75 (nth l 2) H19) fun r _=>
K (.tuple [r,(.int .i64 111)].toArray) H19) (
opW (lenSl (nth l 0) H16) fun t18 H22=>
zdb P true 58 zMl 52 [(nth l 1),(nth l 2),(nth l 3),(nth l 0),t18,(.int .i64 0)] H22 (fun id l_1 H24=>
cond (Nat.beq id 0) (
opW (zna 75 (nth l_1 0) H24) fun t57 H26=>
opW (zka 75 (nth l_1 1) t57 H26) fun u_1 H28=>
opW (zna 75 (nth l_1 1) H28) fun r_1 _=>
K (.tuple [r_1,(.int .i64 0)].toArray) H28) (
False)) (fun l_1 H24=>
opW (zna 75 (nth l_1 1) H24) fun r_2 _=>
K (.tuple [r_2,(nth l_1 2)].toArray) H24)))
theorem zBu{t0 t1:Value}{H:Heap}{K:VH}(h:zVs t0 t1 H K):wCall P zIe [t0,t1] H K:=zea rfl (Eq.mpr (by kernel_rfl) h)
def zOl(t0 t1:Value)(H:Heap)(K:VH):Prop:=
opP (zda t0) fun t10=>
opP (zca 1 t10) fun t11=>
opW (zna 75 t11 H) fun t12 H3=>
wCall P zJe [t12,t1] H3 fun t14 H5=>
opP (zNb 0 t14) fun t15=>
opP (zNb 1 t14) fun t16=>
zlb (zc P 30) H5 fun t5 H9=>
opW (zka 75 t5 t15 H9) fun u H11=>
opP ((zsa P .neq 38 true).f t16 (.int .i64 0)) fun t18=>
wIf t18 (
K t16 H11) (
opW (zna 75 t5 H11) fun t21 H14=>
wCall P zKe [t0,t21,t1] H14 fun t23 H16=>
opP ((zsa P .neq 38 true).f t23 (.int .i64 0)) fun t25=>
wIf t25 (
K t23 H16) (
opW (zna 75 t5 H16) fun t28 H19=>
opP (zda t0) fun t29=>
opP (zca 1 t29) fun t30=>
opW (zka 75 t30 t28 H19) fun u_1 H23=>
K (.int .i64 0) H23))
theorem zZo{t0 t1:Value}{H:Heap}{K:VH}(h:zOl t0 t1 H K):wCall P zfg [t0,t1] H K:=zea rfl (Eq.mpr (by kernel_rfl) h)
def zMv(t0:Value)(H:Heap)(K:VH):Prop:=
zlb (zFa t0) H fun t1 H1=>
opW (zna 75 t1 H1) fun t10 H3=>
wCall P zdk [t10] H3 fun t11 H5=>
opW ((zpa P 71 0).f [] H5) fun t12 H7=>
opP ((zsa P .eql 3 true).f t11 (.int .i64 (-1))) fun t14=>
wIf t14 (
K (.tuple [t11,t12].toArray) H7) (
zab (fun J=>
opP (zca 72 t1) fun t18=>
opW (zba t18 H7) fun t19 H12=>
opP ((zsa P .neq 3 false).f t11 t19) fun t20=>
wIf t20 (
opP (zca 72 t1) fun t22=>
opW (zba t22 H12) fun t23 H16=>
opP (zca 0 t1) fun t24=>
opP (zJa 2 36 t24 t23) fun t25=>
opW (zna 36 t25 H16) fun t26 H20=>
wCall P zzm [t26] H20 fun t27 H22=>
opP (zNb 0 t27) fun t28=>
opP (zNb 1 t27) fun t29=>
zlb (zc P 27) H22 fun t6 H26=>
opW (zka 36 t6 t28 H26) fun u H28=>
zab (fun J_1=>
zab (fun J_2=>
opP (zca 72 t1) fun t30=>
opW (zba t30 H28) fun t31 H33=>
opP (zca 0 t1) fun t32=>
opP (zJa 2 36 t32 t31) fun t33=>
opP (zca 0 t33) fun t34=>
opW (zba t34 H33) fun t35 H38=>
opP ((zsa P .eql 3 true).f t35 (.int .i64 2)) fun t36=>
wIf t36 (
opP ((zsa P .eql 3 true).f t29 (.int .i64 0)) fun t39=>
opP (zra t36 t39 (.bool false)) fun t40=>
J_2 [t1,t11,t12,t6,t40] H38) (
opP (zra t36 undef (.bool false)) fun t40_1=>
J_2 [t1,t11,t12,t6,t40_1] H38)) (fun l H44=>
wIf (nth l 4) (
opP (zca 72 (nth l 0)) fun t42=>
opW (zba t42 H44) fun t43 H47=>
opW (zna 36 (nth l 3) H47) fun t44 H49=>
opP ((zAa P 81).f [(0,(.int .i64 1)),(1,t43),(3,t44)]) fun t45=>
opW ((zpa P 71 1).f [(0,t45)] H49) fun t46 H52=>
opW (zva 40 96 (nth l 2) t46 H52) fun t47 H54=>
J_1 [(nth l 0),(nth l 1),t47] H54) (
J_1 [(nth l 0),(nth l 1),(nth l 2)] H44))) (fun l_1 H56=>
opP ((zAa P 81).f [(0,(.int .i64 2)),(2,(nth l_1 1))]) fun t50=>
opW ((zpa P 71 1).f [(0,t50)] H56) fun t51 H59=>
opW (zva 40 96 (nth l_1 2) t51 H59) fun t52 H61=>
J [(nth l_1 0),(nth l_1 1),t52] H61)) (
J [t1,t11,t12] H12)) (fun l_2 H63=>
zab (fun J_3=>
opP (zca 0 (nth l_2 0)) fun t54=>
opP (zJa 2 36 t54 (nth l_2 1)) fun t55=>
opP (zca 0 t55) fun t56=>
opW (zba t56 H63) fun t57 H69=>
opP ((zsa P .eql 3 true).f t57 (.int .i64 2)) fun t58=>
wIf t58 (
opP (zca 0 (nth l_2 0)) fun t61=>
opP (zJa 2 36 t61 (nth l_2 1)) fun t62=>
opW (zna 36 t62 H69) fun t63 H74=>
wCall P zAm [t63] H74 fun t64 H76=>
opP (zNb 0 t64) fun t65=>
opP (zNb 1 t64) fun t66=>
zlb (zc P 27) H76 fun t8 H80=>
opW (zka 36 t8 t65 H80) fun u_1 H82=>
opW (zna 36 t8 H82) fun t69 H84=>
opP ((zAa P 81).f [(0,(.int .i64 1)),(1,(nth l_2 1)),(3,t69)]) fun t70=>
opW ((zpa P 71 1).f [(0,t70)] H84) fun t71 H87=>
opW (zva 40 96 (nth l_2 2) t71 H87) fun t72 H89=>
J_3 [(nth l_2 1),t72] H89) (
J_3 [(nth l_2 1),(nth l_2 2)] H69)) (fun l_3 H91=>
opP ((zAa P 81).f [(0,(.int .i64 3)),(2,(nth l_3 0))]) fun t75=>
opW ((zpa P 71 1).f [(0,t75)] H91) fun t76 H94=>
opW (zva 40 96 (nth l_3 1) t76 H94) fun t77 H96=>
K (.tuple [(nth l_3 0),t77].toArray) H96)))
theorem zhx{t0:Value}{H:Heap}{K:VH}(h:zMv t0 H K):wCall P zck [t0] H K:=zea rfl (Eq.mpr (by kernel_rfl) h)
def zhD(t0 t1:Value)(H:Heap)(K:VH):Prop:=
opP (zda t0) fun t10=>
opP (zca 1 t10) fun t11=>
opW (zna 75 t11 H) fun t12 H3=>
wCall P zIe [t12,t1] H3 fun t14 H5=>
opP (zNb 0 t14) fun t15=>
opP (zNb 1 t14) fun t16=>
zlb (zc P 30) H5 fun t5 H9=>
opW (zka 75 t5 t15 H9) fun u H11=>
opP ((zsa P .neq 3 true).f t16 (.int .i64 0)) fun t18=>
wIf t18 (
K t16 H11) (
opP (zda t0) fun t21=>
opP (zca 0 t21) fun t22=>
opW (zba t22 H11) fun t23 H16=>
opP (zda t23) fun t24=>
opP (zca 6 t24) fun t25=>
opW (zba t25 H16) fun t26 H20=>
opP (unA .not t26) fun t27=>
zab (fun J=>
opP (unA .not t27) fun t29=>
wIf t29 (
opP (zda t0) fun t31=>
opP (zca 0 t31) fun t32=>
opW (zba t32 H20) fun t33 H27=>
wCall P zxf [t1] H27 fun t35 H29=>
zrc (zjc H27 H29) (zNa [t32])∧(opW (zzb t35 H29) fun t36 H31=>
wCall P zKh [t33,t36] H31 fun t37 H33=>
opP ((zsa P .eql 3 true).f t37 (.int .i64 92)) fun t39=>
J [t0,t5,t37,t39] H33)) (
J [t0,t5,t16,t27] H20)) (fun l H36=>
zab (fun J_1=>
wIf (nth l 3) (
opP (zda (nth l 0)) fun t42=>
opP (zca 0 t42) fun t43=>
opW (zba t43 H36) fun t44 H41=>
opW (zna 75 (nth l 1) H41) fun t45 H43=>
wCall P zSi [t45] H43 fun t46 H45=>
zrc (zjc H43 H45) (zNa [t43])∧(opW (zzb t46 H45) fun t47 H47=>
wCall P zRi [t44,t47] H47 fun t48 H49=>
J_1 [(nth l 0),(nth l 1),t48] H49)) (
J_1 [(nth l 0),(nth l 1),(nth l 2)] H36)) (fun l_1 H51=>
opP ((zsa P .eql 3 true).f (nth l_1 2) (.int .i64 0)) fun t50=>
wIf t50 (
opW (zna 75 (nth l_1 1) H51) fun t52 H54=>
opP (zda (nth l_1 0)) fun t53=>
opP (zca 1 t53) fun t54=>
opW (zka 75 t54 t52 H54) fun u_1 H58=>
K (nth l_1 2) H58) (
K (nth l_1 2) H51))))
theorem zzB{t0 t1:Value}{H:Heap}{K:VH}(h:zhD t0 t1 H K):wCall P zUo [t0,t1] H K:=zea rfl (Eq.mpr (by kernel_rfl) h)
def zdz(t0:Value)(H:Heap)(K:VH):Prop:=
zlb (zFa t0) H fun t1 H1=>
zlb (zc P 127) H1 fun t2 H3=>
opW (zna 75 t1 H3) fun t4 H5=>
opP ((zAa P 127).f [(0,t4)]) fun t5=>
opW (zna 75 t1 H5) fun t6 H8=>
wCall P zMc [t6] H8 fun t7 H10=>
zrc (zjc H8 H10) (zNa [t1])∧(opW (zka 75 t2 t5 H10) fun u H12=>
opW (zna 75 t2 H12) fun r _=>
K (.tuple [r,t7].toArray) H12)
theorem zez{t0:Value}{H:Heap}{K:VH}(h:zdz t0 H K):wCall P zym [t0] H K:=zea rfl (Eq.mpr (by kernel_rfl) h)
noncomputable abbrev zei:Code:=zOa P zbe 0
def zfi(l:List Value)(H:Heap)(N:LN)(Qx:LX)(Qr:LN):Prop:=
opP ((zsa P .lss 3 true).f (nth l 3) (.int .i64 2)) fun t12=>
wIf t12 (
opP (zWr 2 1 (zpu P 3).f (nth l 2) (nth l 3)) fun t13=>
opP (zca 0 (nth l 0)) fun t15=>
opP (zca 0 t15) fun t16=>
opP (zJa 2 36 t16 t13) fun t17=>
opW (zna 36 t17 H) fun t18 H6=>
wCall P zOg [t18] H6 fun t19 H8=>
wIf t19 (
Qr [t13] H8) (
opP ((zsa P .add 3 true).f (nth l 3) (.int .i64 1)) fun t21=>
N [(nth l 0),(nth l 1),(nth l 2),t21] H8)) (
Qx 0 [(nth l 1)] H)
theorem zjk:LpI P 22 zei 4 zfi:=.mk (by kernel_rfl) fun l H N Qx Qr=>by kernel_rfl
def zPl(t0:Value)(H:Heap)(K:VH):Prop:=
zlb (zFa t0) H fun t1 H1=>
opP (zca 0 t1) fun t5=>
opP (zca 72 t5) fun t6=>
opW (zba t6 H1) fun t7 H5=>
opW (zna 75 t1 H5) fun t8 H7=>
wCall P zwf [t8] H7 fun t9 H9=>
zrc (zjc H7 H9) (zNa [t6])∧(opP ((zAa P 22).f [(0,t7),(1,t9)]) fun t10=>
zdb P true 22 zei 4 [t1,(.int .i64 0),t10,(.int .i64 0)] H9 (fun id l H12=>
cond (Nat.beq id 0) (
K (.int .i64 (-1)) H12) (
False)) (fun l H12=>
K (nth l 0) H12))
theorem zap{t0:Value}{H:Heap}{K:VH}(h:zPl t0 H K):wCall P zbe [t0] H K:=zea rfl (Eq.mpr (by kernel_rfl) h)
def zWp(t0 t1 t2:Value)(H:Heap)(K:VH):Prop:=
zlb (zFa t0) H fun t3 H1=>
opP (zca 0 t3) fun t8=>
opP (zca 0 t8) fun t9=>
opP (zJa 2 36 t9 t1) fun t10=>
opP (zca 0 t10) fun t11=>
opW (zba t11 H1) fun t12 H7=>
opP ((zsa P .eql 3 false).f t12 t2) fun t14=>
K t14 H7
theorem zWs{t0 t1 t2:Value}{H:Heap}{K:VH}(h:zWp t0 t1 t2 H K):wCall P zJf [t0,t1,t2] H K:=zea rfl (Eq.mpr (by kernel_rfl) h)
def ziD(t0:Value)(H:Heap)(K:VH):Prop:=
zlb (zFa t0) H fun t1 H1=>
zlb (zc P 27) H1 fun t2 H3=>
zab (fun J=>
opW (zna 36 t1 H3) fun t4 H6=>
wCall P zXb [t4] H6 fun t5 H8=>
opP (unA .not t5) fun t6=>
wIf t6 (
opP (zra t6 (.bool true) undef) fun t11=>
J [t2,t11] H8) (
opW (zna 36 t1 H8) fun t8 H12=>
wCall P zBm [t8] H12 fun t9 H14=>
opP (unA .not t9) fun t10=>
opP (zra t6 (.bool true) t10) fun t11_1=>
J [t2,t11_1] H14)) (fun l H18=>
wIf (nth l 1) (
opP ((zAa P 27).f []) fun t12=>
opW (zka 36 (nth l 0) t12 H18) fun u H21=>
opW (zna 36 (nth l 0) H21) fun r _=>
K (.tuple [r,(.int .i64 101)].toArray) H21) (
opP ((zAa P 27).f [(0,(.int .i64 4))]) fun t13=>
opW (zka 36 (nth l 0) t13 H18) fun u_1 H25=>
opW (zna 36 (nth l 0) H25) fun r_1 _=>
K (.tuple [r_1,(.int .i64 0)].toArray) H25))
theorem zAB{t0:Value}{H:Heap}{K:VH}(h:ziD t0 H K):wCall P zVo [t0] H K:=zea rfl (Eq.mpr (by kernel_rfl) h)
def zjD(t0 t1:Value)(H:Heap)(K:VH):Prop:=
zlb (zFa t1) H fun t3 H1=>
zlb (zc P 81) H1 fun t4 H3=>
opW (zna 36 t3 H3) fun t6 H5=>
opP ((zAa P 81).f [(0,(.int .i64 1)),(1,t0),(3,t6)]) fun t7=>
opW (zka 40 t4 t7 H5) fun u H8=>
opW (zna 40 t4 H8) fun r _=>
K r H8
theorem zBB{t0 t1:Value}{H:Heap}{K:VH}(h:zjD t0 t1 H K):wCall P zal [t0,t1] H K:=zea rfl (Eq.mpr (by kernel_rfl) h)
def zXs(t0:Value)(H:Heap)(K:VH):Prop:=
zlb (zc P 81) H fun t2 H1=>
opP ((zAa P 81).f [(0,(.int .i64 2)),(2,t0)]) fun t4=>
opW (zka 40 t2 t4 H1) fun u H4=>
opW (zna 40 t2 H4) fun r _=>
K r H4
theorem zCu{t0:Value}{H:Heap}{K:VH}(h:zXs t0 H K):wCall P zOi [t0] H K:=zea rfl (Eq.mpr (by kernel_rfl) h)
def zkD(t0:Value)(H:Heap)(K:VH):Prop:=
zlb (zFa t0) H fun t1 H1=>
zlb (zc P 27) H1 fun t2 H3=>
zab (fun J=>
opW (zna 36 t1 H3) fun t4 H6=>
wCall P zXb [t4] H6 fun t5 H8=>
opP (unA .not t5) fun t6=>
wIf t6 (
opP (zra t6 (.bool true) undef) fun t11=>
opP (zra t11 (.bool true) undef) fun t16=>
J [t1,t2,t16] H8) (
opP (zca 0 t1) fun t8=>
opW (zba t8 H8) fun t9 H14=>
opP ((zsa P .neq 3 true).f t9 (.int .i64 2)) fun t10=>
opP (zra t6 (.bool true) t10) fun t11_1=>
wIf t11_1 (
opP (zra t11_1 (.bool true) undef) fun t16_1=>
J [t1,t2,t16_1] H14) (
opP (zca 1 t1) fun t13=>
opW (zba t13 H14) fun t14 H20=>
opP ((zsa P .eql 3 true).f t14 (.int .i64 0)) fun t15=>
opP (zra t11_1 (.bool true) t15) fun t16_2=>
J [t1,t2,t16_2] H20))) (fun l H24=>
wIf (nth l 2) (
opP ((zAa P 27).f []) fun t17=>
opW (zka 36 (nth l 1) t17 H24) fun u H27=>
opW (zna 36 (nth l 1) H27) fun r _=>
K (.tuple [r,(.int .i64 101)].toArray) H27) (
opP (zca 1 (nth l 0)) fun t18=>
opW (zba t18 H24) fun t19 H31=>
opP ((zsa P .sub 3 true).f t19 (.int .i64 1)) fun t20=>
opP (zca 1 (nth l 0)) fun t21=>
opW (zka 1 t21 t20 H31) fun u_1 H35=>
opW (zna 36 (nth l 0) H35) fun t22 H37=>
opW (zka 36 (nth l 1) t22 H37) fun u_2 H39=>
opW (zna 36 (nth l 1) H39) fun r_1 _=>
K (.tuple [r_1,(.int .i64 0)].toArray) H39))
theorem zCB{t0:Value}{H:Heap}{K:VH}(h:zkD t0 H K):wCall P zWo [t0] H K:=zea rfl (Eq.mpr (by kernel_rfl) h)
def zNv(t0:Value)(H:Heap)(K:VH):Prop:=
zlb (zFa t0) H fun t1 H1=>
zab (fun J=>
opP (zca 0 t1) fun t3=>
opW (zba t3 H1) fun t4 H5=>
zab (fun J_1=>
opP ((zsa P .eql 3 true).f t4 (.int .i64 0)) fun t6=>
wIf t6 (
J_1 [t1,t4,t6] H5) (
opP ((zsa P .eql 3 true).f t4 (.int .i64 1)) fun t7=>
wIf t7 (
J_1 [t1,t4,t7] H5) (
opP ((zsa P .eql 3 true).f t4 (.int .i64 4)) fun t8=>
J_1 [t1,t4,t8] H5))) (fun l H11=>
wIf (nth l 2) (
opW (zna 36 (nth l 0) H11) fun t9 H13=>
opP (zca 0 (nth l 0)) fun t10=>
opW (zba t10 H13) fun t11 H16=>
opP ((zAa P 27).f [(0,t11)]) fun t12=>
opP ((zsa P .eql 27 false).f t9 t12) fun t13=>
K t13 H16) (
opP ((zsa P .eql 3 true).f (nth l 1) (.int .i64 2)) fun t15=>
wIf t15 (
opP (zca 1 (nth l 0)) fun t16=>
opW (zba t16 H11) fun t17 H22=>
opP ((zsa P .lss 3 true).f t17 (.int .i64 0)) fun t18=>
wIf t18 (
opP (zra t18 (.bool true) undef) fun t23=>
wIf t23 (
K (.bool false) H22) (
J [(nth l 0)] H22)) (
opP (zca 1 (nth l 0)) fun t20=>
opW (zba t20 H22) fun t21 H27=>
opP ((zsa P .gtr 3 true).f t21 (.int .i64 7)) fun t22=>
opP (zra t18 (.bool true) t22) fun t23_1=>
wIf t23_1 (
K (.bool false) H27) (
J [(nth l 0)] H27))) (
opP ((zsa P .eql 3 true).f (nth l 1) (.int .i64 3)) fun t25=>
wIf t25 (
opP (zca 1 (nth l 0)) fun t26=>
opW (zba t26 H11) fun t27 H33=>
opP ((zsa P .neq 3 true).f t27 (.int .i64 0)) fun t28=>
wIf t28 (
K (.bool false) H33) (
J [(nth l 0)] H33)) (
K (.bool false) H11))))) (fun l_1 H36=>
opP (zca 2 (nth l_1 0)) fun t29=>
opW (zba t29 H36) fun t30 H39=>
opP ((zsa P .geq 23 true).f t30 (.int .u64 1)) fun t31=>
wIf t31 (
opP (zca 2 (nth l_1 0)) fun t33=>
opW (zba t33 H39) fun t34 H43=>
opP ((zsa P .leq 23 true).f t34 (.int .u64 281474976710656)) fun t35=>
opP (zra t31 t35 (.bool false)) fun t36=>
wIf t36 (
opP (zca 3 (nth l_1 0)) fun t38=>
opW (zba t38 H43) fun t39 H48=>
opP ((zsa P .geq 3 true).f t39 (.int .i64 1)) fun t40=>
opP (zra t36 t40 (.bool false)) fun t41=>
wIf t41 (
opP (zca 3 (nth l_1 0)) fun t43=>
opW (zba t43 H48) fun t44 H53=>
opP ((zsa P .leq 3 true).f t44 (.int .i64 65536)) fun t45=>
opP (zra t41 t45 (.bool false)) fun t46=>
K t46 H53) (
opP (zra t41 undef (.bool false)) fun t46_1=>
K t46_1 H48)) (
opP (zra t36 undef (.bool false)) fun t41_1=>
opP (zra t41_1 undef (.bool false)) fun t46_2=>
K t46_2 H43)) (
opP (zra t31 undef (.bool false)) fun t36_1=>
opP (zra t36_1 undef (.bool false)) fun t41_2=>
opP (zra t41_2 undef (.bool false)) fun t46_3=>
K t46_3 H39))
theorem zix{t0:Value}{H:Heap}{K:VH}(h:zNv t0 H K):wCall P zXb [t0] H K:=zea rfl (Eq.mpr (by kernel_rfl) h)
def zkk(t0:Value)(H:Heap)(K:VH):Prop:=
zlb (zFa t0) H fun t1 H1=>
opP (zca 0 t1) fun t3=>
opP (zca 72 t3) fun t4=>
opW (zba t4 H1) fun t5 H5=>
opP ((zsa P .sub 3 true).f (.int .i64 1) t5) fun t6=>
K t6 H5
theorem zCn{t0:Value}{H:Heap}{K:VH}(h:zkk t0 H K):wCall P zwf [t0] H K:=zea rfl (Eq.mpr (by kernel_rfl) h)
def zYs(t0:Value)(H:Heap)(K:VH):Prop:=
opP ((zsa P .eql 3 true).f t0 (.int .i64 0)) fun t4=>
wIf t4 (
opP (zra t4 (.bool true) undef) fun t8=>
K t8 H) (
opP ((zsa P .eql 3 true).f t0 (.int .i64 1)) fun t7=>
opP (zra t4 (.bool true) t7) fun t8_1=>
K t8_1 H)
theorem zDu{t0:Value}{H:Heap}{K:VH}(h:zYs t0 H K):wCall P zNc [t0] H K:=zea rfl (Eq.mpr (by kernel_rfl) h)
noncomputable abbrev zAf:Code:=zOa P zVc 0
def zgi(l:List Value)(H:Heap)(N:LN)(Qx:LX)(Qr:LN):Prop:=
wCall P zCm [(nth l 2)] H fun t17 H1=>
opP (zNb 0 t17) fun t18=>
opP (zNb 1 t17) fun t19=>
opP (zNb 2 t17) fun t20=>
opP (zNb 3 t17) fun t21=>
zab (fun J=>
opP ((zsa P .eql 3 true).f t21 (.int .i64 0)) fun t23=>
wIf t23 (
opP (zra t23 (.bool true) undef) fun t28=>
opP (zra t28 (.bool true) undef) fun t43=>
J [(nth l 0),(nth l 1),(nth l 2),(nth l 3),t19,t20,t21,t43] H1) (
opP ((zsa P .neq 5 false).f t18 (nth l 3)) fun t27=>
opP (zra t23 (.bool true) t27) fun t28_1=>
wIf t28_1 (
opP (zra t28_1 (.bool true) undef) fun t43_1=>
J [(nth l 0),(nth l 1),(nth l 2),(nth l 3),t19,t20,t21,t43_1] H1) (
opP ((zsa P .eql 5 true).f (nth l 3) (.int .u8 2)) fun t31=>
wIf t31 (
opP ((zsa P .eql 23 true).f t19 (.int .u64 0)) fun t34=>
wIf t34 (
opP (zra t34 (.bool true) undef) fun t41=>
opP (zra t31 t41 (.bool false)) fun t42=>
opP (zra t28_1 (.bool true) t42) fun t43_2=>
J [(nth l 0),(nth l 1),(nth l 2),(nth l 3),t19,t20,t21,t43_2] H1) (
opP ((zsa P .sub 23 true).f t19 (.int .u64 1)) fun t37=>
opP (zca 2 (nth l 1)) fun t38=>
opW (zba t38 H1) fun t39 H21=>
opP ((zsa P .neq 23 false).f t37 t39) fun t40=>
opP (zra t34 (.bool true) t40) fun t41_1=>
opP (zra t31 t41_1 (.bool false)) fun t42_1=>
opP (zra t28_1 (.bool true) t42_1) fun t43_3=>
J [(nth l 0),(nth l 1),(nth l 2),(nth l 3),t19,t20,t21,t43_3] H21)) (
opP (zra t31 undef (.bool false)) fun t42_2=>
opP (zra t28_1 (.bool true) t42_2) fun t43_4=>
J [(nth l 0),(nth l 1),(nth l 2),(nth l 3),t19,t20,t21,t43_4] H1)))) (fun l_1 H29=>
wIf (nth l_1 7) (
opW (zna 3 (nth l_1 1) H29) fun t44 H31=>
opW (zka 3 (nth l_1 0) t44 H31) fun u H33=>
Qr [(nth l_1 0)] H33) (
zab (fun J_1=>
opP ((zsa P .eql 5 true).f (nth l_1 3) (.int .u8 1)) fun t46=>
wIf t46 (
opP (zca 1 (nth l_1 1)) fun t48=>
opW (zka 1 t48 (nth l_1 4) H29) fun u_1 H38=>
J_1 [(nth l_1 0),(nth l_1 1),(nth l_1 2),(nth l_1 4),(nth l_1 5),(nth l_1 6)] H38) (
J_1 [(nth l_1 0),(nth l_1 1),(nth l_1 2),(nth l_1 4),(nth l_1 5),(nth l_1 6)] H29)) (fun l_2 H40=>
opP (zca 2 (nth l_2 1)) fun t50=>
opW (zka 1 t50 (nth l_2 3) H40) fun u_2 H43=>
opP (zca 0 (nth l_2 1)) fun t51=>
opW (zba t51 H43) fun t52 H46=>
opW ((zpa P 104 1).f [(0,(nth l_2 4))] H46) fun t54 H48=>
opW (zva 1 24 t52 t54 H48) fun t55 H50=>
opP (zca 0 (nth l_2 1)) fun t56=>
opW (zka 1 t56 t55 H50) fun u_3 H53=>
opP (zLa 64 (nth l_2 2) (some (nth l_2 5)) none none) fun t59=>
N [(nth l_2 0),(nth l_2 1),t59,(.int .u8 2)] H53)))
theorem zlk:LpI P 60 zAf 16 zgi:=.mk (by kernel_rfl) fun l H N Qx Qr=>by kernel_rfl
def zQl(t0 t1:Value)(H:Heap)(K:VH):Prop:=
zlb (zc P 139) H fun t4 H1=>
zlb (zc P 139) H1 fun t5 H3=>
wCall P zDd [t0,t1] H3 fun t14 H5=>
zdb P true 60 zAf 16 [t4,t5,t14,(.int .u8 1)] H5 (fun id l H7=>
cond (Nat.beq id 0) (
opW (zna 3 (nth l 0) H7) fun r _=>
K r H7) (
False)) (fun l H7=>
opW (zna 3 (nth l 0) H7) fun r_1 _=>
K r_1 H7)
theorem zbp{t0 t1:Value}{H:Heap}{K:VH}(h:zQl t0 t1 H K):wCall P zVc [t0,t1] H K:=zea rfl (Eq.mpr (by kernel_rfl) h)
noncomputable abbrev zRl:Code:=zOa P zxg 0
def zSl(l:List Value)(H:Heap)(N:LN)(Qx:LX)(Qr:LN):Prop:=
opP ((zsa P .lss 3 true).f (nth l 4) (.int .i64 2)) fun t12=>
wIf t12 (
wCall P zTi [(nth l 2)] H fun t16 H2=>
opP (zNb 0 t16) fun t17=>
opP (zNb 1 t16) fun t18=>
zlb (zc P 27) H2 fun t7 H6=>
opW (zka 36 t7 t17 H6) fun u H8=>
opP ((zsa P .neq 38 true).f t18 (.int .i64 0)) fun t20=>
wIf t20 (
opP ((zAa P 30).f []) fun t21=>
opW (zka 75 (nth l 0) t21 H8) fun u_1 H12=>
Qr [(nth l 0),(.int .i64 111),(nth l 2),(nth l 3)] H12) (
opW (zna 36 t7 H8) fun t23 H14=>
opP (zca 0 (nth l 3)) fun t24=>
opP (zJa 2 36 t24 (nth l 4)) fun t25=>
opW (zka 36 t25 t23 H14) fun u_2 H18=>
opP ((zsa P .add 3 true).f (nth l 4) (.int .i64 1)) fun t26=>
N [(nth l 0),(nth l 1),(nth l 2),(nth l 3),t26] H18)) (
Qx 0 [(nth l 0),(nth l 1),(nth l 2),(nth l 3)] H)
theorem zDn:LpI P 49 zRl 60 zSl:=.mk (by kernel_rfl) fun l H N Qx Qr=>by kernel_rfl
def zZs(t0:Value)(H:Heap)(K:VH):Prop:=
zlb (zc P 30) H fun t2 H1=>
wCall P zGg [t0] H1 fun t10 H3=>
zlb (zc P 30) H3 fun t5 H5=>
zdb P true 49 zRl 60 [t2,(.int .i64 0),t10,t5,(.int .i64 0)] H5 (fun id l H7=>
cond (Nat.beq id 0) (
wCall P zCa [(nth l 2),(.int .i64 1)] H7 fun t28 H9=>
opW (zob .i64 t28 H9) fun t29 H11=>
wCall P zCa [(nth l 2),(.int .i64 1)] H11 fun t31 H13=>
opW (zob .i64 t31 H13) fun t32 H15=>
opP ((zsa P .add 3 true).f t32 (.int .i64 (-1))) fun t33=>
opP (zca 72 (nth l 3)) fun t34=>
opW (zka 1 t34 t29 H15) fun u H19=>
opP (zca 73 (nth l 3)) fun t35=>
opW (zka 1 t35 t33 H19) fun u_1 H22=>
wCall P zCa [(nth l 2),(.int .i64 8)] H22 fun t37 H24=>
opP (zca 74 (nth l 3)) fun t38=>
opW (zka 1 t38 t37 H24) fun u_2 H27=>
zab (fun J=>
wCall P zEd [(nth l 2)] H27 fun t40 H30=>
opP ((zsa P .neq 38 true).f t40 (.int .i64 0)) fun t41=>
wIf t41 (
opP (zra t41 (.bool true) undef) fun t46=>
J [(nth l 0),(nth l 3),t46] H30) (
opW (zna 75 (nth l 3) H30) fun t43 H34=>
wCall P zMc [t43] H34 fun t44 H36=>
opP (unA .not t44) fun t45=>
opP (zra t41 (.bool true) t45) fun t46_1=>
J [(nth l 0),(nth l 3),t46_1] H36)) (fun l_1 H40=>
wIf (nth l_1 2) (
opP ((zAa P 30).f []) fun t47=>
opW (zka 75 (nth l_1 0) t47 H40) fun u_3 H43=>
opW (zna 75 (nth l_1 0) H43) fun r _=>
K (.tuple [r,(.int .i64 111)].toArray) H43) (
opW (zna 75 (nth l_1 1) H40) fun t48 H46=>
opW (zka 75 (nth l_1 0) t48 H46) fun u_4 H48=>
opW (zna 75 (nth l_1 0) H48) fun r_1 _=>
K (.tuple [r_1,(.int .i64 0)].toArray) H48))) (
False)) (fun l H7=>
opW (zna 75 (nth l 0) H7) fun r_2 _=>
K (.tuple [r_2,(nth l 1)].toArray) H7)
theorem zEu{t0:Value}{H:Heap}{K:VH}(h:zZs t0 H K):wCall P zxg [t0] H K:=zea rfl (Eq.mpr (by kernel_rfl) h)
noncomputable abbrev zXp:Code:=zOa P zPi 0
def zYp(l:List Value)(H:Heap)(N:LN)(Qx:LX)(Qr:LN):Prop:=
opP ((zsa P .lss 3 false).f (nth l 5) (nth l 4)) fun t18=>
wIf t18 (
wCall P zLh [(nth l 2)] H fun t21 H2=>
opP (zNb 0 t21) fun t22=>
opP (zNb 1 t21) fun t23=>
zlb (zc P 81) H2 fun t7 H6=>
opW (zka 40 t7 t22 H6) fun u H8=>
opP ((zsa P .neq 38 true).f t23 (.int .i64 0)) fun t25=>
wIf t25 (
Qr [(.slice none 0 0),t23,(nth l 2),(nth l 3)] H8) (
opW (zna 40 t7 H8) fun t28 H11=>
opW ((zpa P 71 1).f [(0,t28)] H11) fun t29 H13=>
opW (zva 40 96 (nth l 3) t29 H13) fun t30 H15=>
opP ((zsa P .add 3 true).f (nth l 5) (.int .i64 1)) fun t31=>
N [(nth l 0),(nth l 1),(nth l 2),t30,(nth l 4),t31] H15)) (
Qx 0 [(nth l 0),(nth l 1),(nth l 2),(nth l 3)] H)
theorem zUq:LpI P 36 zXp 92 zYp:=.mk (by kernel_rfl) fun l H N Qx Qr=>by kernel_rfl
def zfz(t0:Value)(H:Heap)(K:VH):Prop:=
wCall P zGg [t0] H fun t10 H1=>
wCall P zCa [t10,(.int .i64 1)] H1 fun t12 H3=>
opW (zob .i64 t12 H3) fun t13 H5=>
opP ((zsa P .gtr 3 true).f t13 (.int .i64 8)) fun t15=>
wIf t15 (
K (.tuple [(.slice none 0 0),(.int .i64 111)].toArray) H5) (
zdb P true 36 zXp 92 [(.slice none 0 0),(.int .i64 0),t10,(.slice none 0 0),t13,(.int .i64 0)] H5 (fun id l H8=>
cond (Nat.beq id 0) (
wCall P zEd [(nth l 2)] H8 fun t33 H10=>
opP ((zsa P .neq 38 true).f t33 (.int .i64 0)) fun t34=>
wIf t34 (
K (.tuple [(.slice none 0 0),(.int .i64 111)].toArray) H10) (
K (.tuple [(nth l 3),(.int .i64 0)].toArray) H10)) (
False)) (fun l H8=>
K (.tuple [(nth l 0),(nth l 1)].toArray) H8))
theorem zgz{t0:Value}{H:Heap}{K:VH}(h:zfz t0 H K):wCall P zPi [t0] H K:=zea rfl (Eq.mpr (by kernel_rfl) h)
noncomputable abbrev zTl:Code:=zOa P zJe 0
def zUl(l:List Value)(H:Heap)(N:LN)(Qx:LX)(Qr:LN):Prop:=
opP ((zsa P .lss 3 false).f (nth l 5) (nth l 4)) fun t20=>
wIf t20 (
opP (zWa 40 (nth l 3) (nth l 5)) fun t21=>
opW (zna 40 t21 H) fun t22 H3=>
zlb (zc P 81) H3 fun t7 H5=>
opW (zka 40 t7 t22 H5) fun u H7=>
opP (zca 0 t7) fun t23=>
opW (zba t23 H7) fun t24 H10=>
opP ((zsa P .eql 3 true).f t24 (.int .i64 1)) fun t26=>
wIf t26 (
opP (zca 1 t7) fun t27=>
opW (zba t27 H10) fun t28 H14=>
opP (zca 3 t7) fun t29=>
opW (zna 36 t29 H14) fun t30 H17=>
opP (zca 0 (nth l 0)) fun t31=>
opP (zJa 2 36 t31 t28) fun t32=>
opW (zka 36 t32 t30 H17) fun u_1 H21=>
opP ((zsa P .add 3 true).f (nth l 5) (.int .i64 1)) fun t54=>
N [(nth l 0),(nth l 1),(nth l 2),(nth l 3),(nth l 4),t54] H21) (
opP ((zsa P .eql 3 true).f t24 (.int .i64 2)) fun t34=>
wIf t34 (
opP (zca 2 t7) fun t35=>
opW (zba t35 H10) fun t36 H26=>
opP (zca 72 (nth l 0)) fun t37=>
opW (zka 1 t37 t36 H26) fun u_2 H29=>
opP ((zsa P .add 3 true).f (nth l 5) (.int .i64 1)) fun t54_1=>
N [(nth l 0),(nth l 1),(nth l 2),(nth l 3),(nth l 4),t54_1] H29) (
opP ((zsa P .eql 3 true).f t24 (.int .i64 3)) fun t39=>
wIf t39 (
opP (zca 2 t7) fun t40=>
opW (zba t40 H10) fun t41 H34=>
opP (zca 73 (nth l 0)) fun t42=>
opW (zka 1 t42 t41 H34) fun u_3 H37=>
opP ((zsa P .add 3 true).f (nth l 5) (.int .i64 1)) fun t54_2=>
N [(nth l 0),(nth l 1),(nth l 2),(nth l 3),(nth l 4),t54_2] H37) (
opP ((zsa P .eql 3 true).f t24 (.int .i64 4)) fun t44=>
wIf t44 (
opP (zca 39 t7) fun t45=>
opW (zba t45 H10) fun t46 H42=>
opP (zca 74 (nth l 0)) fun t47=>
opW (zba t47 H42) fun t48 H45=>
opP ((zsa P .lss 23 false).f t46 t48) fun t49=>
wIf t49 (
opP ((zAa P 30).f []) fun t50=>
opW (zka 75 (nth l 1) t50 H45) fun u_4 H49=>
Qr [(nth l 0),(nth l 1),(.int .i64 111)] H49) (
opP (zca 39 t7) fun t51=>
opW (zba t51 H45) fun t52 H52=>
opP (zca 74 (nth l 0)) fun t53=>
opW (zka 1 t53 t52 H52) fun u_5 H55=>
opP ((zsa P .add 3 true).f (nth l 5) (.int .i64 1)) fun t54_3=>
N [(nth l 0),(nth l 1),(nth l 2),(nth l 3),(nth l 4),t54_3] H55)) (
opP ((zsa P .add 3 true).f (nth l 5) (.int .i64 1)) fun t54_4=>
N [(nth l 0),(nth l 1),(nth l 2),(nth l 3),(nth l 4),t54_4] H10))))) (
Qx 0 [(nth l 0),(nth l 1),(nth l 2)] H)
theorem zEn:LpI P 56 zTl 52 zUl:=.mk (by kernel_rfl) fun l H N Qx Qr=>by kernel_rfl
def zat(t0 t1:Value)(H:Heap)(K:VH):Prop:=
zlb (zFa t0) H fun t2 H1=>
zlb (zc P 30) H1 fun t4 H3=>
zab (fun J=>
opW (zna 75 t2 H3) fun t8 H6=>
wCall P zMc [t8] H6 fun t9 H8=>
opP (unA .not t9) fun t10=>
wIf t10 (
opP (zra t10 (.bool true) undef) fun t15=>
J [t1,t2,t4,(.int .i64 0),t15] H8) (
wCall P zbc [t1] H8 fun t13 H12=>
opP (unA .not t13) fun t14=>
opP (zra t10 (.bool true) t14) fun t15_1=>
J [t1,t2,t4,(.int .i64 0),t15_1] H12)) (fun l H16=>
wIf (nth l 4) (
opP ((zAa P 30).f []) fun t16=>
opW (zka 75 (nth l 2) t16 H16) fun u H19=>
opW (zna 75 (nth l 2) H19) fun r _=>
K (.tuple [r,(.int .i64 111)].toArray) H19) (
opW (lenSl (nth l 0) H16) fun t18 H22=>
zdb P true 56 zTl 52 [(nth l 1),(nth l 2),(nth l 3),(nth l 0),t18,(.int .i64 0)] H22 (fun id l_1 H24=>
cond (Nat.beq id 0) (
opW (zna 75 (nth l_1 0) H24) fun t55 H26=>
opW (zka 75 (nth l_1 1) t55 H26) fun u_1 H28=>
opW (zna 75 (nth l_1 1) H28) fun r_1 _=>
K (.tuple [r_1,(.int .i64 0)].toArray) H28) (
False)) (fun l_1 H24=>
opW (zna 75 (nth l_1 1) H24) fun r_2 _=>
K (.tuple [r_2,(nth l_1 2)].toArray) H24)))
theorem zFu{t0 t1:Value}{H:Heap}{K:VH}(h:zat t0 t1 H K):wCall P zJe [t0,t1] H K:=zea rfl (Eq.mpr (by kernel_rfl) h)
noncomputable abbrev zWg:Code:=zOa P zUd 0
def zmk(l:List Value)(H:Heap)(N:LN)(Qx:LX)(Qr:LN):Prop:=
wCall P zVi [(nth l 0)] H fun t21 H1=>
opP (zNb 0 t21) fun t22=>
opP (zNb 1 t21) fun t23=>
opP (zNb 2 t21) fun t24=>
opP (zNb 3 t21) fun t25=>
opP ((zsa P .eql 3 true).f t25 (.int .i64 0)) fun t27=>
wIf t27 (
Qr [(nth l 1),(nth l 2),(nth l 3)] H1) (
zab (fun J=>
opW (lenSl (nth l 1) H1) fun t32 H9=>
opP ((zsa P .eql 3 true).f t32 (.int .i64 0)) fun t33=>
wIf t33 (
opP ((zsa P .neq 5 true).f t22 (.int .u8 1)) fun t35=>
wIf t35 (
Qr [(nth l 1),(nth l 2),(nth l 3)] H9) (
J [(nth l 0),(nth l 1),t23,t23,t24,t25] H9)) (
zab (fun J_1=>
opP ((zsa P .neq 5 true).f t22 (.int .u8 2)) fun t41=>
wIf t41 (
opP (zra t41 (.bool true) undef) fun t45=>
opP (zra t45 (.bool true) undef) fun t51=>
J_1 [(nth l 0),(nth l 1),(nth l 2),(nth l 3),t23,t24,t25,t51] H9) (
opP ((zsa P .eql 23 true).f t23 (.int .u64 0)) fun t44=>
opP (zra t41 (.bool true) t44) fun t45_1=>
wIf t45_1 (
opP (zra t45_1 (.bool true) undef) fun t51_1=>
J_1 [(nth l 0),(nth l 1),(nth l 2),(nth l 3),t23,t24,t25,t51_1] H9) (
opP ((zsa P .sub 23 true).f t23 (.int .u64 1)) fun t48=>
opP ((zsa P .neq 23 false).f t48 (nth l 3)) fun t50=>
opP (zra t45_1 (.bool true) t50) fun t51_2=>
J_1 [(nth l 0),(nth l 1),(nth l 2),(nth l 3),t23,t24,t25,t51_2] H9))) (fun l_1 H23=>
wIf (nth l_1 7) (
Qr [(nth l_1 1),(nth l_1 2),(nth l_1 3)] H23) (
J [(nth l_1 0),(nth l_1 1),(nth l_1 2),(nth l_1 4),(nth l_1 5),(nth l_1 6)] H23)))) (fun l_2 H25=>
opW (zzb (nth l_2 4) H25) fun t58 H27=>
opW ((zpa P 110 1).f [(0,t58)] H27) fun t59 H29=>
opW (zva 1 16 (nth l_2 1) t59 H29) fun t60 H31=>
opP (zLa 1 (nth l_2 0) (some (nth l_2 5)) none none) fun t63=>
N [t63,t60,(nth l_2 2),(nth l_2 3)] H31))
theorem zGm:LpI P 64 zWg 112 zmk:=.mk (by kernel_rfl) fun l H N Qx Qr=>by kernel_rfl
def zZp(t0 t1:Value)(H:Heap)(K:VH):Prop:=
wCall P zUi [t0,t1] H fun t17 H1=>
opW ((zpa P 110 0).f [] H1) fun t18 H3=>
zdb P true 64 zWg 112 [t17,t18,(.int .u64 0),(.int .u64 0)] H3 (fun id l H5=>
cond (Nat.beq id 0) (
K (.tuple [(nth l 0),(nth l 1),(nth l 2)].toArray) H5) (
False)) (fun l H5=>
K (.tuple [(nth l 0),(nth l 1),(nth l 2)].toArray) H5)
theorem zbt{t0 t1:Value}{H:Heap}{K:VH}(h:zZp t0 t1 H K):wCall P zUd [t0,t1] H K:=zea rfl (Eq.mpr (by kernel_rfl) h)
noncomputable abbrev zFn:Code:=zOa P ztd 0
noncomputable abbrev zGn:Code:=zOa P ztd 1
def zHn(l:List Value)(H:Heap)(N:LN)(Qx:LX)(Qr:LN):Prop:=
opP ((zsa P .lss 3 true).f (nth l 5) (.int .i64 8)) fun t31=>
wIf t31 (
opP (zca 2 (nth l 3)) fun t34=>
opW (zba t34 H) fun t35 H3=>
opP ((zsa P .add 3 true).f (.int .i64 2) (nth l 5)) fun t39=>
opP (zWa 1 (nth l 2) t39) fun t40=>
opW (zba t40 H3) fun t41 H7=>
opW (zob .u64 t41 H7) fun t42 H9=>
opP ((zsa P .mul 23 false).f (nth l 4) t42) fun t43=>
opP ((zsa P .add 23 false).f t35 t43) fun t44=>
opP (zca 2 (nth l 3)) fun t45=>
opW (zka 1 t45 t44 H9) fun u H14=>
opP ((zsa P .mul 23 true).f (nth l 4) (.int .u64 256)) fun t47=>
opP ((zsa P .add 3 true).f (nth l 5) (.int .i64 1)) fun t33=>
N [(nth l 0),(nth l 1),(nth l 2),(nth l 3),t47,t33] H14) (
Qx 0 [(nth l 0),(nth l 1),(nth l 2),(nth l 3)] H)
theorem zcp:LpI P 88 zFn 60 zHn:=.mk (by kernel_rfl) fun l H N Qx Qr=>by kernel_rfl
def zIn(l:List Value)(H:Heap)(N:LN)(Qx:LX)(Qr:LN):Prop:=
opP ((zsa P .lss 3 true).f (nth l 4) (.int .i64 32)) fun t72=>
wIf t72 (
opP ((zsa P .add 3 true).f (.int .i64 14) (nth l 4)) fun t77=>
opP (zWa 1 (nth l 2) t77) fun t78=>
opW (zba t78 H) fun t79 H4=>
opP (zca 4 (nth l 3)) fun t80=>
opP (zJa 32 1 t80 (nth l 4)) fun t81=>
opW (zka 1 t81 t79 H4) fun u H8=>
opP ((zsa P .add 3 true).f (nth l 4) (.int .i64 1)) fun t82=>
N [(nth l 0),(nth l 1),(nth l 2),(nth l 3),t82] H8) (
Qx 2 [(nth l 0),(nth l 1),(nth l 3)] H)
theorem zdp:LpI P 88 zGn 44 zIn:=.mk (by kernel_rfl) fun l H N Qx Qr=>by kernel_rfl
def zOv(t0:Value)(H:Heap)(K:VH):Prop:=
zlb (zc P 27) H fun t2 H1=>
wCall P zWi [t0,(.int .i64 46)] H1 fun t10 H3=>
opP (zda t0) fun t12=>
opP (zca 1 t12) fun t13=>
opW (zba t13 H3) fun t14 H7=>
opP ((zsa P .neq 3 true).f t14 (.int .i64 0)) fun t15=>
wIf t15 (
opP ((zAa P 27).f []) fun t16=>
opP (zda t0) fun t18=>
opP (zca 1 t18) fun t19=>
opW (zba t19 H7) fun t20 H13=>
opW (zka 36 t2 t16 H13) fun u H15=>
zOf (zNa [t19]) (zNa [t2,t16])∧(opW (zna 36 t2 H15) fun r _=>
K (.tuple [r,t20].toArray) H15)) (
opP (zWa 1 t10 (.int .i64 0)) fun t22=>
opW (zba t22 H7) fun t23 H19=>
opW (zob .i64 t23 H19) fun t24 H21=>
opP (zWa 1 t10 (.int .i64 1)) fun t26=>
opW (zba t26 H21) fun t27 H24=>
opW (zob .i64 t27 H24) fun t28 H26=>
opP ((zAa P 27).f [(0,t24),(1,t28)]) fun t29=>
zlb (zc P 27) H26 fun t5 H29=>
opW (zka 36 t5 t29 H29) fun u_1 H31=>
zdb P true 88 zFn 60 [t2,(.int .i64 0),t10,t5,(.int .u64 1),(.int .i64 0)] H31 (fun id l H33=>
cond (Nat.beq id 0) (
opP (zWa 1 (nth l 2) (.int .i64 10)) fun t49=>
opW (zba t49 H33) fun t50 H36=>
opW (zob .i64 t50 H36) fun t51 H38=>
opP (zWa 1 (nth l 2) (.int .i64 11)) fun t53=>
opW (zba t53 H38) fun t54 H41=>
opW (zob .i64 t54 H41) fun t55 H43=>
opP ((zsa P .mul 3 true).f (.int .i64 256) t55) fun t56=>
opP ((zsa P .add 3 false).f t51 t56) fun t57=>
opP (zWa 1 (nth l 2) (.int .i64 12)) fun t59=>
opW (zba t59 H43) fun t60 H48=>
opW (zob .i64 t60 H48) fun t61 H50=>
opP ((zsa P .mul 3 true).f (.int .i64 65536) t61) fun t62=>
opP ((zsa P .add 3 false).f t57 t62) fun t63=>
opP (zWa 1 (nth l 2) (.int .i64 13)) fun t65=>
opW (zba t65 H50) fun t66 H55=>
opW (zob .i64 t66 H55) fun t67 H57=>
opP ((zsa P .mul 3 true).f (.int .i64 16777216) t67) fun t68=>
opP ((zsa P .add 3 false).f t63 t68) fun t69=>
opP (zca 3 (nth l 3)) fun t70=>
opW (zka 1 t70 t69 H57) fun u_2 H62=>
zdb P true 88 zGn 44 [(nth l 0),(nth l 1),(nth l 2),(nth l 3),(.int .i64 0)] H62 (fun id l_1 H64=>
cond (Nat.beq id 2) (
opW (zna 36 (nth l_1 2) H64) fun t83 H66=>
wCall P zHb [t83] H66 fun t84 H68=>
opP (unA .not t84) fun t85=>
wIf t85 (
opP ((zAa P 27).f []) fun t86=>
opW (zka 36 (nth l_1 0) t86 H68) fun u_3 H72=>
opW (zna 36 (nth l_1 0) H72) fun r_1 _=>
K (.tuple [r_1,(.int .i64 101)].toArray) H72) (
opW (zna 36 (nth l_1 2) H68) fun t87 H75=>
opW (zka 36 (nth l_1 0) t87 H75) fun u_4 H77=>
opW (zna 36 (nth l_1 0) H77) fun r_2 _=>
K (.tuple [r_2,(.int .i64 0)].toArray) H77)) (
False)) (fun l_1 H64=>
opW (zna 36 (nth l_1 0) H64) fun r_3 _=>
K (.tuple [r_3,(nth l_1 1)].toArray) H64)) (
False)) (fun l H33=>
opW (zna 36 (nth l 0) H33) fun r_4 _=>
K (.tuple [r_4,(nth l 1)].toArray) H33))
theorem zjx{t0:Value}{H:Heap}{K:VH}(h:zOv t0 H K):wCall P ztd [t0] H K:=zea rfl (Eq.mpr (by kernel_rfl) h)
noncomputable abbrev znk:Code:=zOa P zKf 0
def zok(l:List Value)(H:Heap)(N:LN)(Qx:LX)(Qr:LN):Prop:=
opP ((zsa P .lss 3 false).f (nth l 5) (nth l 4)) fun t10=>
wIf t10 (
opP (zWa 1 (nth l 3) (nth l 5)) fun t11=>
opW (zba t11 H) fun t12 H3=>
opW (zob .u64 t12 H3) fun t16 H5=>
opP ((zsa P .mul 23 false).f (nth l 2) t16) fun t17=>
opP ((zsa P .add 23 false).f (nth l 1) t17) fun t18=>
opP ((zsa P .mul 23 true).f (nth l 2) (.int .u64 256)) fun t20=>
opP ((zsa P .add 3 true).f (nth l 5) (.int .i64 1)) fun t21=>
N [(nth l 0),t18,t20,(nth l 3),(nth l 4),t21] H5) (
Qx 0 [(nth l 0),(nth l 1)] H)
theorem zHm:LpI P 23 znk 12 zok:=.mk (by kernel_rfl) fun l H N Qx Qr=>by kernel_rfl
def zaq(t0:Value)(H:Heap)(K:VH):Prop:=
opW (lenSl t0 H) fun t8 H1=>
zdb P true 23 znk 12 [(.int .u64 0),(.int .u64 0),(.int .u64 1),t0,t8,(.int .i64 0)] H1 (fun id l H3=>
cond (Nat.beq id 0) (
K (nth l 1) H3) (
False)) (fun l H3=>
K (nth l 0) H3)
theorem zct{t0:Value}{H:Heap}{K:VH}(h:zaq t0 H K):wCall P zKf [t0] H K:=zea rfl (Eq.mpr (by kernel_rfl) h)
noncomputable abbrev ztj:Code:=zOa P zbb 0
def zuj(l:List Value)(H:Heap)(N:LN)(Qx:LX)(Qr:LN):Prop:=
opP ((zsa P .lss 3 false).f (nth l 5) (nth l 4)) fun t15=>
wIf t15 (
opP (zWa 1 (nth l 3) (nth l 5)) fun t16=>
opW (zba t16 H) fun t17 H3=>
opW (zob .u64 t17 H3) fun t20 H5=>
opP ((zsa P .mul 23 false).f t20 (nth l 2)) fun t22=>
opP ((zsa P .add 23 false).f (nth l 1) t22) fun t23=>
opP ((zsa P .mul 23 true).f (nth l 2) (.int .u64 256)) fun t25=>
opP ((zsa P .add 3 true).f (nth l 5) (.int .i64 1)) fun t26=>
N [(nth l 0),t23,t25,(nth l 3),(nth l 4),t26] H5) (
Qx 0 [(nth l 0),(nth l 1)] H)
theorem zol:LpI P 28 ztj 48 zuj:=.mk (by kernel_rfl) fun l H N Qx Qr=>by kernel_rfl
def zJn(t0 t1:Value)(H:Heap)(K:VH):Prop:=
wCall P zsh [t1] H fun t11 H1=>
wCall P zWi [t0,t11] H1 fun t12 H3=>
opW (lenSl t12 H3) fun t13 H5=>
zdb P true 28 ztj 48 [(.int .u64 0),(.int .u64 0),(.int .u64 1),t12,t13,(.int .i64 0)] H5 (fun id l H7=>
cond (Nat.beq id 0) (
K (nth l 1) H7) (
False)) (fun l H7=>
K (nth l 0) H7)
theorem zVq{t0 t1:Value}{H:Heap}{K:VH}(h:zJn t0 t1 H K):wCall P zbb [t0,t1] H K:=zea rfl (Eq.mpr (by kernel_rfl) h)
def zhz(t0:Value)(H:Heap)(K:VH):Prop:=
opP (zda t0) fun t4=>
opP (zca 1 t4) fun t5=>
opW (zba t5 H) fun t6 H3=>
opP ((zsa P .eql 3 true).f t6 (.int .i64 0)) fun t7=>
wIf t7 (
opP (zda t0) fun t10=>
opP (zca 0 t10) fun t11=>
opW (zba t11 H3) fun t12 H8=>
opW (lenSl t12 H8) fun t13 H10=>
opP ((zsa P .gtr 3 true).f t13 (.int .i64 0)) fun t14=>
opP (zra t7 t14 (.bool false)) fun t15=>
wIf t15 (
K (.int .i64 52) H10) (
opP (zda t0) fun t17=>
opP (zca 1 t17) fun t18=>
opW (zba t18 H10) fun t19 H16=>
K t19 H16)) (
opP (zra t7 undef (.bool false)) fun t15_1=>
wIf t15_1 (
K (.int .i64 52) H3) (
opP (zda t0) fun t17_1=>
opP (zca 1 t17_1) fun t18_1=>
opW (zba t18_1 H3) fun t19_1 H21=>
K t19_1 H21))
theorem ziz{t0:Value}{H:Heap}{K:VH}(h:zhz t0 H K):wCall P zQi [t0] H K:=zea rfl (Eq.mpr (by kernel_rfl) h)
noncomputable abbrev zbq:Code:=zOa P zxf 0
def zcq(l:List Value)(H:Heap)(N:LN)(Qx:LX)(Qr:LN):Prop:=
opP ((zsa P .lss 3 false).f (nth l 4) (nth l 3)) fun t20=>
wIf t20 (
opP (zWa 40 (nth l 2) (nth l 4)) fun t21=>
opW (zna 40 t21 H) fun t22 H3=>
zlb (zc P 81) H3 fun t5 H5=>
opW (zka 40 t5 t22 H5) fun u H7=>
opP (zca 0 t5) fun t24=>
opW (zba t24 H7) fun t25 H10=>
opW (zob .u8 t25 H10) fun t26 H12=>
opW ((zpa P 32 1).f [(0,t26)] H12) fun t27 H14=>
opW (zva 1 1 (nth l 1) t27 H14) fun t28 H16=>
opP (zca 0 t5) fun t29=>
opW (zba t29 H16) fun t30 H19=>
opP ((zsa P .eql 3 true).f t30 (.int .i64 1)) fun t32=>
wIf t32 (
opP (zca 1 t5) fun t34=>
opW (zba t34 H19) fun t35 H23=>
opW (zob .u8 t35 H23) fun t36 H25=>
opW ((zpa P 32 1).f [(0,t36)] H25) fun t37 H27=>
opW (zva 1 1 t28 t37 H27) fun t38 H29=>
opP (zca 3 t5) fun t40=>
opW (zna 36 t40 H29) fun t41 H32=>
wCall P zLe [t41] H32 fun t42 H34=>
opW (zva 1 1 t38 t42 H34) fun t43 H36=>
opP ((zsa P .add 3 true).f (nth l 4) (.int .i64 1)) fun t68=>
N [(nth l 0),t43,(nth l 2),(nth l 3),t68] H36) (
opP ((zsa P .eql 3 true).f t30 (.int .i64 2)) fun t45=>
wIf t45 (
opP (zca 2 t5) fun t47=>
opW (zba t47 H19) fun t48 H41=>
opW (zob .u8 t48 H41) fun t49 H43=>
opW ((zpa P 32 1).f [(0,t49)] H43) fun t50 H45=>
opW (zva 1 1 t28 t50 H45) fun t51 H47=>
opP ((zsa P .add 3 true).f (nth l 4) (.int .i64 1)) fun t68_1=>
N [(nth l 0),t51,(nth l 2),(nth l 3),t68_1] H47) (
opP ((zsa P .eql 3 true).f t30 (.int .i64 3)) fun t53=>
wIf t53 (
opP (zca 2 t5) fun t55=>
opW (zba t55 H19) fun t56 H52=>
opP ((zsa P .add 3 true).f t56 (.int .i64 1)) fun t57=>
opW (zob .u8 t57 H52) fun t58 H55=>
opW ((zpa P 32 1).f [(0,t58)] H55) fun t59 H57=>
opW (zva 1 1 t28 t59 H57) fun t60 H59=>
opP ((zsa P .add 3 true).f (nth l 4) (.int .i64 1)) fun t68_2=>
N [(nth l 0),t60,(nth l 2),(nth l 3),t68_2] H59) (
opP ((zsa P .eql 3 true).f t30 (.int .i64 4)) fun t62=>
wIf t62 (
opP (zca 39 t5) fun t64=>
opW (zba t64 H19) fun t65 H64=>
wCall P zJb [t65,(.int .i64 8)] H64 fun t66 H66=>
opW (zva 1 1 t28 t66 H66) fun t67 H68=>
opP ((zsa P .add 3 true).f (nth l 4) (.int .i64 1)) fun t68_3=>
N [(nth l 0),t67,(nth l 2),(nth l 3),t68_3] H68) (
opP ((zsa P .add 3 true).f (nth l 4) (.int .i64 1)) fun t68_4=>
N [(nth l 0),t28,(nth l 2),(nth l 3),t68_4] H19))))) (
Qx 0 [(nth l 0),(nth l 1)] H)
theorem zWq:LpI P 70 zbq 12 zcq:=.mk (by kernel_rfl) fun l H N Qx Qr=>by kernel_rfl
def zjz(t0:Value)(H:Heap)(K:VH):Prop:=
opW ((zpa P 32 0).f [] H) fun t6 H1=>
wCall P zNg [t0] H1 fun t8 H3=>
opP (unA .not t8) fun t9=>
wIf t9 (
K t6 H3) (
opW (lenSl t0 H3) fun t13 H6=>
opW (zob .u8 t13 H6) fun t14 H8=>
opW ((zpa P 32 1).f [(0,t14)] H8) fun t15 H10=>
opW (zva 1 1 t6 t15 H10) fun t16 H12=>
opW (lenSl t0 H12) fun t18 H14=>
zdb P true 70 zbq 12 [(.slice none 0 0),t16,t0,t18,(.int .i64 0)] H14 (fun id l H16=>
cond (Nat.beq id 0) (
K (nth l 1) H16) (
False)) (fun l H16=>
K (nth l 0) H16))
theorem zkz{t0:Value}{H:Heap}{K:VH}(h:zjz t0 H K):wCall P zxf [t0] H K:=zea rfl (Eq.mpr (by kernel_rfl) h)
noncomputable abbrev zdq:Code:=zOa P zNg 0
def zeq(l:List Value)(H:Heap)(N:LN)(Qx:LX)(Qr:LN):Prop:=
opP ((zsa P .lss 3 false).f (nth l 4) (nth l 3)) fun t8=>
wIf t8 (
opP (zWa 40 (nth l 2) (nth l 4)) fun t9=>
opW (zna 40 t9 H) fun t10 H3=>
zlb (zc P 81) H3 fun t4 H5=>
opW (zka 40 t4 t10 H5) fun u H7=>
opW (zna 40 t4 H7) fun t11 H9=>
wCall P zDm [t11] H9 fun t12 H11=>
opP (unA .not t12) fun t13=>
wIf t13 (
Qr [(nth l 0),(.bool false)] H11) (
opP ((zsa P .add 3 true).f (nth l 4) (.int .i64 1)) fun t14=>
N [(nth l 0),(nth l 1),(nth l 2),(nth l 3),t14] H11)) (
Qx 0 [(nth l 0),(nth l 1)] H)
theorem zXq:LpI P 18 zdq 5 zeq:=.mk (by kernel_rfl) fun l H N Qx Qr=>by kernel_rfl
def zlz(t0:Value)(H:Heap)(K:VH):Prop:=
opW (lenSl t0 H) fun t6 H1=>
zdb P true 18 zdq 5 [t0,(.bool false),t0,t6,(.int .i64 0)] H1 (fun id l H3=>
cond (Nat.beq id 0) (
opW (lenSl (nth l 0) H3) fun t16 H5=>
opP ((zsa P .leq 3 true).f t16 (.int .i64 8)) fun t17=>
K t17 H5) (
False)) (fun l H3=>
K (nth l 1) H3)
theorem zmz{t0:Value}{H:Heap}{K:VH}(h:zlz t0 H K):wCall P zNg [t0] H K:=zea rfl (Eq.mpr (by kernel_rfl) h)
def zvj(t0 t1 t2:Value)(H:Heap)(K:VH):Prop:=
zlb (zFa t1) H fun t4 H1=>
zab (fun J=>
opP (zda t0) fun t9=>
opP (zca 0 t9) fun t10=>
opW (zba t10 H1) fun t11 H6=>
wCall P zOc [t11] H6 fun t12 H8=>
wIf t12 (
opP (zda t0) fun t14=>
opP (zca 0 t14) fun t15=>
opW (zba t15 H8) fun t16 H12=>
wCall P zXi [t2] H12 fun t18 H14=>
zrc (zjc H12 H14) (zNa [t15])∧(wCall P zAc [t16,t18] H14 fun t19 H16=>
opP ((zsa P .neq 38 true).f t19 (.int .i64 92)) fun t21=>
wIf t21 (
K t19 H16) (
J [t0,t4] H16))) (
J [t0,t4] H8)) (fun l H19=>
opP (zda (nth l 0)) fun t24=>
opP (zca 0 t24) fun t25=>
opW (zba t25 H19) fun t26 H23=>
opW (zna 75 (nth l 1) H23) fun t27 H25=>
wCall P zYi [t27] H25 fun t28 H27=>
zrc (zjc H25 H27) (zNa [t25])∧(wCall P zPc [t26,t28] H27 fun t29 H29=>
K t29 H29))
theorem zIm{t0 t1 t2:Value}{H:Heap}{K:VH}(h:zvj t0 t1 t2 H K):wCall P zKe [t0,t1,t2] H K:=zea rfl (Eq.mpr (by kernel_rfl) h)
def zPv(t0:Value)(H:Heap)(K:VH):Prop:=
zlb (zFa t0) H fun t1 H1=>
opW (zna 75 t1 H1) fun t3 H3=>
wCall P zJc [t3] H3 fun t4 H5=>
opP (unA .not t4) fun t5=>
wIf t5 (
K (.int .i64 (-1)) H5) (
opP (zca 72 t1) fun t6=>
opW (zba t6 H5) fun t7 H9=>
opP (zca 0 t1) fun t8=>
opP (zJa 2 36 t8 t7) fun t9=>
opW (zna 36 t9 H9) fun t10 H13=>
wCall P zce [t10] H13 fun t11 H15=>
wIf t11 (
opP (zca 72 t1) fun t12=>
opW (zba t12 H15) fun t13 H18=>
K t13 H18) (
opP (zca 72 t1) fun t14=>
opW (zba t14 H15) fun t15 H21=>
opP ((zsa P .sub 3 true).f (.int .i64 1) t15) fun t16=>
opP (zca 0 t1) fun t17=>
opP (zJa 2 36 t17 t16) fun t18=>
opW (zna 36 t18 H21) fun t19 H26=>
wCall P zce [t19] H26 fun t20 H28=>
wIf t20 (
opP (zca 72 t1) fun t21=>
opW (zba t21 H28) fun t22 H31=>
opP ((zsa P .sub 3 true).f (.int .i64 1) t22) fun t23=>
K t23 H31) (
K (.int .i64 (-1)) H28)))
theorem zkx{t0:Value}{H:Heap}{K:VH}(h:zPv t0 H K):wCall P zdk [t0] H K:=zea rfl (Eq.mpr (by kernel_rfl) h)
def znz(t0:Value)(H:Heap)(K:VH):Prop:=
zlb (zFa t0) H fun t1 H1=>
zlb (zc P 27) H1 fun t2 H3=>
zab (fun J=>
opW (zna 36 t1 H3) fun t4 H6=>
wCall P zHb [t4] H6 fun t5 H8=>
opP (unA .not t5) fun t6=>
wIf t6 (
opP (zra t6 (.bool true) undef) fun t16=>
J [t2,t16] H8) (
opP (zca 0 t1) fun t8=>
opW (zba t8 H8) fun t9 H13=>
opP ((zsa P .neq 3 true).f t9 (.int .i64 2)) fun t10=>
wIf t10 (
opP (zca 0 t1) fun t12=>
opW (zba t12 H13) fun t13 H17=>
opP ((zsa P .neq 3 true).f t13 (.int .i64 3)) fun t14=>
opP (zra t10 t14 (.bool false)) fun t15=>
opP (zra t6 (.bool true) t15) fun t16_1=>
J [t2,t16_1] H17) (
opP (zra t10 undef (.bool false)) fun t15_1=>
opP (zra t6 (.bool true) t15_1) fun t16_2=>
J [t2,t16_2] H13))) (fun l H24=>
wIf (nth l 1) (
opP ((zAa P 27).f []) fun t17=>
opW (zka 36 (nth l 0) t17 H24) fun u H27=>
opW (zna 36 (nth l 0) H27) fun r _=>
K (.tuple [r,(.int .i64 101)].toArray) H27) (
opP ((zAa P 27).f [(0,(.int .i64 4))]) fun t18=>
opW (zka 36 (nth l 0) t18 H24) fun u_1 H31=>
opW (zna 36 (nth l 0) H31) fun r_1 _=>
K (.tuple [r_1,(.int .i64 0)].toArray) H31))
theorem zoz{t0:Value}{H:Heap}{K:VH}(h:znz t0 H K):wCall P zzm [t0] H K:=zea rfl (Eq.mpr (by kernel_rfl) h)
def zpz(t0:Value)(H:Heap)(K:VH):Prop:=
zlb (zFa t0) H fun t1 H1=>
zlb (zc P 27) H1 fun t2 H3=>
zab (fun J=>
opW (zna 36 t1 H3) fun t4 H6=>
wCall P zHb [t4] H6 fun t5 H8=>
opP (unA .not t5) fun t6=>
wIf t6 (
opP (zra t6 (.bool true) undef) fun t11=>
opP (zra t11 (.bool true) undef) fun t16=>
J [t1,t2,t16] H8) (
opP (zca 0 t1) fun t8=>
opW (zba t8 H8) fun t9 H14=>
opP ((zsa P .neq 3 true).f t9 (.int .i64 2)) fun t10=>
opP (zra t6 (.bool true) t10) fun t11_1=>
wIf t11_1 (
opP (zra t11_1 (.bool true) undef) fun t16_1=>
J [t1,t2,t16_1] H14) (
opP (zca 1 t1) fun t13=>
opW (zba t13 H14) fun t14 H20=>
opP ((zsa P .lss 3 true).f t14 (.int .i64 1)) fun t15=>
opP (zra t11_1 (.bool true) t15) fun t16_2=>
J [t1,t2,t16_2] H20))) (fun l H24=>
wIf (nth l 2) (
opP ((zAa P 27).f []) fun t17=>
opW (zka 36 (nth l 1) t17 H24) fun u H27=>
opW (zna 36 (nth l 1) H27) fun r _=>
K (.tuple [r,(.int .i64 101)].toArray) H27) (
opP (zca 1 (nth l 0)) fun t18=>
opW (zba t18 H24) fun t19 H31=>
opP ((zsa P .sub 3 true).f t19 (.int .i64 1)) fun t20=>
opP (zca 1 (nth l 0)) fun t21=>
opW (zka 1 t21 t20 H31) fun u_1 H35=>
opW (zna 36 (nth l 0) H35) fun t22 H37=>
opW (zka 36 (nth l 1) t22 H37) fun u_2 H39=>
opW (zna 36 (nth l 1) H39) fun r_1 _=>
K (.tuple [r_1,(.int .i64 0)].toArray) H39))
theorem zqz{t0:Value}{H:Heap}{K:VH}(h:zpz t0 H K):wCall P zAm [t0] H K:=zea rfl (Eq.mpr (by kernel_rfl) h)
def zfq(t0 t1:Value)(H:Heap)(K:VH):Prop:=
opP (zda t0) fun t9=>
opP (zca 6 t9) fun t10=>
opW (zba t10 H) fun t11 H3=>
opP (unA .not t11) fun t12=>
wIf t12 (
K (.int .i64 91) H3) (
opW (zOF t1 H3) fun t14 H6=>
wCall P zme [t14] H6 fun t15 H8=>
zab (fun J=>
opP ((zsa P .eql 3 true).f t15 (.int .i64 0)) fun t17=>
wIf t17 (
opP (zra t17 (.bool true) undef) fun t23=>
opP (zra t23 (.bool true) undef) fun t30=>
wIf t30 (
K (.int .i64 92) H8) (
J [t0,t1] H8)) (
wCall P zek [t0] H8 fun t21 H14=>
opP ((zsa P .gtr 3 false).f t15 t21) fun t22=>
opP (zra t17 (.bool true) t22) fun t23_1=>
wIf t23_1 (
opP (zra t23_1 (.bool true) undef) fun t30_1=>
wIf t30_1 (
K (.int .i64 92) H14) (
J [t0,t1] H14)) (
opP (zda t0) fun t26=>
opP (zca 5 t26) fun t27=>
opW (zba t27 H14) fun t28 H21=>
opP ((zsa P .geq 23 true).f t28 (.int .u64 4611686018427387904)) fun t29=>
opP (zra t23_1 (.bool true) t29) fun t30_2=>
wIf t30_2 (
K (.int .i64 92) H21) (
J [t0,t1] H21)))) (fun l H25=>
opP (zda (nth l 0)) fun t35=>
opP (zca 3 t35) fun t36=>
opW (zba t36 H25) fun t37 H29=>
opP (zda (nth l 0)) fun t38=>
opP (zca 1 t38) fun t39=>
opP (zJa 2 1 t39 t37) fun t40=>
opW (zba t40 H29) fun t41 H34=>
opP (zda (nth l 0)) fun t43=>
opP (zca 4 t43) fun t44=>
opW (zba t44 H34) fun t45 H38=>
wCall P zMe [(nth l 0),t41,t45,(.int .u8 2),(nth l 1)] H38 fun t47 H40=>
opP (zNb 0 t47) fun t48=>
opP (zNb 1 t47) fun t49=>
opP ((zsa P .neq 3 true).f t49 (.int .i64 0)) fun t51=>
wIf t51 (
opP (zda (nth l 0)) fun t53=>
opP (zca 6 t53) fun t54=>
opW (zka 1 t54 (.bool false) H40) fun u H47=>
K t49 H47) (
opP (zda (nth l 0)) fun t57=>
opP (zca 5 t57) fun t58=>
opW (zba t58 H40) fun t59 H51=>
opP ((zsa P .add 23 true).f t59 (.int .u64 1)) fun t60=>
opP (zda (nth l 0)) fun t61=>
opP (zca 5 t61) fun t62=>
opW (zka 1 t62 t60 H51) fun u_1 H56=>
opP (zda (nth l 0)) fun t64=>
opP (zca 4 t64) fun t65=>
opW (zba t65 H56) fun t66 H60=>
opP ((zsa P .add 3 false).f t66 t48) fun t68=>
opP (zda (nth l 0)) fun t69=>
opP (zca 4 t69) fun t70=>
opW (zka 1 t70 t68 H60) fun u_2 H65=>
K (.int .i64 0) H65)))
theorem zdt{t0 t1:Value}{H:Heap}{K:VH}(h:zfq t0 t1 H K):wCall P zKh [t0,t1] H K:=zea rfl (Eq.mpr (by kernel_rfl) h)
def zet(t0 t1:Value)(H:Heap)(K:VH):Prop:=
zab (fun J=>
opW (zOF t1 H) fun t10 H2=>
wCall P zfk [t0,t10] H2 fun t11 H4=>
opP (unA .not t11) fun t12=>
wIf t12 (
opP (zra t12 (.bool true) undef) fun t19=>
wIf t19 (
K (.int .i64 92) H4) (
J [t0,t1] H4)) (
opP (zda t0) fun t15=>
opP (zca 5 t15) fun t16=>
opW (zba t16 H4) fun t17 H10=>
opP ((zsa P .geq 23 true).f t17 (.int .u64 4611686018427387904)) fun t18=>
opP (zra t12 (.bool true) t18) fun t19_1=>
wIf t19_1 (
K (.int .i64 92) H10) (
J [t0,t1] H10))) (fun l H14=>
opP (zda (nth l 0)) fun t21=>
opP (zca 6 t21) fun t22=>
opW (zka 1 t22 (.bool false) H14) fun u H18=>
opP (zda (nth l 0)) fun t25=>
opP (zca 3 t25) fun t26=>
opW (zba t26 H18) fun t27 H22=>
opP ((zsa P .sub 3 true).f (.int .i64 1) t27) fun t28=>
opP (zda (nth l 0)) fun t29=>
opP (zca 1 t29) fun t30=>
opP (zJa 2 1 t30 t28) fun t31=>
opW (zba t31 H22) fun t32 H28=>
opP (zda (nth l 0)) fun t34=>
opP (zca 0 t34) fun t35=>
opW (zba t35 H28) fun t36 H32=>
wCall P zth [t36,t32] H32 fun t38 H34=>
zab (fun J_1=>
opP ((zsa P .eql 3 true).f t38 (.int .i64 0)) fun t40=>
wIf t40 (
opP (zda (nth l 0)) fun t42=>
opP (zca 0 t42) fun t43=>
opW (zba t43 H34) fun t44 H40=>
opP (zda t44) fun t45=>
opP (zca 0 t45) fun t46=>
opW (zba t46 H40) fun t47 H44=>
wCall P zne [t47] H44 fun t48 H46=>
J_1 [(nth l 0),(nth l 1),t32,t48] H46) (
J_1 [(nth l 0),(nth l 1),t32,t38] H34)) (fun l_1 H48=>
opP ((zsa P .neq 3 true).f (nth l_1 3) (.int .i64 0)) fun t50=>
wIf t50 (
K (nth l_1 3) H48) (
wCall P zMe [(nth l_1 0),(nth l_1 2),(.int .i64 0),(.int .u8 1),(nth l_1 1)] H48 fun t56 H51=>
opP (zNb 0 t56) fun t57=>
opP (zNb 1 t56) fun t58=>
opP ((zsa P .eql 3 true).f t58 (.int .i64 0)) fun t60=>
wIf t60 (
opP (zda (nth l_1 0)) fun t63=>
opP (zca 3 t63) fun t64=>
opW (zba t64 H51) fun t65 H58=>
opP ((zsa P .sub 3 true).f (.int .i64 1) t65) fun t66=>
opP (zda (nth l_1 0)) fun t67=>
opP (zca 3 t67) fun t68=>
opW (zka 1 t68 t66 H58) fun u_1 H63=>
opP (zda (nth l_1 0)) fun t70=>
opP (zca 5 t70) fun t71=>
opW (zba t71 H63) fun t72 H67=>
opP ((zsa P .add 23 true).f t72 (.int .u64 1)) fun t73=>
opP (zda (nth l_1 0)) fun t74=>
opP (zca 5 t74) fun t75=>
opW (zka 1 t75 t73 H67) fun u_2 H72=>
opP (zda (nth l_1 0)) fun t78=>
opP (zca 4 t78) fun t79=>
opW (zka 1 t79 t57 H72) fun u_3 H76=>
opP (zda (nth l_1 0)) fun t81=>
opP (zca 6 t81) fun t82=>
opW (zka 1 t82 (.bool true) H76) fun u_4 H80=>
K t58 H80) (
K t58 H51))))
theorem zGu{t0 t1:Value}{H:Heap}{K:VH}(h:zet t0 t1 H K):wCall P zRi [t0,t1] H K:=zea rfl (Eq.mpr (by kernel_rfl) h)
def zft(t0:Value)(H:Heap)(K:VH):Prop:=
zlb (zFa t0) H fun t1 H1=>
opW ((zpa P 32 0).f [] H1) fun t4 H3=>
opW (zna 75 t1 H3) fun t5 H5=>
wCall P zJc [t5] H5 fun t6 H7=>
opP (unA .not t6) fun t7=>
wIf t7 (
K t4 H7) (
opP (zca 0 t1) fun t10=>
opP (zJa 2 36 t10 (.int .i64 0)) fun t11=>
opW (zna 36 t11 H7) fun t12 H12=>
wCall P zLe [t12] H12 fun t13 H14=>
opW (zva 1 1 t4 t13 H14) fun t14 H16=>
opP (zca 0 t1) fun t16=>
opP (zJa 2 36 t16 (.int .i64 1)) fun t17=>
opW (zna 36 t17 H16) fun t18 H20=>
wCall P zLe [t18] H20 fun t19 H22=>
opW (zva 1 1 t14 t19 H22) fun t20 H24=>
opP (zca 72 t1) fun t22=>
opW (zba t22 H24) fun t23 H27=>
opW (zob .u8 t23 H27) fun t24 H29=>
opP (zca 73 t1) fun t25=>
opW (zba t25 H29) fun t26 H32=>
opP ((zsa P .add 3 true).f t26 (.int .i64 1)) fun t27=>
opW (zob .u8 t27 H32) fun t28 H35=>
opW ((zpa P 32 2).f [(0,t24),(1,t28)] H35) fun t29 H37=>
opW (zva 1 1 t20 t29 H37) fun t30 H39=>
opP (zca 74 t1) fun t32=>
opW (zba t32 H39) fun t33 H42=>
wCall P zJb [t33,(.int .i64 8)] H42 fun t34 H44=>
opW (zva 1 1 t30 t34 H44) fun t35 H46=>
K t35 H46)
theorem zHu{t0:Value}{H:Heap}{K:VH}(h:zft t0 H K):wCall P zSi [t0] H K:=zea rfl (Eq.mpr (by kernel_rfl) h)
def zKn(t0:Value)(H:Heap)(K:VH):Prop:=
zlb (zFa t0) H fun t1 H1=>
opW (zna 36 t1 H1) fun t3 H3=>
wCall P zXb [t3] H3 fun t4 H5=>
wIf t4 (
opP (zca 0 t1) fun t6=>
opW (zba t6 H5) fun t7 H8=>
opP ((zsa P .eql 3 true).f t7 (.int .i64 3)) fun t8=>
wIf t8 (
opP (zra t8 (.bool true) undef) fun t18=>
opP (zra t4 t18 (.bool false)) fun t19=>
K t19 H8) (
opP (zca 0 t1) fun t10=>
opW (zba t10 H8) fun t11 H14=>
opP ((zsa P .eql 3 true).f t11 (.int .i64 2)) fun t12=>
wIf t12 (
opP (zca 1 t1) fun t14=>
opW (zba t14 H14) fun t15 H18=>
opP ((zsa P .gtr 3 true).f t15 (.int .i64 0)) fun t16=>
opP (zra t12 t16 (.bool false)) fun t17=>
opP (zra t8 (.bool true) t17) fun t18_1=>
opP (zra t4 t18_1 (.bool false)) fun t19_1=>
K t19_1 H18) (
opP (zra t12 undef (.bool false)) fun t17_1=>
opP (zra t8 (.bool true) t17_1) fun t18_2=>
opP (zra t4 t18_2 (.bool false)) fun t19_2=>
K t19_2 H14))) (
opP (zra t4 undef (.bool false)) fun t19_3=>
K t19_3 H5)
theorem zYq{t0:Value}{H:Heap}{K:VH}(h:zKn t0 H K):wCall P zOg [t0] H K:=zea rfl (Eq.mpr (by kernel_rfl) h)
def zrz(t0:Value)(H:Heap)(K:VH):Prop:=
zlb (zFa t0) H fun t1 H1=>
opP (zca 0 t1) fun t3=>
opW (zba t3 H1) fun t4 H4=>
opP ((zsa P .eql 3 true).f t4 (.int .i64 2)) fun t5=>
wIf t5 (
opP (zra t5 (.bool true) undef) fun t10=>
K t10 H4) (
opP (zca 0 t1) fun t7=>
opW (zba t7 H4) fun t8 H9=>
opP ((zsa P .eql 3 true).f t8 (.int .i64 3)) fun t9=>
opP (zra t5 (.bool true) t9) fun t10_1=>
K t10_1 H9)
theorem zsz{t0:Value}{H:Heap}{K:VH}(h:zrz t0 H K):wCall P zBm [t0] H K:=zea rfl (Eq.mpr (by kernel_rfl) h)
noncomputable abbrev zwh:Code:=zOa P zDd 0
def zxh(l:List Value)(H:Heap)(N:LN)(Qx:LX)(Qr:LN):Prop:=
opP ((zsa P .lss 3 false).f (nth l 5) (nth l 4)) fun t13=>
wIf t13 (
wCall P zNe [(nth l 0),(nth l 1),(nth l 5)] H fun t19 H2=>
opP (zNb 0 t19) fun t20=>
opP (zNb 1 t19) fun t21=>
zlb (zc P 94) H2 fun t7 H6=>
opW (zka 64 t7 t20 H6) fun u H8=>
opW (zna 64 t7 H8) fun t23 H10=>
opW ((zpa P 99 1).f [(0,t23)] H10) fun t24 H12=>
opW (zva 64 64 (nth l 3) t24 H12) fun t25 H14=>
opP ((zsa P .add 3 true).f (nth l 5) (.int .i64 1)) fun t26=>
N [(nth l 0),(nth l 1),(nth l 2),t25,(nth l 4),t26] H14) (
Qx 0 [(nth l 2),(nth l 3)] H)
theorem zJj:LpI P 28 zwh 48 zxh:=.mk (by kernel_rfl) fun l H N Qx Qr=>by kernel_rfl
def zpk(t0 t1:Value)(H:Heap)(K:VH):Prop:=
wCall P zcc [t0,t1] H fun t11 H1=>
zdb P true 28 zwh 48 [t0,t1,(.slice none 0 0),(.slice none 0 0),t11,(.int .i64 0)] H1 (fun id l H3=>
cond (Nat.beq id 0) (
K (nth l 1) H3) (
False)) (fun l H3=>
K (nth l 0) H3)
theorem zLn{t0 t1:Value}{H:Heap}{K:VH}(h:zpk t0 t1 H K):wCall P zDd [t0,t1] H K:=zea rfl (Eq.mpr (by kernel_rfl) h)
def ztz(t0:Value)(H:Heap)(K:VH):Prop:=
opW (lenSl t0 H) fun t14 H1=>
opP ((zsa P .eql 3 true).f t14 (.int .i64 0)) fun t15=>
wIf t15 (
K (.tuple [(.int .u8 0),(.int .u64 0),(.slice none 0 0),(.int .i64 0)].toArray) H1) (
opP (zWa 64 t0 (.int .i64 0)) fun t17=>
opP (zmc 64 1 t17 none none none H1) fun t18=>
wCall P zGg [t18] H1 fun t19 H6=>
wCall P zBc [t19,(.int .i64 2)] H6 fun t21 H8=>
wCall P zCa [t19,(.int .i64 1)] H8 fun t23 H10=>
opW (zob .u8 t23 H10) fun t24 H12=>
wCall P zCa [t19,(.int .i64 8)] H12 fun t26 H14=>
wCall P zCa [t19,(.int .i64 2)] H14 fun t28 H16=>
opW (zob .i64 t28 H16) fun t29 H18=>
wCall P zuh [t29] H18 fun t31 H20=>
zab (fun J=>
opW (zzb t21 H20) fun t33 H23=>
opP ((zsa P .neq 9 true).f t33 (.string ⟨#[66,74]⟩)) fun t34=>
wIf t34 (
opP (zra t34 (.bool true) undef) fun t38=>
opP (zra t38 (.bool true) undef) fun t44=>
J [t0,t24,t26,t29,t31,t44] H23) (
opP ((zsa P .eql 3 true).f t31 (.int .i64 0)) fun t37=>
opP (zra t34 (.bool true) t37) fun t38_1=>
wIf t38_1 (
opP (zra t38_1 (.bool true) undef) fun t44_1=>
J [t0,t24,t26,t29,t31,t44_1] H23) (
opW (lenSl t0 H23) fun t42 H31=>
opP ((zsa P .gtr 3 false).f t31 t42) fun t43=>
opP (zra t38_1 (.bool true) t43) fun t44_2=>
J [t0,t24,t26,t29,t31,t44_2] H31))) (fun l H35=>
wIf (nth l 5) (
K (.tuple [(.int .u8 0),(.int .u64 0),(.slice none 0 0),(.int .i64 0)].toArray) H35) (
opP (zLa 64 (nth l 0) none (some (nth l 4)) none) fun t47=>
wCall P zyg [t47] H35 fun t48 H38=>
opP ((zsa P .add 3 true).f (.int .i64 13) (nth l 3)) fun t50=>
opP (zLa 1 t48 (some (.int .i64 13)) (some t50) none) fun t51=>
wCall P zyf [(nth l 1),(nth l 2),t51] H38 fun t55 H42=>
opP (zLa 64 (nth l 0) none (some (nth l 4)) none) fun t58=>
wCall P zYa [t55,t58] H42 fun t59 H45=>
opP (unA .not t59) fun t60=>
wIf t60 (
K (.tuple [(.int .u8 0),(.int .u64 0),(.slice none 0 0),(.int .i64 0)].toArray) H45) (
wCall P zvb [t51] H45 fun t64 H48=>
K (.tuple [(nth l 1),(nth l 2),t64,(nth l 4)].toArray) H48))))
theorem zuz{t0:Value}{H:Heap}{K:VH}(h:ztz t0 H K):wCall P zCm [t0] H K:=zea rfl (Eq.mpr (by kernel_rfl) h)
def zlD(t0:Value)(H:Heap)(K:VH):Prop:=
opP ((zAa P 195).f [(0,t0)]) fun t4=>
zlb (zFa t4) H fun t5 H2=>
K t5 H2
theorem zDB{t0:Value}{H:Heap}{K:VH}(h:zlD t0 H K):wCall P zGg [t0] H K:=zea rfl (Eq.mpr (by kernel_rfl) h)
def zvz(t0:Value)(H:Heap)(K:VH):Prop:=
zlb (zc P 27) H fun t2 H1=>
wCall P zBc [t0,(.int .i64 46)] H1 fun t9 H3=>
wCall P zCc [t0] H3 fun t11 H5=>
opP ((zsa P .neq 38 true).f t11 (.int .i64 0)) fun t13=>
wIf t13 (
opP ((zAa P 27).f []) fun t14=>
opW (zka 36 t2 t14 H5) fun u H9=>
opW (zna 36 t2 H9) fun r _=>
K (.tuple [r,t11].toArray) H9) (
wCall P zGg [t9] H5 fun t17 H12=>
wCall P zCa [t17,(.int .i64 1)] H12 fun t19 H14=>
opW (zob .i64 t19 H14) fun t20 H16=>
wCall P zCa [t17,(.int .i64 1)] H16 fun t22 H18=>
opW (zob .i64 t22 H18) fun t23 H20=>
wCall P zCa [t17,(.int .i64 8)] H20 fun t25 H22=>
wCall P zCa [t17,(.int .i64 4)] H22 fun t27 H24=>
opW (zob .i64 t27 H24) fun t28 H26=>
opP ((zAa P 27).f [(0,t20),(1,t23),(2,t25),(3,t28)]) fun t29=>
zlb (zc P 27) H26 fun t7 H29=>
opW (zka 36 t7 t29 H29) fun u_1 H31=>
opP (zca 4 t7) fun t30=>
opP (zmc 32 1 t30 none none none H31) fun t31=>
wCall P zBc [t17,(.int .i64 32)] H31 fun t33 H35=>
zrc (zjc H31 H35) (zNa [t30])∧(opW (znj 1 t31 t33 H35) fun t34 H37=>
opW (zna 36 t7 H37) fun t35 H39=>
wCall P zXb [t35] H39 fun t36 H41=>
opP (unA .not t36) fun t37=>
wIf t37 (
opP ((zAa P 27).f []) fun t38=>
opW (zka 36 t2 t38 H41) fun u_2 H45=>
opW (zna 36 t2 H45) fun r_1 _=>
K (.tuple [r_1,(.int .i64 101)].toArray) H45) (
opW (zna 36 t7 H41) fun t39 H48=>
opW (zka 36 t2 t39 H48) fun u_3 H50=>
opW (zna 36 t2 H50) fun r_2 _=>
K (.tuple [r_2,(.int .i64 0)].toArray) H50)))
theorem zwz{t0:Value}{H:Heap}{K:VH}(h:zvz t0 H K):wCall P zTi [t0] H K:=zea rfl (Eq.mpr (by kernel_rfl) h)
noncomputable abbrev zwb:List Tmp × Code × Code:=rangeAt P zCa 0
def zkg(vals args:List Value)(l:Nat)(H:Heap)(K:VH):Prop:=
zJy l H fun H0=>
opW (zba (nth vals 0) H0) fun t15 H2=>
opP ((zsa P .shl 23 true).f t15 (.int .u64 8)) fun t16=>
opW (zob .u64 (nth args 1) H2) fun t18 H5=>
opP ((zsa P .or 23 false).f t16 t18) fun t19=>
opW (zka 1 (nth vals 0) t19 H5) fun u H8=>
zML l .normal H8 K
theorem zej(vals args:List Value)(l:Nat)(H:Heap)(K:VH):zNw P 21 zwb.1 zwb.2.1 zwb.2.2 vals args l H K=zkg vals args l H K:=by kernel_rfl
def zhi(t0 t1:Value)(H:Heap)(K:VH):Prop:=
zlb (zc P 23) H fun t5 H1=>
opW (zka 1 t5 (.int .u64 0) H1) fun u H3=>
wCall P zzg [t1] H3 fun t10 H5=>
wCall P zld [t0,t10] H5 fun t11 H7=>
wCall P zud [t11] H7 fun t12 H9=>
zIy P 21 zwb.1 zwb.2.1 zwb.2.2 [t5,undef] t12 H9 (fun H10=>
opW (zba t5 H10) fun t20 H12=>
K t20 H12) (fun id H10=>
cond (Nat.beq id 0) (
opW (zba t5 H10) fun t20_1 H14=>
K t20_1 H14) (
False)) (fun H10=>
K (.int .u64 0) H10)
theorem zpl{t0 t1:Value}{H:Heap}{K:VH}(h:zhi t0 t1 H K):wCall P zCa [t0,t1] H K:=zea rfl (Eq.mpr (by kernel_rfl) h)
def zqk(t0:Value)(H:Heap)(K:VH):Prop:=
opP (zda t0) fun t4=>
opP (zca 1 t4) fun t5=>
opW (zba t5 H) fun t6 H3=>
opP ((zsa P .eql 38 true).f t6 (.int .i64 0)) fun t7=>
wIf t7 (
opP (zda t0) fun t10=>
opP (zca 0 t10) fun t11=>
opW (zba t11 H3) fun t12 H8=>
opW (lenSl t12 H8) fun t13 H10=>
opP ((zsa P .gtr 3 true).f t13 (.int .i64 0)) fun t14=>
opP (zra t7 t14 (.bool false)) fun t15=>
wIf t15 (
K (.int .i64 52) H10) (
opP (zda t0) fun t17=>
opP (zca 1 t17) fun t18=>
opW (zba t18 H10) fun t19 H16=>
K t19 H16)) (
opP (zra t7 undef (.bool false)) fun t15_1=>
wIf t15_1 (
K (.int .i64 52) H3) (
opP (zda t0) fun t17_1=>
opP (zca 1 t17_1) fun t18_1=>
opW (zba t18_1 H3) fun t19_1 H21=>
K t19_1 H21))
theorem zMn{t0:Value}{H:Heap}{K:VH}(h:zqk t0 H K):wCall P zEd [t0] H K:=zea rfl (Eq.mpr (by kernel_rfl) h)
def zgq(t0:Value)(H:Heap)(K:VH):Prop:=
zlb (zc P 81) H fun t2 H1=>
wCall P zCa [t0,(.int .i64 1)] H1 fun t8 H3=>
opW (zob .i64 t8 H3) fun t9 H5=>
opP ((zAa P 81).f [(0,t9)]) fun t10=>
zlb (zc P 81) H5 fun t4 H8=>
opW (zka 40 t4 t10 H8) fun u H10=>
zab (fun J=>
opP (zca 0 t4) fun t11=>
opW (zba t11 H10) fun t12 H14=>
opP ((zsa P .eql 3 true).f t12 (.int .i64 1)) fun t14=>
wIf t14 (
wCall P zCa [t0,(.int .i64 1)] H14 fun t16 H17=>
opW (zob .i64 t16 H17) fun t17 H19=>
opP (zca 1 t4) fun t18=>
opW (zka 1 t18 t17 H19) fun u_1 H22=>
wCall P zTi [t0] H22 fun t21 H24=>
opP (zNb 0 t21) fun t22=>
opP (zNb 1 t21) fun t23=>
zlb (zc P 27) H24 fun t5 H28=>
opW (zka 36 t5 t22 H28) fun u_2 H30=>
opP ((zsa P .neq 38 true).f t23 (.int .i64 0)) fun t25=>
wIf t25 (
opP ((zAa P 81).f []) fun t26=>
opW (zka 40 t2 t26 H30) fun u_3 H34=>
opW (zna 40 t2 H34) fun r _=>
K (.tuple [r,(.int .i64 111)].toArray) H34) (
opW (zna 36 t5 H30) fun t27 H37=>
opP (zca 3 t4) fun t28=>
opW (zka 36 t28 t27 H37) fun u_4 H40=>
J [t0,t2,t4] H40)) (
opP ((zsa P .eql 3 true).f t12 (.int .i64 2)) fun t30=>
wIf t30 (
wCall P zCa [t0,(.int .i64 1)] H14 fun t32 H43=>
opW (zob .i64 t32 H43) fun t33 H45=>
opP (zca 2 t4) fun t34=>
opW (zka 1 t34 t33 H45) fun u_5 H48=>
J [t0,t2,t4] H48) (
opP ((zsa P .eql 3 true).f t12 (.int .i64 3)) fun t36=>
wIf t36 (
wCall P zCa [t0,(.int .i64 1)] H14 fun t38 H51=>
opW (zob .i64 t38 H51) fun t39 H53=>
opP ((zsa P .add 3 true).f t39 (.int .i64 (-1))) fun t40=>
opP (zca 2 t4) fun t41=>
opW (zka 1 t41 t40 H53) fun u_6 H57=>
J [t0,t2,t4] H57) (
opP ((zsa P .eql 3 true).f t12 (.int .i64 4)) fun t43=>
wIf t43 (
wCall P zCa [t0,(.int .i64 8)] H14 fun t45 H60=>
opP (zca 39 t4) fun t46=>
opW (zka 1 t46 t45 H60) fun u_7 H63=>
J [t0,t2,t4] H63) (
J [t0,t2,t4] H14))))) (fun l H65=>
zab (fun J_1=>
wCall P zCc [(nth l 0)] H65 fun t48 H68=>
opP ((zsa P .neq 38 true).f t48 (.int .i64 0)) fun t49=>
wIf t49 (
opP (zra t49 (.bool true) undef) fun t54=>
J_1 [(nth l 1),(nth l 2),t54] H68) (
opW (zna 40 (nth l 2) H68) fun t51 H72=>
wCall P zOe [t51] H72 fun t52 H74=>
opP (unA .not t52) fun t53=>
opP (zra t49 (.bool true) t53) fun t54_1=>
J_1 [(nth l 1),(nth l 2),t54_1] H74)) (fun l_1 H78=>
wIf (nth l_1 2) (
opP ((zAa P 81).f []) fun t55=>
opW (zka 40 (nth l_1 0) t55 H78) fun u_8 H81=>
opW (zna 40 (nth l_1 0) H81) fun r_1 _=>
K (.tuple [r_1,(.int .i64 111)].toArray) H81) (
opW (zna 40 (nth l_1 1) H78) fun t56 H84=>
opW (zka 40 (nth l_1 0) t56 H84) fun u_9 H86=>
opW (zna 40 (nth l_1 0) H86) fun r_2 _=>
K (.tuple [r_2,(.int .i64 0)].toArray) H86)))
theorem zgt{t0:Value}{H:Heap}{K:VH}(h:zgq t0 H K):wCall P zLh [t0] H K:=zea rfl (Eq.mpr (by kernel_rfl) h)
noncomputable abbrev zlg:Code:=zOa P zbc 0
def zmg(l:List Value)(H:Heap)(N:LN)(Qx:LX)(Qr:LN):Prop:=
opP ((zsa P .lss 3 false).f (nth l 3) (nth l 2)) fun t11=>
wIf t11 (
opP (zWa 40 (nth l 1) (nth l 3)) fun t12=>
opW (zna 40 t12 H) fun t13 H3=>
zlb (zc P 81) H3 fun t4 H5=>
opW (zka 40 t4 t13 H5) fun u H7=>
opW (zna 40 t4 H7) fun t14 H9=>
wCall P zOe [t14] H9 fun t15 H11=>
opP (unA .not t15) fun t16=>
wIf t16 (
Qr [(.bool false)] H11) (
opP ((zsa P .add 3 true).f (nth l 3) (.int .i64 1)) fun t17=>
N [(nth l 0),(nth l 1),(nth l 2),t17] H11)) (
Qx 0 [(nth l 0)] H)
theorem zii:LpI P 18 zlg 4 zmg:=.mk (by kernel_rfl) fun l H N Qx Qr=>by kernel_rfl
def zji(t0:Value)(H:Heap)(K:VH):Prop:=
opW (lenSl t0 H) fun t6 H1=>
opP ((zsa P .gtr 3 true).f t6 (.int .i64 8)) fun t7=>
wIf t7 (
K (.bool false) H1) (
opW (lenSl t0 H1) fun t9 H4=>
zdb P true 18 zlg 4 [(.bool false),t0,t9,(.int .i64 0)] H4 (fun id l H6=>
cond (Nat.beq id 0) (
K (.bool true) H6) (
False)) (fun l H6=>
K (nth l 0) H6))
theorem zql{t0:Value}{H:Heap}{K:VH}(h:zji t0 H K):wCall P zbc [t0] H K:=zea rfl (Eq.mpr (by kernel_rfl) h)
noncomputable abbrev zhq:Code:=zOa P zUi 0
def ziq(l:List Value)(H:Heap)(N:LN)(Qx:LX)(Qr:LN):Prop:=
opP (zda (nth l 0)) fun t24=>
opP (zca 1 t24) fun t25=>
opW (zba t25 H) fun t26 H3=>
opP (zWa 1 t26 (nth l 1)) fun t28=>
opW (zba t28 H3) fun t29 H6=>
opP ((zsa P .lss 3 false).f (nth l 4) t29) fun t30=>
wIf t30 (
wCall P zvh [(nth l 0),(nth l 1),(nth l 4)] H6 fun t37 H9=>
opP (zNb 0 t37) fun t38=>
opP (zNb 1 t37) fun t39=>
zlb (zc P 94) H9 fun t7 H13=>
opW (zka 64 t7 t38 H13) fun u H15=>
opP (zmc 64 1 t7 none none none H15) fun t41=>
opW (zva 1 1 (nth l 3) t41 H15) fun t42 H18=>
opP ((zsa P .add 3 true).f (nth l 4) (.int .i64 1)) fun t32=>
N [(nth l 0),(nth l 1),(nth l 2),t42,t32] H18) (
Qx 0 [(nth l 2),(nth l 3)] H6)
theorem zZq:LpI P 44 zhq 48 ziq:=.mk (by kernel_rfl) fun l H N Qx Qr=>by kernel_rfl
def zxz(t0 t1:Value)(H:Heap)(K:VH):Prop:=
opW ((zpa P 32 0).f [] H) fun t9 H1=>
zab (fun J=>
opP ((zsa P .lss 3 true).f t1 (.int .i64 0)) fun t11=>
wIf t11 (
opP (zra t11 (.bool true) undef) fun t20=>
J [t0,t1,(.slice none 0 0),t9,t20] H1) (
opP (zda t0) fun t15=>
opP (zca 1 t15) fun t16=>
opW (zba t16 H1) fun t17 H8=>
opW (lenSl t17 H8) fun t18 H10=>
opP ((zsa P .geq 3 false).f t1 t18) fun t19=>
opP (zra t11 (.bool true) t19) fun t20_1=>
J [t0,t1,(.slice none 0 0),t9,t20_1] H10)) (fun l H14=>
wIf (nth l 4) (
K (nth l 3) H14) (
zdb P true 44 zhq 48 [(nth l 0),(nth l 1),(nth l 2),(nth l 3),(.int .i64 0)] H14 (fun id l_1 H16=>
cond (Nat.beq id 0) (
K (nth l_1 1) H16) (
False)) (fun l_1 H16=>
K (nth l_1 0) H16)))
theorem zyz{t0 t1:Value}{H:Heap}{K:VH}(h:zxz t0 t1 H K):wCall P zUi [t0,t1] H K:=zea rfl (Eq.mpr (by kernel_rfl) h)
end
end J
