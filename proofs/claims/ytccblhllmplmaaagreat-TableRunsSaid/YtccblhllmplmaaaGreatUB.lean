/- texts of the proof, one behind the other -/
import Derived.Test.YtccblhllmplmaaaGreatProg
import Derived.KernelRfl
import Derived.Test.YtccblhllmplmaaaGreatUA
set_option linter.unusedSimpArgs false
set_option linter.unusedSectionVars false
set_option linter.unusedVariables false
set_option maxRecDepth 100000
namespace J
open Go Go.Ab
noncomputable abbrev P:Program:=Go.Proofs.Tryz.prog
noncomputable section
abbrev zwf:Nat:=3
abbrev zid:Nat:=4
abbrev zSj:Nat:=5
abbrev zDi:Nat:=6
abbrev zOf:Nat:=7
abbrev zCd:Nat:=8
abbrev zPf:Nat:=9
abbrev zeg:Nat:=10
abbrev zCo:Nat:=11
abbrev zDd:Nat:=12
abbrev zpc:Nat:=13
abbrev zvg:Nat:=14
abbrev zqb:Nat:=15
abbrev zyc:Nat:=16
abbrev zee:Nat:=17
abbrev zHe:Nat:=18
abbrev zqh:Nat:=19
abbrev zrh:Nat:=20
abbrev zIh:Nat:=21
abbrev zTj:Nat:=22
abbrev zWd:Nat:=23
abbrev zxf:Nat:=24
abbrev zRk:Nat:=25
abbrev zEi:Nat:=26
abbrev zHf:Nat:=27
abbrev zHc:Nat:=28
abbrev zEd:Nat:=29
abbrev zJh:Nat:=30
abbrev zIf:Nat:=31
abbrev zIc:Nat:=32
abbrev zUj:Nat:=33
abbrev zFi:Nat:=34
abbrev zGi:Nat:=35
abbrev zIe:Nat:=36
abbrev zJe:Nat:=37
abbrev zKe:Nat:=38
abbrev zKh:Nat:=39
abbrev zyf:Nat:=40
abbrev zHi:Nat:=41
abbrev zIi:Nat:=42
abbrev zgc:Nat:=43
abbrev zLb:Nat:=44
abbrev zrd:Nat:=45
abbrev zsh:Nat:=46
abbrev zfe:Nat:=47
abbrev zGb:Nat:=48
abbrev zsd:Nat:=49
abbrev zJc:Nat:=50
abbrev zRc:Nat:=51
abbrev zwg:Nat:=52
abbrev zJi:Nat:=53
abbrev zXd:Nat:=54
abbrev ztd:Nat:=55
abbrev zJf:Nat:=56
abbrev zcb:Nat:=57
abbrev zKi:Nat:=58
abbrev zSg:Nat:=59
abbrev zac:Nat:=60
abbrev zKc:Nat:=61
abbrev zzc:Nat:=62
abbrev zLi:Nat:=63
abbrev zLc:Nat:=64
abbrev zMi:Nat:=65
abbrev zme:Nat:=66
abbrev zLe:Nat:=67
abbrev zMe:Nat:=68
abbrev zHb:Nat:=69
abbrev zVj:Nat:=70
abbrev zth:Nat:=71
abbrev zne:Nat:=72
abbrev zYd:Nat:=73
abbrev zSc:Nat:=74
abbrev zge:Nat:=75
abbrev zFd:Nat:=76
abbrev zQf:Nat:=77
abbrev zGd:Nat:=78
abbrev zmm:Nat:=79
abbrev zFg:Nat:=80
abbrev zNi:Nat:=81
abbrev zza:Nat:=82
abbrev zHd:Nat:=83
abbrev zLh:Nat:=84
abbrev zOi:Nat:=85
abbrev zPi:Nat:=86
abbrev zuh:Nat:=87
abbrev znm:Nat:=88
abbrev zNe:Nat:=89
abbrev zzf:Nat:=90
abbrev zzb:Nat:=91
abbrev zSa:Nat:=92
abbrev zAf:Nat:=93
abbrev zRf:Nat:=94
abbrev zbd:Nat:=95
abbrev zOe:Nat:=96
abbrev zPe:Nat:=97
abbrev zTg:Nat:=98
abbrev zUg:Nat:=99
abbrev zQi:Nat:=100
abbrev zQe:Nat:=101
abbrev zbc:Nat:=102
abbrev zSk:Nat:=103
abbrev zAc:Nat:=104
abbrev zvh:Nat:=105
abbrev zxg:Nat:=106
abbrev zZa:Nat:=107
abbrev zvb:Nat:=108
abbrev zBc:Nat:=109
abbrev zud:Nat:=110
abbrev zjd:Nat:=111
abbrev zyg:Nat:=112
abbrev zRe:Nat:=113
abbrev zoe:Nat:=114
abbrev zMh:Nat:=115
abbrev zSe:Nat:=116
abbrev zfb:Nat:=117
abbrev zfg:Nat:=118
abbrev zMc:Nat:=119
abbrev zVg:Nat:=120
abbrev zRi:Nat:=121
abbrev zdb:Nat:=122
abbrev zTe:Nat:=123
abbrev zzg:Nat:=124
abbrev zpb:Nat:=125
abbrev zcn:Nat:=126
abbrev zUe:Nat:=127
abbrev zcd:Nat:=128
abbrev zNc:Nat:=129
abbrev zOd:Nat:=130
abbrev zFb:Nat:=131
abbrev ztc:Nat:=132
abbrev zTk:Nat:=133
abbrev zkd:Nat:=134
abbrev znc:Nat:=135
instance:Orc:=zaN zid
theorem zWj{H:Heap}{K:VH}(hk:K (.bool true) H):wCall P zid [] H K:=⟨1,.ret,_,H,rfl,hk⟩
noncomputable abbrev zVe:Code:=zMa P zwf 0
def zwh(l:List Value)(H:Heap)(N:LN)(Qx:LX)(Qr:LN):Prop:=
opP ((zta P .lss 3 false).f (nth l 8) (nth l 7)) fun t78=>
wIf t78 (
opP (zWa 4 (nth l 6) (nth l 8)) fun t79=>
opW (zna 4 t79 H) fun t80 H3=>
zDb (zc P 52) H3 fun t13 H5=>
opW (zla 4 t13 t80 H5) fun u H7=>
zhb (fun J=>
opP (zda 2 t13) fun t81=>
opW (zba t81 H7) fun t82 H11=>
opW (lenSl t82 H11) fun t83 H13=>
opP ((zta P .gtr 3 true).f t83 (.int .i64 20)) fun t84=>
wIf t84 (
opP (zra t84 (.bool true) undef) fun t90=>
wIf t90 (
Qr [(.bool true),(nth l 2),(nth l 3)] H13) (
J [(nth l 0),(nth l 1),(nth l 2),(nth l 3),(nth l 4),(nth l 5),t13,(nth l 6),(nth l 7),(nth l 8)] H13)) (
opP (zda 3 t13) fun t86=>
opW (zba t86 H13) fun t87 H18=>
opW (lenSl t87 H18) fun t88 H20=>
opP ((zta P .gtr 3 true).f t88 (.int .i64 100)) fun t89=>
opP (zra t84 (.bool true) t89) fun t90_1=>
wIf t90_1 (
Qr [(.bool true),(nth l 2),(nth l 3)] H20) (
J [(nth l 0),(nth l 1),(nth l 2),(nth l 3),(nth l 4),(nth l 5),t13,(nth l 6),(nth l 7),(nth l 8)] H20))) (fun l_1 H24=>
zhb (fun J_1=>
opP (zda 0 (nth l_1 6)) fun t91=>
opW (zba t91 H24) fun t92 H28=>
opP ((zta P .eql 3 true).f t92 (.int .i64 0)) fun t94=>
wIf t94 (
opP (zda 2 (nth l_1 6)) fun t96=>
opW (zba t96 H28) fun t97 H32=>
wCall P zeg [(nth l_1 4),t97] H32 fun t98 H34=>
opP (zda 2 (nth l_1 6)) fun t100=>
opW (zba t100 H34) fun t101 H37=>
wCall P zCo [(nth l_1 5),t101] H37 fun t102 H39=>
J_1 [(nth l_1 0),(nth l_1 1),(nth l_1 2),(nth l_1 3),(nth l_1 4),(nth l_1 5),(nth l_1 6),t98,t102,(nth l_1 7),(nth l_1 8),(nth l_1 9)] H39) (
opP ((zta P .eql 3 true).f t92 (.int .i64 2)) fun t104=>
wIf t104 (
wCall P zDd [(nth l_1 2)] H28 fun t106 H42=>
opP (zda 1 (nth l_1 6)) fun t107=>
opW (zba t107 H42) fun t108 H45=>
zhc (zWb H28 H42) (zVa [t107])∧(wCall P zpc [t106,t108] H45 fun t109 H47=>
opP (zca (nth l_1 3)) fun t111=>
opP (zda 0 t111) fun t112=>
opW (zba t112 H47) fun t113 H51=>
opP (zda 1 (nth l_1 6)) fun t114=>
opW (zba t114 H51) fun t115 H54=>
wCall P zvg [t113,t115] H54 fun t116 H56=>
J_1 [(nth l_1 0),(nth l_1 1),(nth l_1 2),(nth l_1 3),(nth l_1 4),(nth l_1 5),(nth l_1 6),(.int .i64 0),(.int .i64 0),(nth l_1 7),(nth l_1 8),(nth l_1 9)] H56)) (
opP ((zta P .eql 3 true).f t92 (.int .i64 3)) fun t118=>
wIf t118 (
wCall P zDd [(nth l_1 2)] H28 fun t120 H59=>
opP (zda 3 (nth l_1 6)) fun t121=>
opW (zba t121 H59) fun t122 H62=>
zhc (zWb H28 H59) (zVa [t121])∧(wCall P zqb [t120,t122] H62 fun t123 H64=>
opP (zca (nth l_1 3)) fun t125=>
opP (zda 0 t125) fun t126=>
opW (zba t126 H64) fun t127 H68=>
opP (zda 3 (nth l_1 6)) fun t128=>
opW (zba t128 H68) fun t129 H71=>
wCall P zyc [t127,t129] H71 fun t130 H73=>
J_1 [(nth l_1 0),(nth l_1 1),(nth l_1 2),(nth l_1 3),(nth l_1 4),(nth l_1 5),(nth l_1 6),(.int .i64 0),(.int .i64 0),(nth l_1 7),(nth l_1 8),(nth l_1 9)] H73)) (
J_1 [(nth l_1 0),(nth l_1 1),(nth l_1 2),(nth l_1 3),(nth l_1 4),(nth l_1 5),(nth l_1 6),(.int .i64 0),(.int .i64 0),(nth l_1 7),(nth l_1 8),(nth l_1 9)] H28)))) (fun l_2 H75=>
zhb (fun J_2=>
zhb (fun J_3=>
opP (zda 0 (nth l_2 6)) fun t131=>
opW (zba t131 H75) fun t132 H80=>
opP ((zta P .eql 3 true).f t132 (.int .i64 1)) fun t133=>
wIf t133 (
opP (zra t133 (.bool true) undef) fun t138=>
J_3 [(nth l_2 0),(nth l_2 1),(nth l_2 2),(nth l_2 3),(nth l_2 4),(nth l_2 5),(nth l_2 7),(nth l_2 8),(nth l_2 9),(nth l_2 10),(nth l_2 11),t138] H80) (
opP (zda 0 (nth l_2 6)) fun t135=>
opW (zba t135 H80) fun t136 H85=>
opP ((zta P .eql 3 true).f t136 (.int .i64 3)) fun t137=>
opP (zra t133 (.bool true) t137) fun t138_1=>
J_3 [(nth l_2 0),(nth l_2 1),(nth l_2 2),(nth l_2 3),(nth l_2 4),(nth l_2 5),(nth l_2 7),(nth l_2 8),(nth l_2 9),(nth l_2 10),(nth l_2 11),t138_1] H85)) (fun l_3 H89=>
wIf (nth l_3 11) (
opW (zna 75 (nth l_3 0) H89) fun t141 H91=>
wCall P zOf [(nth l_3 2),(.int .i64 0),(.int .i64 1),t141] H91 fun t142 H93=>
opP (zjc 0 t142) fun t143=>
opP (zjc 1 t142) fun t144=>
opW (zna 75 (nth l_3 0) H93) fun t146 H97=>
wCall P zPf [(nth l_3 3),(.int .i64 0),(.int .i64 1),t146] H97 fun t147 H99=>
opP ((zta P .eql 42 true).f t143 (.pointer none)) fun t149=>
wIf t149 (
Qr [(.bool false),(nth l_3 2),(nth l_3 3)] H99) (
J_2 [(nth l_3 0),(nth l_3 1),(nth l_3 2),(nth l_3 3),t143,t147,(nth l_3 6),(nth l_3 7),(nth l_3 8),(nth l_3 9),(nth l_3 10)] H99)) (
J_2 [(nth l_3 0),(nth l_3 1),(nth l_3 2),(nth l_3 3),(nth l_3 4),(nth l_3 5),(nth l_3 6),(nth l_3 7),(nth l_3 8),(nth l_3 9),(nth l_3 10)] H89))) (fun l_4 H102=>
opP ((zta P .neq 3 false).f (nth l_4 6) (nth l_4 7)) fun t152=>
wIf t152 (
opP (zra t152 (.bool true) undef) fun t161=>
opP (zra t161 (.bool true) undef) fun t171=>
opP (zra t171 (.bool true) undef) fun t179=>
wIf t179 (
Qr [(.bool false),(nth l_4 2),(nth l_4 3)] H102) (
opP ((zta P .add 3 true).f (nth l_4 10) (.int .i64 1)) fun t180=>
N [(nth l_4 0),(nth l_4 1),(nth l_4 2),(nth l_4 3),(nth l_4 4),(nth l_4 5),(nth l_4 8),(nth l_4 9),t180] H102)) (
wCall P zee [(nth l_4 4)] H102 fun t155 H109=>
opP (zca (nth l_4 5)) fun t157=>
opP (zda 1 t157) fun t158=>
opW (zna 75 t158 H109) fun t159 H113=>
zhc (zWb H102 H109) (zVa [t158])∧(opP ((zta P .neq 30 false).f t155 t159) fun t160=>
opP (zra t152 (.bool true) t160) fun t161_1=>
wIf t161_1 (
opP (zra t161_1 (.bool true) undef) fun t171_1=>
opP (zra t171_1 (.bool true) undef) fun t179_1=>
wIf t179_1 (
Qr [(.bool false),(nth l_4 2),(nth l_4 3)] H113) (
opP ((zta P .add 3 true).f (nth l_4 10) (.int .i64 1)) fun t180_1=>
N [(nth l_4 0),(nth l_4 1),(nth l_4 2),(nth l_4 3),(nth l_4 4),(nth l_4 5),(nth l_4 8),(nth l_4 9),t180_1] H113)) (
wCall P zHe [(nth l_4 4)] H113 fun t164 H120=>
opP (zca (nth l_4 5)) fun t166=>
opP (zda 0 t166) fun t167=>
opW (zba t167 H120) fun t168 H124=>
zhc (zWb H113 H120) (zVa [t167])∧(wCall P zqh [t168] H124 fun t169 H126=>
opP ((zta P .neq 3 false).f t164 t169) fun t170=>
opP (zra t161_1 (.bool true) t170) fun t171_2=>
wIf t171_2 (
opP (zra t171_2 (.bool true) undef) fun t179_2=>
wIf t179_2 (
Qr [(.bool false),(nth l_4 2),(nth l_4 3)] H126) (
opP ((zta P .add 3 true).f (nth l_4 10) (.int .i64 1)) fun t180_2=>
N [(nth l_4 0),(nth l_4 1),(nth l_4 2),(nth l_4 3),(nth l_4 4),(nth l_4 5),(nth l_4 8),(nth l_4 9),t180_2] H126)) (
wCall P zIh [(nth l_4 2)] H126 fun t174 H132=>
wCall P zTj [(nth l_4 3)] H132 fun t176 H134=>
wCall P zrh [t174,t176] H134 fun t177 H136=>
opP (unA .not t177) fun t178=>
opP (zra t171_2 (.bool true) t178) fun t179_3=>
wIf t179_3 (
Qr [(.bool false),(nth l_4 2),(nth l_4 3)] H136) (
opP ((zta P .add 3 true).f (nth l_4 10) (.int .i64 1)) fun t180_3=>
N [(nth l_4 0),(nth l_4 1),(nth l_4 2),(nth l_4 3),(nth l_4 4),(nth l_4 5),(nth l_4 8),(nth l_4 9),t180_3] H136)))))))))) (
Qx 0 [(nth l 1),(nth l 2),(nth l 3)] H)
theorem zyj:LpI P 197 zVe 448 zwh:=.mk (by kernel_rfl) fun l H N Qx Qr=>by kernel_rfl
def zXj(t0 t1 t2:Value)(H:Heap)(K:VH):Prop:=
zDb (zGa t0) H fun t3 H1=>
zDb (zGa t1) H1 fun t4 H3=>
wCall P zid [] H3 fun t16 H5=>
opP (unA .not t16) fun t17=>
wIf t17 (
K (.bool false) H5) (
zhb (fun J=>
opP (zUa 2 1 t3 (.int .i64 0)) fun t18=>
opW (zba t18 H5) fun t19 H10=>
opP ((zta P .lss 3 true).f t19 (.int .i64 1)) fun t20=>
wIf t20 (
opP (zra t20 (.bool true) undef) fun t25=>
opP (zra t25 (.bool true) undef) fun t30=>
opP (zra t30 (.bool true) undef) fun t35=>
opP (zra t35 (.bool true) undef) fun t40=>
wIf t40 (
K (.bool true) H10) (
J [t2,t3,t4,(.bool false)] H10)) (
opP (zUa 2 1 t3 (.int .i64 1)) fun t22=>
opW (zba t22 H10) fun t23 H18=>
opP ((zta P .lss 3 true).f t23 (.int .i64 1)) fun t24=>
opP (zra t20 (.bool true) t24) fun t25_1=>
wIf t25_1 (
opP (zra t25_1 (.bool true) undef) fun t30_1=>
opP (zra t30_1 (.bool true) undef) fun t35_1=>
opP (zra t35_1 (.bool true) undef) fun t40_1=>
wIf t40_1 (
K (.bool true) H18) (
J [t2,t3,t4,(.bool false)] H18)) (
opP (zUa 2 1 t3 (.int .i64 0)) fun t27=>
opW (zba t27 H18) fun t28 H26=>
opP ((zta P .gtr 3 true).f t28 (.int .i64 20)) fun t29=>
opP (zra t25_1 (.bool true) t29) fun t30_2=>
wIf t30_2 (
opP (zra t30_2 (.bool true) undef) fun t35_2=>
opP (zra t35_2 (.bool true) undef) fun t40_2=>
wIf t40_2 (
K (.bool true) H26) (
J [t2,t3,t4,(.bool false)] H26)) (
opP (zUa 2 1 t3 (.int .i64 1)) fun t32=>
opW (zba t32 H26) fun t33 H33=>
opP ((zta P .gtr 3 true).f t33 (.int .i64 20)) fun t34=>
opP (zra t30_2 (.bool true) t34) fun t35_3=>
wIf t35_3 (
opP (zra t35_3 (.bool true) undef) fun t40_3=>
wIf t40_3 (
K (.bool true) H33) (
J [t2,t3,t4,(.bool false)] H33)) (
opW (lenSl t2 H33) fun t38 H38=>
opP ((zta P .gtr 3 true).f t38 (.int .i64 40)) fun t39=>
opP (zra t35_3 (.bool true) t39) fun t40_4=>
wIf t40_4 (
K (.bool true) H38) (
J [t2,t3,t4,(.bool false)] H38)))))) (fun l H42=>
opW (zna 2 (nth l 1) H42) fun t41 H44=>
wCall P zSj [t41] H44 fun t42 H46=>
wCall P zDi [(.int .i64 60),(.int .i64 10000)] H46 fun t43 H48=>
opP (zUa 2 1 (nth l 1) (.int .i64 0)) fun t44=>
opW (zba t44 H48) fun t45 H51=>
zhc (zWb H46 H48) (zVa [t44])∧(opP (zUa 2 1 (nth l 1) (.int .i64 1)) fun t46=>
opW (zba t46 H51) fun t47 H54=>
zhc (zWb H46 H48) (zVa [t46])∧(opW ((zpa P 38 2).f [(0,t45),(1,t47)] H54) fun t48 H56=>
opP ((zDa P 41).f [(0,t43),(1,t48)]) fun t49=>
zDb (zGa t49) H56 fun t50 H59=>
opW (zna 75 (nth l 2) H59) fun t53 H61=>
wCall P zOf [t42,(.int .i64 0),(.int .i64 1),t53] H61 fun t54 H63=>
opP (zjc 0 t54) fun t55=>
opP (zjc 1 t54) fun t56=>
opW (zna 75 (nth l 2) H63) fun t57 H67=>
wCall P zCd [t57] H67 fun t58 H69=>
opP (unA .not t58) fun t59=>
wIf t59 (
opP ((zta P .eql 42 true).f t55 (.pointer none)) fun t61=>
wIf t61 (
opP ((zta P .eql 43 true).f t56 (.int .i64 111)) fun t64=>
opP (zra t61 t64 (.bool false)) fun t65=>
K t65 H69) (
opP (zra t61 undef (.bool false)) fun t65_1=>
K t65_1 H69)) (
zhb (fun J_1=>
opP ((zta P .eql 42 true).f t55 (.pointer none)) fun t67=>
wIf t67 (
opP (zra t67 (.bool true) undef) fun t71=>
wIf t71 (
K (.bool false) H69) (
J_1 [(nth l 0),(nth l 2),(nth l 3),t42,t50,t55] H69)) (
opP ((zta P .neq 43 true).f t56 (.int .i64 0)) fun t70=>
opP (zra t67 (.bool true) t70) fun t71_1=>
wIf t71_1 (
K (.bool false) H69) (
J_1 [(nth l 0),(nth l 2),(nth l 3),t42,t50,t55] H69))) (fun l_1 H81=>
opW (zna 75 (nth l_1 1) H81) fun t73 H83=>
wCall P zPf [(nth l_1 4),(.int .i64 0),(.int .i64 1),t73] H83 fun t74 H85=>
opW (lenSl (nth l_1 0) H85) fun t76 H87=>
zbb P true 197 zVe 448 [(nth l_1 1),(nth l_1 2),(nth l_1 3),(nth l_1 4),(nth l_1 5),t74,(nth l_1 0),t76,(.int .i64 0)] H87 (fun id l_2 H89=>
cond (Nat.beq id 0) (
wCall P zWd [(nth l_2 1),(.int .i64 0)] H89 fun t182 H91=>
opW (zjb t182 H91) fun t183 H93=>
wCall P zxf [(nth l_2 2),(.int .i64 0)] H93 fun t185 H95=>
zhc (zWb H93 H95) (zVa [t182])∧(opW (zjb t185 H95) fun t186 H97=>
opP ((zta P .eql 9 false).f t183 t186) fun t187=>
wIf t187 (
wCall P zWd [(nth l_2 1),(.int .i64 1)] H97 fun t190 H100=>
opW (zjb t190 H100) fun t191 H102=>
wCall P zxf [(nth l_2 2),(.int .i64 1)] H102 fun t193 H104=>
zhc (zWb H102 H104) (zVa [t190])∧(opW (zjb t193 H104) fun t194 H106=>
opP ((zta P .eql 9 false).f t191 t194) fun t195=>
opP (zra t187 t195 (.bool false)) fun t196=>
K t196 H106)) (
opP (zra t187 undef (.bool false)) fun t196_1=>
K t196_1 H97))) (
False)) (fun l_2 H89=>
K (nth l_2 0) H89)))))))
theorem zdn{t0 t1 t2:Value}{H:Heap}{K:VH}(h:zXj t0 t1 t2 H K):wCall P zwf [t0,t1,t2] H K:=zea rfl (Eq.mpr (by kernel_rfl) h)
def zSu(t0:Value)(H:Heap)(K:VH):Prop:=
zDb (zGa t0) H fun t1 H1=>
wCall P zEi [(.int .i64 60),(.int .i64 10000)] H1 fun t6 H3=>
opP (zUa 2 1 t1 (.int .i64 0)) fun t7=>
opW (zba t7 H3) fun t8 H6=>
zhc (zWb H1 H3) (zVa [t7])∧(opP (zUa 2 1 t1 (.int .i64 1)) fun t9=>
opW (zba t9 H6) fun t10 H9=>
zhc (zWb H1 H3) (zVa [t9])∧(opW ((zpa P 38 2).f [(0,t8),(1,t10)] H9) fun t11 H11=>
wCall P zRk [t6,t11] H11 fun t12 H13=>
opP (zjc 0 t12) fun t13=>
opP (zjc 1 t12) fun t14=>
K t13 H13))
theorem znw{t0:Value}{H:Heap}{K:VH}(h:zSu t0 H K):wCall P zSj [t0] H K:=zea rfl (Eq.mpr (by kernel_rfl) h)
noncomputable abbrev zsp:Code:=zMa P zDi 0
def ztp(l:List Value)(H:Heap)(N:LN)(Qx:LX)(Qr:LN):Prop:=
opP ((zta P .lss 3 false).f (nth l 3) (nth l 2)) fun t24=>
wIf t24 (
opP (zca (nth l 1)) fun t27=>
opP (zda 0 t27) fun t28=>
opW (zba t28 H) fun t29 H4=>
wCall P zHc [] H4 fun t31 H6=>
zhc (zWb H4 H6) (zVa [t28])∧(opP (zWa 64 t29 (nth l 3)) fun t32=>
opW (zla 64 t32 t31 H6) fun u H9=>
opP ((zta P .add 3 true).f (nth l 3) (.int .i64 1)) fun t33=>
N [(nth l 0),(nth l 1),(nth l 2),t33] H9)) (
Qx 0 [(nth l 0),(nth l 1)] H)
theorem zwq:LpI P 35 zsp 80 ztp:=.mk (by kernel_rfl) fun l H N Qx Qr=>by kernel_rfl
def zey(t0 t1:Value)(H:Heap)(K:VH):Prop:=
wCall P zHf [t0,(.int .i64 4096)] H fun t9 H1=>
opW ((zmc P 79).f t9 t9 H1) fun t11 H3=>
opW ((zmc P 38).f t9 t9 H3) fun t13 H5=>
wCall P zHf [t1,(.int .i64 100000)] (bare H5) fun t15 H7=>
zTK H7 H5∧(
opP ((zDa P 82).f [(0,t11),(1,t13),(2,t15)]) fun t16=>
zDb (zGa t16) H5 fun t17 H10=>
opP (zca t17) fun t19=>
opP (zda 0 t19) fun t20=>
opW (zba t20 H10) fun t21 H14=>
opW (lenSl t21 H14) fun t22 H16=>
zbb P true 35 zsp 80 [(.pointer none),t17,t22,(.int .i64 0)] H16 (fun id l H18=>
cond (Nat.beq id 0) (
K (nth l 1) H18) (
False)) (fun l H18=>
K (nth l 0) H18))
theorem zfy{t0 t1:Value}{H:Heap}{K:VH}(h:zey t0 t1 H K):wCall P zDi [t0,t1] H K:=zea rfl (Eq.mpr (by kernel_rfl) h)
def zDo(t0 t1 t2 t3:Value)(H:Heap)(K:VH):Prop:=
zDb (zGa t3) H fun t7 H1=>
opW (zna 75 t7 H1) fun t12 H3=>
wCall P zEd [t12] H3 fun t13 H5=>
opP (unA .not t13) fun t14=>
wIf t14 (
K (.tuple [(.pointer none),(.int .i64 111)].toArray) H5) (
wCall P zJh [t0,t1,t2] H5 fun t19 H8=>
opP (zjc 0 t19) fun t20=>
opP (zjc 1 t19) fun t21=>
opW (zna 75 t7 H8) fun t24 H12=>
wCall P zIf [t21,t24] H12 fun t25 H14=>
opP ((zDa P 92).f [(0,t20),(1,t25)]) fun t26=>
zDb (zGa t26) H14 fun t27 H17=>
K (.tuple [t27,(.int .i64 0)].toArray) H17)
theorem zen{t0 t1 t2 t3:Value}{H:Heap}{K:VH}(h:zDo t0 t1 t2 t3 H K):wCall P zOf [t0,t1,t2,t3] H K:=zea rfl (Eq.mpr (by kernel_rfl) h)
def zis(t0:Value)(H:Heap)(K:VH):Prop:=
zDb (zGa t0) H fun t1 H1=>
zhb (fun J=>
opP (zda 0 t1) fun t3=>
opP (zUa 2 36 t3 (.int .i64 0)) fun t4=>
opW (zna 36 t4 H1) fun t5 H6=>
wCall P zIc [t5] H6 fun t6 H8=>
opP (unA .not t6) fun t7=>
wIf t7 (
opP (zra t7 (.bool true) undef) fun t14=>
wIf t14 (
K (.bool false) H8) (
J [t1] H8)) (
opP (zda 0 t1) fun t9=>
opP (zUa 2 36 t9 (.int .i64 1)) fun t10=>
opW (zna 36 t10 H8) fun t11 H14=>
wCall P zIc [t11] H14 fun t12 H16=>
opP (unA .not t12) fun t13=>
opP (zra t7 (.bool true) t13) fun t14_1=>
wIf t14_1 (
K (.bool false) H16) (
J [t1] H16))) (fun l H20=>
opP (zda 72 (nth l 0)) fun t15=>
opW (zba t15 H20) fun t16 H23=>
opP ((zta P .geq 3 true).f t16 (.int .i64 0)) fun t17=>
wIf t17 (
opP (zda 72 (nth l 0)) fun t19=>
opW (zba t19 H23) fun t20 H27=>
opP ((zta P .leq 3 true).f t20 (.int .i64 1)) fun t21=>
opP (zra t17 t21 (.bool false)) fun t22=>
wIf t22 (
opP (zda 73 (nth l 0)) fun t24=>
opW (zba t24 H27) fun t25 H32=>
opP ((zta P .geq 3 true).f t25 (.int .i64 (-1))) fun t26=>
opP (zra t22 t26 (.bool false)) fun t27=>
wIf t27 (
opP (zda 73 (nth l 0)) fun t29=>
opW (zba t29 H32) fun t30 H37=>
opP ((zta P .leq 3 true).f t30 (.int .i64 1)) fun t31=>
opP (zra t27 t31 (.bool false)) fun t32=>
wIf t32 (
opP (zda 74 (nth l 0)) fun t34=>
opW (zba t34 H37) fun t35 H42=>
opP ((zta P .leq 23 true).f t35 (.int .u64 281474976710656)) fun t36=>
opP (zra t32 t36 (.bool false)) fun t37=>
K t37 H42) (
opP (zra t32 undef (.bool false)) fun t37_1=>
K t37_1 H37)) (
opP (zra t27 undef (.bool false)) fun t32_1=>
opP (zra t32_1 undef (.bool false)) fun t37_2=>
K t37_2 H32)) (
opP (zra t22 undef (.bool false)) fun t27_1=>
opP (zra t27_1 undef (.bool false)) fun t32_2=>
opP (zra t32_2 undef (.bool false)) fun t37_3=>
K t37_3 H27)) (
opP (zra t17 undef (.bool false)) fun t22_1=>
opP (zra t22_1 undef (.bool false)) fun t27_2=>
opP (zra t27_2 undef (.bool false)) fun t32_3=>
opP (zra t32_3 undef (.bool false)) fun t37_4=>
K t37_4 H23))
theorem zMt{t0:Value}{H:Heap}{K:VH}(h:zis t0 H K):wCall P zCd [t0] H K:=zea rfl (Eq.mpr (by kernel_rfl) h)
noncomputable abbrev zSi:Code:=zMa P zPf 0
def zfn(l:List Value)(H:Heap)(N:LN)(Qx:LX)(Qr:LN):Prop:=
opP ((zta P .lss 3 false).f (nth l 4) (nth l 3)) fun t34=>
wIf t34 (
opP (zWa 1 (nth l 2) (nth l 4)) fun t36=>
opW (zba t36 H) fun t37 H3=>
opP ((zta P .eql 3 true).f (nth l 4) (.int .i64 0)) fun t39=>
wIf t39 (
opW (zje t37 H3) fun t42 H6=>
wCall P zFi [t42] H6 fun t43 H8=>
opP (zjc 0 t43) fun t44=>
opP (zjc 1 t43) fun t45=>
zDb (zc P 30) H8 fun t14 H12=>
opW (zla 75 t14 t44 H12) fun u H14=>
opP ((zta P .neq 3 true).f t45 (.int .i64 0)) fun t47=>
wIf t47 (
Qr [(nth l 1),(nth l 1)] H14) (
opW (zna 75 t14 H14) fun t50 H17=>
opP (zca (nth l 1)) fun t51=>
opP (zda 1 t51) fun t52=>
opW (zla 75 t52 t50 H17) fun u_1 H21=>
opP ((zta P .add 3 true).f (nth l 4) (.int .i64 1)) fun t79=>
N [(nth l 0),(nth l 1),(nth l 2),(nth l 3),t79] H21)) (
opW (zje t37 H3) fun t55 H24=>
wCall P zGi [t55] H24 fun t56 H26=>
opP (zjc 0 t56) fun t57=>
opP (zjc 1 t56) fun t58=>
opP (zca (nth l 1)) fun t61=>
opP (zda 1 t61) fun t62=>
opW (zna 75 t62 H26) fun t63 H32=>
wCall P zIe [t63,t57] H32 fun t65 H34=>
opP (zjc 0 t65) fun t66=>
opP (zjc 1 t65) fun t67=>
zDb (zc P 30) H34 fun t18 H38=>
opW (zla 75 t18 t66 H38) fun u_2 H40=>
zhb (fun J=>
opP ((zta P .neq 3 true).f t58 (.int .i64 0)) fun t69=>
wIf t69 (
opP (zra t69 (.bool true) undef) fun t73=>
J [(nth l 0),(nth l 1),t18,(nth l 2),(nth l 3),(nth l 4),t73] H40) (
opP ((zta P .neq 3 true).f t67 (.int .i64 0)) fun t72=>
opP (zra t69 (.bool true) t72) fun t73_1=>
J [(nth l 0),(nth l 1),t18,(nth l 2),(nth l 3),(nth l 4),t73_1] H40)) (fun l_1 H47=>
wIf (nth l_1 6) (
Qr [(nth l_1 1),(nth l_1 1)] H47) (
opW (zna 75 (nth l_1 2) H47) fun t76 H49=>
opP (zca (nth l_1 1)) fun t77=>
opP (zda 1 t77) fun t78=>
opW (zla 75 t78 t76 H49) fun u_3 H53=>
opP ((zta P .add 3 true).f (nth l_1 5) (.int .i64 1)) fun t79_1=>
N [(nth l_1 0),(nth l_1 1),(nth l_1 3),(nth l_1 4),t79_1] H53)))) (
Qx 0 [(nth l 0),(nth l 1)] H)
theorem zEo:LpI P 81 zSi 2304 zfn:=.mk (by kernel_rfl) fun l H N Qx Qr=>by kernel_rfl
def zTu(t0 t1 t2 t3:Value)(H:Heap)(K:VH):Prop:=
zDb (zGa t3) H fun t7 H1=>
wCall P zUj [t0,t1,t2] H1 fun t24 H3=>
opP (zjc 0 t24) fun t25=>
opP (zjc 1 t24) fun t26=>
opW (zna 75 t7 H3) fun t28 H7=>
opP ((zDa P 64).f [(0,t25),(1,t28)]) fun t29=>
zDb (zGa t29) H7 fun t30 H10=>
opW (lenSl t26 H10) fun t32 H12=>
zbb P true 81 zSi 2304 [(.pointer none),t30,t26,t32,(.int .i64 0)] H12 (fun id l H14=>
cond (Nat.beq id 0) (
K (nth l 1) H14) (
False)) (fun l H14=>
K (nth l 0) H14)
theorem zow{t0 t1 t2 t3:Value}{H:Heap}{K:VH}(h:zTu t0 t1 t2 t3 H K):wCall P zPf [t0,t1,t2,t3] H K:=zea rfl (Eq.mpr (by kernel_rfl) h)
def zxl(t0 t1:Value)(H:Heap)(K:VH):Prop:=
opP (zca t0) fun t10=>
opP (zda 1 t10) fun t11=>
opW (zna 75 t11 H) fun t12 H3=>
wCall P zJe [t12,t1] H3 fun t14 H5=>
opP (zjc 0 t14) fun t15=>
opP (zjc 1 t14) fun t16=>
zDb (zc P 30) H5 fun t5 H9=>
opW (zla 75 t5 t15 H9) fun u H11=>
opP ((zta P .neq 43 true).f t16 (.int .i64 0)) fun t18=>
wIf t18 (
K t16 H11) (
opW (zna 75 t5 H11) fun t21 H14=>
wCall P zKe [t0,t21,t1] H14 fun t23 H16=>
opP ((zta P .neq 43 true).f t23 (.int .i64 0)) fun t25=>
wIf t25 (
K t23 H16) (
opW (zna 75 t5 H16) fun t28 H19=>
opP (zca t0) fun t29=>
opP (zda 1 t29) fun t30=>
opW (zla 75 t30 t28 H19) fun u_1 H23=>
K (.int .i64 0) H23))
theorem zFo{t0 t1:Value}{H:Heap}{K:VH}(h:zxl t0 t1 H K):wCall P zeg [t0,t1] H K:=zea rfl (Eq.mpr (by kernel_rfl) h)
def zbC(t0 t1:Value)(H:Heap)(K:VH):Prop:=
opP (zca t0) fun t10=>
opP (zda 1 t10) fun t11=>
opW (zna 75 t11 H) fun t12 H3=>
wCall P zIe [t12,t1] H3 fun t14 H5=>
opP (zjc 0 t14) fun t15=>
opP (zjc 1 t14) fun t16=>
zDb (zc P 30) H5 fun t5 H9=>
opW (zla 75 t5 t15 H9) fun u H11=>
opP ((zta P .neq 3 true).f t16 (.int .i64 0)) fun t18=>
wIf t18 (
K t16 H11) (
opP (zca t0) fun t21=>
opP (zda 0 t21) fun t22=>
opW (zba t22 H11) fun t23 H16=>
opP (zca t23) fun t24=>
opP (zda 6 t24) fun t25=>
opW (zba t25 H16) fun t26 H20=>
opP (unA .not t26) fun t27=>
zhb (fun J=>
opP (unA .not t27) fun t29=>
wIf t29 (
opP (zca t0) fun t31=>
opP (zda 0 t31) fun t32=>
opW (zba t32 H20) fun t33 H27=>
wCall P zyf [t1] H27 fun t35 H29=>
zhc (zWb H27 H29) (zVa [t32])∧(opW (zjb t35 H29) fun t36 H31=>
wCall P zKh [t33,t36] H31 fun t37 H33=>
opP ((zta P .eql 3 true).f t37 (.int .i64 92)) fun t39=>
J [t0,t5,t37,t39] H33)) (
J [t0,t5,t16,t27] H20)) (fun l H36=>
zhb (fun J_1=>
wIf (nth l 3) (
opP (zca (nth l 0)) fun t42=>
opP (zda 0 t42) fun t43=>
opW (zba t43 H36) fun t44 H41=>
opW (zna 75 (nth l 1) H41) fun t45 H43=>
wCall P zIi [t45] H43 fun t46 H45=>
zhc (zWb H43 H45) (zVa [t43])∧(opW (zjb t46 H45) fun t47 H47=>
wCall P zHi [t44,t47] H47 fun t48 H49=>
J_1 [(nth l 0),(nth l 1),t48] H49)) (
J_1 [(nth l 0),(nth l 1),(nth l 2)] H36)) (fun l_1 H51=>
opP ((zta P .eql 3 true).f (nth l_1 2) (.int .i64 0)) fun t50=>
wIf t50 (
opW (zna 75 (nth l_1 1) H51) fun t52 H54=>
opP (zca (nth l_1 0)) fun t53=>
opP (zda 1 t53) fun t54=>
opW (zla 75 t54 t52 H54) fun u_1 H58=>
K (nth l_1 2) H58) (
K (nth l_1 2) H51))))
theorem zxA{t0 t1:Value}{H:Heap}{K:VH}(h:zbC t0 t1 H K):wCall P zCo [t0,t1] H K:=zea rfl (Eq.mpr (by kernel_rfl) h)
def zYj(t0:Value)(H:Heap)(K:VH):Prop:=
opP (zca t0) fun t4=>
opP (zda 0 t4) fun t5=>
opW (zba t5 H) fun t6 H3=>
K t6 H3
theorem zgn{t0:Value}{H:Heap}{K:VH}(h:zYj t0 H K):wCall P zDd [t0] H K:=zea rfl (Eq.mpr (by kernel_rfl) h)
def zWg(t0 t1:Value)(H:Heap)(K:VH):Prop:=
opW (zwe H (zDG [t1,(.int .i64 (-1))])) fun t6 H1=>
opP (zca t0) fun t7=>
opP (zda 3 t7) fun t8=>
opW (zla 1 t8 t6 H1) fun u H5=>
K (.tuple [].toArray) H5
theorem zzj{t0 t1:Value}{H:Heap}{K:VH}(h:zWg t0 t1 H K):wCall P zpc [t0,t1] H K:=zea rfl (Eq.mpr (by kernel_rfl) h)
def zjs(t0 t1:Value)(H:Heap)(K:VH):Prop:=
opP ((zta P .geq 3 true).f t1 (.int .i64 0)) fun t6=>
opP (zca t0) fun t7=>
opP (zda 4 t7) fun t8=>
opW (zla 1 t8 t6 H) fun u H4=>
opP (zca t0) fun t11=>
opP (zda 5 t11) fun t12=>
opW (zla 1 t12 t1 H4) fun u_1 H8=>
K (.tuple [].toArray) H8
theorem zNt{t0 t1:Value}{H:Heap}{K:VH}(h:zjs t0 t1 H K):wCall P zvg [t0,t1] H K:=zea rfl (Eq.mpr (by kernel_rfl) h)
noncomputable abbrev zWe:Code:=zMa P zqb 0
noncomputable abbrev zXe:Code:=zMa P zqb 1
def zYe(l:List Value)(H:Heap)(N:LN)(Qx:LX)(Qr:LN):Prop:=
opP ((zta P .lss 3 false).f (nth l 4) (nth l 3)) fun t15=>
wIf t15 (
opP (zWa 65 (nth l 2) (nth l 4)) fun t17=>
opW (zna 65 t17 H) fun t18 H3=>
zDb (zc P 118) H3 fun t5 H5=>
opW (zla 65 t5 t18 H5) fun u H7=>
opW (lenSl (nth l 1) H7) fun t21 H9=>
opP ((zta P .lss 3 false).f (nth l 4) t21) fun t22=>
wIf t22 (
opP (zWa 1 (nth l 1) (nth l 4)) fun t25=>
opW (zba t25 H9) fun t26 H13=>
opW (zob .i64 t26 H13) fun t27 H15=>
opW (zwe H15 (zyG [t27,(.int .i64 64)])) fun t28 H17=>
opP (zca (nth l 0)) fun t30=>
opP (zda 0 t30) fun t31=>
opW (zba t31 H17) fun t32 H21=>
opP (zda 0 t5) fun t33=>
opW (zba t33 H21) fun t34 H24=>
opP (zWa 129 t32 t34) fun t35=>
opP (zda 0 t35) fun t36=>
opP (zdc 64 1 t36 none (some t28) none H24) fun t38=>
opP (zda 1 t5) fun t39=>
opP (zdc 64 1 t39 none (some t28) none H24) fun t41=>
opW (zdj 1 t38 t41 H24) fun t42 H31=>
opP ((zta P .add 3 true).f (nth l 4) (.int .i64 1)) fun t43=>
N [(nth l 0),(nth l 1),(nth l 2),(nth l 3),t43] H31) (
opP ((zta P .add 3 true).f (nth l 4) (.int .i64 1)) fun t43_1=>
N [(nth l 0),(nth l 1),(nth l 2),(nth l 3),t43_1] H9)) (
Qx 0 [(nth l 0)] H)
theorem zXg:LpI P 80 zWe 1 zYe:=.mk (by kernel_rfl) fun l H N Qx Qr=>by kernel_rfl
def zZe(l:List Value)(H:Heap)(N:LN)(Qx:LX)(Qr:LN):Prop:=
opP ((zta P .lss 3 false).f (nth l 3) (nth l 2)) fun t50=>
wIf t50 (
opP (zWa 65 (nth l 1) (nth l 3)) fun t51=>
opW (zna 65 t51 H) fun t52 H3=>
zDb (zc P 118) H3 fun t8 H5=>
opW (zla 65 t8 t52 H5) fun u H7=>
opP (zca (nth l 0)) fun t54=>
opP (zda 0 t54) fun t55=>
opW (zba t55 H7) fun t56 H11=>
opP (zda 0 t8) fun t57=>
opW (zba t57 H11) fun t58 H14=>
opP (zca (nth l 0)) fun t60=>
opP (zda 0 t60) fun t61=>
opW (zba t61 H14) fun t62 H18=>
opP (zda 0 t8) fun t63=>
opW (zba t63 H18) fun t64 H21=>
opP (zWa 129 t62 t64) fun t65=>
opP (zda 0 t65) fun t66=>
opW (zna 64 t66 H21) fun t67 H25=>
opP (zWa 129 t56 t58) fun t68=>
opP (zda 64 t68) fun t69=>
opW (zla 64 t69 t67 H25) fun u_1 H29=>
opP ((zta P .add 3 true).f (nth l 3) (.int .i64 1)) fun t70=>
N [(nth l 0),(nth l 1),(nth l 2),t70] H29) (
Qx 2 [(nth l 0)] H)
theorem zYg:LpI P 80 zXe 1 zZe:=.mk (by kernel_rfl) fun l H N Qx Qr=>by kernel_rfl
def zjg(t0 t1:Value)(H:Heap)(K:VH):Prop:=
opP (zca t0) fun t10=>
opP (zda 1 t10) fun t11=>
opW (zba t11 H) fun t12 H3=>
opW (lenSl t12 H3) fun t13 H5=>
zbb P true 80 zWe 1 [t0,t1,t12,t13,(.int .i64 0)] H5 (fun id l H7=>
cond (Nat.beq id 0) (
opP (zca (nth l 0)) fun t45=>
opP (zda 1 t45) fun t46=>
opW (zba t46 H7) fun t47 H11=>
opW (lenSl t47 H11) fun t48 H13=>
zbb P true 80 zXe 1 [(nth l 0),t47,t48,(.int .i64 0)] H13 (fun id l_1 H15=>
cond (Nat.beq id 2) (
opP (zca (nth l_1 0)) fun t74=>
opP (zda 1 t74) fun t75=>
opW (zla 1 t75 (.slice none 0 0) H15) fun u H19=>
opP (zca (nth l_1 0)) fun t76=>
opP (zda 3 t76) fun t77=>
opW (zla 1 t77 (.int .i64 (-1)) H19) fun u_1 H23=>
opP (zca (nth l_1 0)) fun t78=>
opP (zda 4 t78) fun t79=>
opW (zla 1 t79 (.bool false) H23) fun u_2 H27=>
K (.tuple [].toArray) H27) (
False)) (fun l_1 H15=>
K (.tuple [].toArray) H15)) (
False)) (fun l H7=>
K (.tuple [].toArray) H7)
theorem zTi{t0 t1:Value}{H:Heap}{K:VH}(h:zjg t0 t1 H K):wCall P zqb [t0,t1] H K:=zea rfl (Eq.mpr (by kernel_rfl) h)
noncomputable abbrev zej:Code:=zMa P zyc 0
noncomputable abbrev zfj:Code:=zMa P zyc 1
def zgj(l:List Value)(H:Heap)(N:LN)(Qx:LX)(Qr:LN):Prop:=
opP ((zta P .lss 3 false).f (nth l 4) (nth l 3)) fun t13=>
wIf t13 (
opP (zWa 65 (nth l 2) (nth l 4)) fun t15=>
opW (zna 65 t15 H) fun t16 H3=>
zDb (zc P 122) H3 fun t5 H5=>
opW (zla 65 t5 t16 H5) fun u H7=>
zbb P true 57 zfj 7171 [(nth l 0),(nth l 1),(nth l 4),t5,(nth l 2),(nth l 3),(nth l 4),(.int .i64 0)] H7 (fun id l_1 H9=>
cond (Nat.beq id 2) (
opP ((zta P .add 3 true).f (nth l_1 4) (.int .i64 1)) fun t47=>
N [(nth l_1 0),(nth l_1 1),(nth l_1 2),(nth l_1 3),t47] H9) (
cond (Nat.beq id 1) (
opP ((zta P .add 3 true).f (nth l_1 4) (.int .i64 1)) fun t47_1=>
N [(nth l_1 0),(nth l_1 1),(nth l_1 2),(nth l_1 3),t47_1] H9) (
Qx id [(nth l_1 0)] H9))) (fun l_1 H9=>
Qr [(nth l_1 0)] H9)) (
Qx 0 [(nth l 0)] H)
theorem zZk:LpI P 57 zej 1 zgj:=.mk (by kernel_rfl) fun l H N Qx Qr=>by kernel_rfl
def zhj(l:List Value)(H:Heap)(N:LN)(Qx:LX)(Qr:LN):Prop:=
opP ((zta P .lss 3 true).f (nth l 7) (.int .i64 64)) fun t18=>
wIf t18 (
zhb (fun J=>
opW (lenSl (nth l 1) H) fun t22 H3=>
opP ((zta P .lss 3 false).f (nth l 2) t22) fun t23=>
wIf t23 (
opP (zWa 1 (nth l 1) (nth l 2)) fun t28=>
opW (zba t28 H3) fun t29 H7=>
opW (zob .i64 t29 H7) fun t30 H9=>
opP ((zta P .lss 3 false).f (nth l 7) t30) fun t31=>
opP (zra t23 t31 (.bool false)) fun t32=>
J [(nth l 0),(nth l 1),(nth l 2),(nth l 3),(nth l 7),(nth l 4),(nth l 5),(nth l 6),(nth l 7),t32] H9) (
opP (zra t23 undef (.bool false)) fun t32_1=>
J [(nth l 0),(nth l 1),(nth l 2),(nth l 3),(nth l 7),(nth l 4),(nth l 5),(nth l 6),(nth l 7),t32_1] H3)) (fun l_1 H14=>
wIf (nth l_1 9) (
opP (zca (nth l_1 0)) fun t34=>
opP (zda 0 t34) fun t35=>
opW (zba t35 H14) fun t36 H18=>
opP (zda 0 (nth l_1 3)) fun t37=>
opW (zba t37 H18) fun t38 H21=>
opP (zda 1 (nth l_1 3)) fun t41=>
opP (zUa 64 1 t41 (nth l_1 4)) fun t42=>
opW (zba t42 H21) fun t43 H25=>
opP (zWa 64 t36 t38) fun t44=>
opP (zUa 64 1 t44 (nth l_1 4)) fun t45=>
opW (zla 1 t45 t43 H25) fun u H29=>
opP ((zta P .add 3 true).f (nth l_1 8) (.int .i64 1)) fun t46=>
N [(nth l_1 0),(nth l_1 1),(nth l_1 2),(nth l_1 3),(nth l_1 5),(nth l_1 6),(nth l_1 7),t46] H29) (
opP ((zta P .add 3 true).f (nth l_1 8) (.int .i64 1)) fun t46_1=>
N [(nth l_1 0),(nth l_1 1),(nth l_1 2),(nth l_1 3),(nth l_1 5),(nth l_1 6),(nth l_1 7),t46_1] H14))) (
Qx 2 [(nth l 0),(nth l 1),(nth l 4),(nth l 5),(nth l 6)] H)
theorem zal:LpI P 57 zfj 7171 zhj:=.mk (by kernel_rfl) fun l H N Qx Qr=>by kernel_rfl
def zhn(t0 t1:Value)(H:Heap)(K:VH):Prop:=
opP (zca t0) fun t8=>
opP (zda 3 t8) fun t9=>
opW (zba t9 H) fun t10 H3=>
opW (lenSl t10 H3) fun t11 H5=>
zbb P true 57 zej 1 [t0,t1,t10,t11,(.int .i64 0)] H5 (fun id l H7=>
cond (Nat.beq id 0) (
opP (zca (nth l 0)) fun t49=>
opP (zda 3 t49) fun t50=>
opW (zla 1 t50 (.slice none 0 0) H7) fun u H11=>
opP (zca (nth l 0)) fun t52=>
opP (zda 4 t52) fun t53=>
opW (zla 1 t53 (.bool false) H11) fun u_1 H15=>
opP (zca (nth l 0)) fun t55=>
opP (zda 6 t55) fun t56=>
opW (zla 1 t56 (.bool false) H15) fun u_2 H19=>
K (.tuple [].toArray) H19) (
False)) (fun l H7=>
K (.tuple [].toArray) H7)
theorem zxq{t0 t1:Value}{H:Heap}{K:VH}(h:zhn t0 t1 H K):wCall P zyc [t0,t1] H K:=zea rfl (Eq.mpr (by kernel_rfl) h)
def zZh(t0:Value)(H:Heap)(K:VH):Prop:=
zDb (zc P 30) H fun t2 H1=>
opP (zca t0) fun t4=>
opP (zda 1 t4) fun t5=>
opW (zna 75 t5 H1) fun t6 H5=>
opW (zla 75 t2 t6 H5) fun u H7=>
opW (zna 75 t2 H7) fun r _=>
K r H7
theorem zbl{t0:Value}{H:Heap}{K:VH}(h:zZh t0 H K):wCall P zee [t0] H K:=zea rfl (Eq.mpr (by kernel_rfl) h)
def zij(t0:Value)(H:Heap)(K:VH):Prop:=
opP (zca t0) fun t4=>
opP (zda 0 t4) fun t5=>
opW (zba t5 H) fun t6 H3=>
wCall P zgc [t6] H3 fun t7 H5=>
K t7 H5
theorem zom{t0:Value}{H:Heap}{K:VH}(h:zij t0 H K):wCall P zHe [t0] H K:=zea rfl (Eq.mpr (by kernel_rfl) h)
def zUu(t0:Value)(H:Heap)(K:VH):Prop:=
opP (zca t0) fun t4=>
opP (zda 6 t4) fun t5=>
opW (zba t5 H) fun t6 H3=>
opP (unA .not t6) fun t7=>
wIf t7 (
K (.int .i64 0) H3) (
opP (zca t0) fun t9=>
opP (zda 0 t9) fun t10=>
opW (zba t10 H3) fun t11 H8=>
opP (zca t11) fun t12=>
opP (zda 1 t12) fun t13=>
opW (zba t13 H8) fun t14 H12=>
opP (zca t0) fun t17=>
opP (zda 3 t17) fun t18=>
opW (zba t18 H12) fun t19 H16=>
opP (zca t0) fun t20=>
opP (zda 1 t20) fun t21=>
opP (zUa 2 1 t21 t19) fun t22=>
opW (zba t22 H16) fun t23 H21=>
opP (zWa 1 t14 t23) fun t24=>
opW (zba t24 H21) fun t25 H24=>
opP (zca t0) fun t27=>
opP (zda 4 t27) fun t28=>
opW (zba t28 H24) fun t29 H28=>
opP ((zta P .sub 3 false).f t25 t29) fun t30=>
K t30 H28)
theorem zpw{t0:Value}{H:Heap}{K:VH}(h:zUu t0 H K):wCall P zqh [t0] H K:=zea rfl (Eq.mpr (by kernel_rfl) h)
noncomputable abbrev zin:Code:=zMa P zrh 0
def zjn(l:List Value)(H:Heap)(N:LN)(Qx:LX)(Qr:LN):Prop:=
opP ((zta P .lss 3 false).f (nth l 4) (nth l 3)) fun t14=>
wIf t14 (
opP (zWa 4 (nth l 0) (nth l 4)) fun t18=>
opW (zna 4 t18 H) fun t19 H3=>
opP (zWa 4 (nth l 1) (nth l 4)) fun t22=>
opW (zna 4 t22 H3) fun t23 H6=>
opP ((zta P .neq 124 false).f t19 t23) fun t24=>
wIf t24 (
Qr [(.bool false)] H6) (
opP ((zta P .add 3 true).f (nth l 4) (.int .i64 1)) fun t25=>
N [(nth l 0),(nth l 1),(nth l 2),(nth l 3),t25] H6)) (
Qx 0 [(nth l 2)] H)
theorem zGo:LpI P 26 zin 16 zjn:=.mk (by kernel_rfl) fun l H N Qx Qr=>by kernel_rfl
def zVu(t0 t1:Value)(H:Heap)(K:VH):Prop:=
opW (lenSl t0 H) fun t7 H1=>
opW (lenSl t1 H1) fun t9 H3=>
opP ((zta P .neq 3 false).f t7 t9) fun t10=>
wIf t10 (
K (.bool false) H3) (
opW (lenSl t0 H3) fun t12 H6=>
zbb P true 26 zin 16 [t0,t1,(.bool false),t12,(.int .i64 0)] H6 (fun id l H8=>
cond (Nat.beq id 0) (
K (.bool true) H8) (
False)) (fun l H8=>
K (nth l 0) H8))
theorem zqw{t0 t1:Value}{H:Heap}{K:VH}(h:zVu t0 t1 H K):wCall P zrh [t0,t1] H K:=zea rfl (Eq.mpr (by kernel_rfl) h)
def zup(t0:Value)(H:Heap)(K:VH):Prop:=
opP (zca t0) fun t5=>
opP (zda 3 t5) fun t6=>
opW (zba t6 H) fun t7 H3=>
opP (zca t0) fun t9=>
opP (zda 3 t9) fun t10=>
opW (zla 1 t10 (.slice none 0 0) H3) fun u H7=>
K t7 H7
theorem zks{t0:Value}{H:Heap}{K:VH}(h:zup t0 H K):wCall P zIh [t0] H K:=zea rfl (Eq.mpr (by kernel_rfl) h)
def zWu(t0:Value)(H:Heap)(K:VH):Prop:=
opP (zca t0) fun t5=>
opP (zda 3 t5) fun t6=>
opW (zba t6 H) fun t7 H3=>
opP (zca t0) fun t9=>
opP (zda 3 t9) fun t10=>
opW (zla 1 t10 (.slice none 0 0) H3) fun u H7=>
K t7 H7
theorem zrw{t0:Value}{H:Heap}{K:VH}(h:zWu t0 H K):wCall P zTj [t0] H K:=zea rfl (Eq.mpr (by kernel_rfl) h)
noncomputable abbrev zZj:Code:=zMa P zWd 0
def zak(l:List Value)(H:Heap)(N:LN)(Qx:LX)(Qr:LN):Prop:=
opP ((zta P .lss 3 false).f (nth l 5) (nth l 4)) fun t13=>
wIf t13 (
wCall P zrd [(nth l 0),(nth l 1),(nth l 5)] H fun t19 H2=>
opP (zjc 0 t19) fun t20=>
opP (zjc 1 t19) fun t21=>
zDb (zc P 84) H2 fun t7 H6=>
opW (zla 64 t7 t20 H6) fun u H8=>
opP (zdc 64 1 t7 none none none H8) fun t23=>
opW (zva 1 1 (nth l 3) t23 H8) fun t24 H11=>
opP ((zta P .add 3 true).f (nth l 5) (.int .i64 1)) fun t25=>
N [(nth l 0),(nth l 1),(nth l 2),t24,(nth l 4),t25] H11) (
Qx 0 [(nth l 2),(nth l 3)] H)
theorem zpm:LpI P 27 zZj 48 zak:=.mk (by kernel_rfl) fun l H N Qx Qr=>by kernel_rfl
def zvp(t0 t1:Value)(H:Heap)(K:VH):Prop:=
wCall P zLb [t0,t1] H fun t11 H1=>
zbb P true 27 zZj 48 [t0,t1,(.slice none 0 0),(.slice none 0 0),t11,(.int .i64 0)] H1 (fun id l H3=>
cond (Nat.beq id 0) (
K (nth l 1) H3) (
False)) (fun l H3=>
K (nth l 0) H3)
theorem zls{t0 t1:Value}{H:Heap}{K:VH}(h:zvp t0 t1 H K):wCall P zWd [t0,t1] H K:=zea rfl (Eq.mpr (by kernel_rfl) h)
noncomputable abbrev zwp:Code:=zMa P zxf 0
def zxp(l:List Value)(H:Heap)(N:LN)(Qx:LX)(Qr:LN):Prop:=
opP (zca (nth l 0)) fun t24=>
opP (zda 1 t24) fun t25=>
opW (zba t25 H) fun t26 H3=>
opP (zWa 1 t26 (nth l 1)) fun t28=>
opW (zba t28 H3) fun t29 H6=>
opP ((zta P .lss 3 false).f (nth l 4) t29) fun t30=>
wIf t30 (
wCall P zsh [(nth l 0),(nth l 1),(nth l 4)] H6 fun t37 H9=>
opP (zjc 0 t37) fun t38=>
opP (zjc 1 t37) fun t39=>
zDb (zc P 84) H9 fun t7 H13=>
opW (zla 64 t7 t38 H13) fun u H15=>
opP (zdc 64 1 t7 none none none H15) fun t41=>
opW (zva 1 1 (nth l 3) t41 H15) fun t42 H18=>
opP ((zta P .add 3 true).f (nth l 4) (.int .i64 1)) fun t32=>
N [(nth l 0),(nth l 1),(nth l 2),t42,t32] H18) (
Qx 0 [(nth l 2),(nth l 3)] H6)
theorem zyq:LpI P 44 zwp 48 zxp:=.mk (by kernel_rfl) fun l H N Qx Qr=>by kernel_rfl
def zgy(t0 t1:Value)(H:Heap)(K:VH):Prop:=
opW ((zpa P 50 0).f [] H) fun t9 H1=>
zhb (fun J=>
opP ((zta P .lss 3 true).f t1 (.int .i64 0)) fun t11=>
wIf t11 (
opP (zra t11 (.bool true) undef) fun t20=>
J [t0,t1,(.slice none 0 0),t9,t20] H1) (
opP (zca t0) fun t15=>
opP (zda 1 t15) fun t16=>
opW (zba t16 H1) fun t17 H8=>
opW (lenSl t17 H8) fun t18 H10=>
opP ((zta P .geq 3 false).f t1 t18) fun t19=>
opP (zra t11 (.bool true) t19) fun t20_1=>
J [t0,t1,(.slice none 0 0),t9,t20_1] H10)) (fun l H14=>
wIf (nth l 4) (
K (nth l 3) H14) (
zbb P true 44 zwp 48 [(nth l 0),(nth l 1),(nth l 2),(nth l 3),(.int .i64 0)] H14 (fun id l_1 H16=>
cond (Nat.beq id 0) (
K (nth l_1 1) H16) (
False)) (fun l_1 H16=>
K (nth l_1 0) H16)))
theorem zhy{t0 t1:Value}{H:Heap}{K:VH}(h:zgy t0 t1 H K):wCall P zxf [t0,t1] H K:=zea rfl (Eq.mpr (by kernel_rfl) h)
noncomputable abbrev zms:Code:=zMa P zRk 0
def zns(l:List Value)(H:Heap)(N:LN)(Qx:LX)(Qr:LN):Prop:=
opP ((zta P .lss 3 false).f (nth l 7) (nth l 6)) fun t24=>
wIf t24 (
opP (zWa 1 (nth l 5) (nth l 7)) fun t25=>
opW (zba t25 H) fun t26 H3=>
zhb (fun J=>
opP ((zta P .lss 3 true).f t26 (.int .i64 1)) fun t28=>
wIf t28 (
opP (zra t28 (.bool true) undef) fun t36=>
J [(nth l 0),(nth l 1),(nth l 2),(nth l 3),(nth l 4),t26,(nth l 5),(nth l 6),(nth l 7),t36] H3) (
wCall P zfe [(nth l 0)] H3 fun t32 H8=>
opP ((zta P .sub 3 false).f t32 (nth l 4)) fun t34=>
opP ((zta P .gtr 3 false).f t26 t34) fun t35=>
opP (zra t28 (.bool true) t35) fun t36_1=>
J [(nth l 0),(nth l 1),(nth l 2),(nth l 3),(nth l 4),t26,(nth l 5),(nth l 6),(nth l 7),t36_1] H8)) (fun l_1 H13=>
wIf (nth l_1 9) (
Qr [(.pointer none),(.int .i64 71),(nth l_1 3)] H13) (
opP (zca (nth l_1 3)) fun t39=>
opP (zda 1 t39) fun t40=>
opW (zba t40 H13) fun t41 H17=>
opP ((zDa P 131).f [(0,(nth l_1 4)),(1,(nth l_1 5))]) fun t44=>
opW ((zpa P 110 1).f [(0,t44)] H17) fun t45 H20=>
opW (zva 2 16 t41 t45 H20) fun t46 H22=>
opP (zca (nth l_1 3)) fun t47=>
opP (zda 1 t47) fun t48=>
opW (zla 1 t48 t46 H22) fun u H26=>
opP ((zta P .add 3 false).f (nth l_1 4) (nth l_1 5)) fun t51=>
opP ((zta P .add 3 true).f (nth l_1 8) (.int .i64 1)) fun t52=>
N [(nth l_1 0),(nth l_1 1),(nth l_1 2),(nth l_1 3),t51,(nth l_1 6),(nth l_1 7),t52] H26))) (
Qx 0 [(nth l 1),(nth l 2),(nth l 3)] H)
theorem zos:LpI P 54 zms 112 zns:=.mk (by kernel_rfl) fun l H N Qx Qr=>by kernel_rfl
def zcC(t0 t1:Value)(H:Heap)(K:VH):Prop:=
zhb (fun J=>
opW (lenSl t1 H) fun t11 H2=>
opP ((zta P .eql 3 true).f t11 (.int .i64 0)) fun t12=>
wIf t12 (
opP (zra t12 (.bool true) undef) fun t17=>
J [t0,t1,(.pointer none),(.int .i64 0),t17] H2) (
opW (lenSl t1 H2) fun t15 H6=>
opP ((zta P .gtr 3 true).f t15 (.int .i64 16)) fun t16=>
opP (zra t12 (.bool true) t16) fun t17_1=>
J [t0,t1,(.pointer none),(.int .i64 0),t17_1] H6)) (fun l H10=>
wIf (nth l 4) (
K (.tuple [(.pointer none),(.int .i64 71)].toArray) H10) (
opP ((zDa P 112).f [(0,(nth l 0))]) fun t19=>
zDb (zGa t19) H10 fun t20 H13=>
opW (lenSl (nth l 1) H13) fun t22 H15=>
zbb P true 54 zms 112 [(nth l 0),(nth l 2),(nth l 3),t20,(.int .i64 0),(nth l 1),t22,(.int .i64 0)] H15 (fun id l_1 H17=>
cond (Nat.beq id 0) (
K (.tuple [(nth l_1 2),(.int .i64 0)].toArray) H17) (
False)) (fun l_1 H17=>
K (.tuple [(nth l_1 0),(nth l_1 1)].toArray) H17)))
theorem zyA{t0 t1:Value}{H:Heap}{K:VH}(h:zcC t0 t1 H K):wCall P zRk [t0,t1] H K:=zea rfl (Eq.mpr (by kernel_rfl) h)
noncomputable abbrev zyp:Code:=zMa P zEi 0
def zzp(l:List Value)(H:Heap)(N:LN)(Qx:LX)(Qr:LN):Prop:=
opP ((zta P .lss 3 false).f (nth l 3) (nth l 2)) fun t22=>
wIf t22 (
opP (zca (nth l 1)) fun t25=>
opP (zda 0 t25) fun t26=>
opW (zba t26 H) fun t27 H4=>
wCall P zGb [] H4 fun t29 H6=>
zhc (zWb H4 H6) (zVa [t26])∧(wCall P zGb [] H6 fun t30 H8=>
zhc (zWb H6 H8) (zVa [t26])∧(opP ((zDa P 120).f [(0,t29),(1,t30)]) fun t31=>
opP (zWa 129 t27 (nth l 3)) fun t32=>
opW (zla 129 t32 t31 H8) fun u H12=>
opP ((zta P .add 3 true).f (nth l 3) (.int .i64 1)) fun t33=>
N [(nth l 0),(nth l 1),(nth l 2),t33] H12))) (
Qx 0 [(nth l 0),(nth l 1)] H)
theorem zzq:LpI P 35 zyp 48 zzp:=.mk (by kernel_rfl) fun l H N Qx Qr=>by kernel_rfl
def ziy(t0 t1:Value)(H:Heap)(K:VH):Prop:=
opW (zwe H (zyG [t0,(.int .i64 4096)])) fun t8 H1=>
opW (zwe H1 (zDG [(.int .i64 0),t8])) fun t9 H3=>
opW ((zmc P 113).f t9 t9 H3) fun t10 H5=>
opW (zwe H5 (zyG [t1,(.int .i64 100000)])) fun t12 H7=>
opW (zwe H7 (zDG [(.int .i64 0),t12])) fun t13 H9=>
opP ((zDa P 116).f [(0,t10),(2,t13),(3,(.int .i64 (-1)))]) fun t14=>
zDb (zGa t14) H9 fun t15 H12=>
opP (zca t15) fun t17=>
opP (zda 0 t17) fun t18=>
opW (zba t18 H12) fun t19 H16=>
opW (lenSl t19 H16) fun t20 H18=>
zbb P true 35 zyp 48 [(.pointer none),t15,t20,(.int .i64 0)] H18 (fun id l H20=>
cond (Nat.beq id 0) (
K (nth l 1) H20) (
False)) (fun l H20=>
K (nth l 0) H20)
theorem zjy{t0 t1:Value}{H:Heap}{K:VH}(h:ziy t0 t1 H K):wCall P zEi [t0,t1] H K:=zea rfl (Eq.mpr (by kernel_rfl) h)
def zAp(t0 t1:Value)(H:Heap)(K:VH):Prop:=
opP ((zta P .lss 3 true).f t0 (.int .i64 0)) fun t6=>
wIf t6 (
K (.int .i64 0) H) (
opP ((zta P .gtr 3 false).f t0 t1) fun t9=>
wIf t9 (
K t1 H) (
K t0 H))
theorem zps{t0 t1:Value}{H:Heap}{K:VH}(h:zAp t0 t1 H K):wCall P zHf [t0,t1] H K:=zea rfl (Eq.mpr (by kernel_rfl) h)
noncomputable abbrev zyl:Code:=zMa P zHc 0
def zzl(l:List Value)(H:Heap)(N:LN)(Qx:LX)(Qr:LN):Prop:=
opP ((zta P .lss 3 true).f (nth l 2) (.int .i64 64)) fun t5=>
wIf t5 (
opP (zUa 64 1 (nth l 1) (nth l 2)) fun t8=>
opW (zla 1 t8 (.int .u8 255) H) fun u H3=>
opP ((zta P .add 3 true).f (nth l 2) (.int .i64 1)) fun t9=>
N [(nth l 0),(nth l 1),t9] H3) (
Qx 0 [(nth l 0),(nth l 1)] H)
theorem zkn:LpI P 11 zyl 3 zzl:=.mk (by kernel_rfl) fun l H N Qx Qr=>by kernel_rfl
def zqs(H:Heap)(K:VH):Prop:=
zDb (zc P 84) H fun t0 H1=>
opP ((zDa P 84).f []) fun t3=>
zDb (zc P 84) H1 fun t1 H4=>
opW (zla 64 t1 t3 H4) fun u H6=>
zbb P true 11 zyl 3 [t0,t1,(.int .i64 0)] H6 (fun id l H8=>
cond (Nat.beq id 0) (
opW (zna 64 (nth l 1) H8) fun t10 H10=>
opW (zla 64 (nth l 0) t10 H10) fun u_1 H12=>
opW (zna 64 (nth l 0) H12) fun r _=>
K r H12) (
False)) (fun l H8=>
opW (zna 64 (nth l 0) H8) fun r_1 _=>
K r_1 H8)
theorem zOt{H:Heap}{K:VH}(h:zqs  H K):wCall P zHc [] H K:=zea rfl (Eq.mpr (by kernel_rfl) h)
def zrs(t0:Value)(H:Heap)(K:VH):Prop:=
zDb (zGa t0) H fun t1 H1=>
opP (zda 0 t1) fun t3=>
opP (zUa 2 36 t3 (.int .i64 0)) fun t4=>
opW (zna 36 t4 H1) fun t5 H5=>
wCall P zsd [t5] H5 fun t6 H7=>
wIf t6 (
opP (zda 0 t1) fun t8=>
opP (zUa 2 36 t8 (.int .i64 1)) fun t9=>
opW (zna 36 t9 H7) fun t10 H11=>
wCall P zsd [t10] H11 fun t11 H13=>
opP (zra t6 t11 (.bool false)) fun t12=>
wIf t12 (
opP (zda 72 t1) fun t14=>
opW (zba t14 H13) fun t15 H17=>
wCall P zJc [t15] H17 fun t16 H19=>
opP (zra t12 t16 (.bool false)) fun t17=>
wIf t17 (
opP (zda 73 t1) fun t19=>
opW (zba t19 H19) fun t20 H23=>
opP ((zta P .eql 3 true).f t20 (.int .i64 (-1))) fun t21=>
wIf t21 (
opP (zra t21 (.bool true) undef) fun t26=>
opP (zra t17 t26 (.bool false)) fun t27=>
opP (zda 74 t1) fun t29=>
opW (zba t29 H23) fun t30 H29=>
opP ((zta P .leq 23 true).f t30 (.int .u64 281474976710656)) fun t31=>
opP (zra t27 t31 (.bool false)) fun t32=>
K t32 H29) (
opP (zda 73 t1) fun t23=>
opW (zba t23 H23) fun t24 H34=>
wCall P zJc [t24] H34 fun t25 H36=>
opP (zra t21 (.bool true) t25) fun t26_1=>
opP (zra t17 t26_1 (.bool false)) fun t27_1=>
wIf t27_1 (
opP (zda 74 t1) fun t29_1=>
opW (zba t29_1 H36) fun t30_1 H41=>
opP ((zta P .leq 23 true).f t30_1 (.int .u64 281474976710656)) fun t31_1=>
opP (zra t27_1 t31_1 (.bool false)) fun t32_1=>
K t32_1 H41) (
opP (zra t27_1 undef (.bool false)) fun t32_2=>
K t32_2 H36))) (
opP (zra t17 undef (.bool false)) fun t27_2=>
opP (zra t27_2 undef (.bool false)) fun t32_3=>
K t32_3 H19)) (
opP (zra t12 undef (.bool false)) fun t17_1=>
opP (zra t17_1 undef (.bool false)) fun t27_3=>
opP (zra t27_3 undef (.bool false)) fun t32_4=>
K t32_4 H13)) (
opP (zra t6 undef (.bool false)) fun t12_1=>
opP (zra t12_1 undef (.bool false)) fun t17_2=>
opP (zra t17_2 undef (.bool false)) fun t27_4=>
opP (zra t27_4 undef (.bool false)) fun t32_5=>
K t32_5 H7)
theorem zPt{t0:Value}{H:Heap}{K:VH}(h:zrs t0 H K):wCall P zEd [t0] H K:=zea rfl (Eq.mpr (by kernel_rfl) h)
def zBp(t0 t1 t2:Value)(H:Heap)(K:VH):Prop:=
opP ((zDa P 22).f [(0,t1),(1,t2)]) fun t14=>
opP ((zDa P 134).f [(0,t0),(1,t14),(2,(.int .i64 1))]) fun t15=>
zDb (zGa t15) H fun t16 H3=>
wCall P zRc [t0,t1] H3 fun t19 H5=>
wCall P zRc [t0,t2] H5 fun t22 H7=>
zDb (zc P 136) H7 fun t9 H9=>
zDb (zc P 136) H9 fun t10 H11=>
opW (zla 3 t9 t19 H11) fun u H13=>
opW (zla 3 t10 t22 H13) fun u_1 H15=>
zhb (fun J=>
zhb (fun J_1=>
opP (zda 0 t9) fun t23=>
opW (zba t23 H15) fun t24 H20=>
opW (lenSl t24 H20) fun t25 H22=>
opP ((zta P .gtr 3 true).f t25 (.int .i64 0)) fun t26=>
wIf t26 (
opP (zda 0 t10) fun t28=>
opW (zba t28 H22) fun t29 H26=>
opW (lenSl t29 H26) fun t30 H28=>
opP ((zta P .eql 3 true).f t30 (.int .i64 0)) fun t31=>
wIf t31 (
opP (zra t31 (.bool true) undef) fun t38=>
opP (zra t26 t38 (.bool false)) fun t39=>
J_1 [t16,t9,t10,t39] H28) (
opP (zda 1 t9) fun t33=>
opW (zba t33 H28) fun t34 H34=>
opP (zda 1 t10) fun t35=>
opW (zba t35 H34) fun t36 H37=>
opP ((zta P .gtr 23 false).f t34 t36) fun t37=>
opP (zra t31 (.bool true) t37) fun t38_1=>
opP (zra t26 t38_1 (.bool false)) fun t39_1=>
J_1 [t16,t9,t10,t39_1] H37)) (
opP (zra t26 undef (.bool false)) fun t39_2=>
J_1 [t16,t9,t10,t39_2] H22)) (fun l H43=>
wIf (nth l 3) (
opW (zna 3 (nth l 1) H43) fun t41 H45=>
opP (zca (nth l 0)) fun t42=>
opP (zda 3 t42) fun t43=>
opW (zla 1 t43 (.int .i64 0) H45) fun u_2 H49=>
zPj (zVa [(nth l 1)]) (zVa [t43,(.int .i64 0)])∧(opW (zla 3 (nth l 2) t41 H49) fun u_3 H51=>
J [(nth l 0),(nth l 2)] H51)) (
J [(nth l 0),(nth l 2)] H43))) (fun l_1 H53=>
opP (zda 2 (nth l_1 1)) fun t45=>
opW (zba t45 H53) fun t46 H56=>
opP (zca (nth l_1 0)) fun t47=>
opP (zda 4 t47) fun t48=>
opW (zla 1 t48 t46 H56) fun u_4 H60=>
opP (zda 0 (nth l_1 1)) fun t50=>
opW (zba t50 H60) fun t51 H63=>
K (.tuple [(nth l_1 0),t51].toArray) H63)
theorem zss{t0 t1 t2:Value}{H:Heap}{K:VH}(h:zBp t0 t1 t2 H K):wCall P zJh [t0,t1,t2] H K:=zea rfl (Eq.mpr (by kernel_rfl) h)
noncomputable abbrev zbk:Code:=zMa P zIf 0
def zck(l:List Value)(H:Heap)(N:LN)(Qx:LX)(Qr:LN):Prop:=
opP ((zta P .lss 3 false).f (nth l 4) (nth l 3)) fun t31=>
wIf t31 (
opP (zWa 1 (nth l 2) (nth l 4)) fun t32=>
opW (zba t32 H) fun t33 H3=>
wCall P zJi [t33] H3 fun t36 H5=>
opP (zjc 0 t36) fun t37=>
opP (zjc 1 t36) fun t38=>
opP ((zta P .neq 43 true).f t38 (.int .i64 0)) fun t40=>
wIf t40 (
opW (zna 75 (nth l 1) H5) fun t41 H10=>
opW (zla 75 (nth l 0) t41 H10) fun u H12=>
Qr [(nth l 0),(nth l 1)] H12) (
opW (zna 75 (nth l 1) H5) fun t43 H14=>
wCall P zJe [t43,t37] H14 fun t45 H16=>
opP (zjc 0 t45) fun t46=>
opP (zjc 1 t45) fun t47=>
zDb (zc P 30) H16 fun t11 H20=>
opW (zla 75 t11 t46 H20) fun u_1 H22=>
opP ((zta P .neq 43 true).f t47 (.int .i64 0)) fun t49=>
wIf t49 (
opW (zna 75 (nth l 1) H22) fun t50 H25=>
opW (zla 75 (nth l 0) t50 H25) fun u_2 H27=>
Qr [(nth l 0),(nth l 1)] H27) (
opW (zna 75 t11 H22) fun t51 H29=>
opW (zla 75 (nth l 1) t51 H29) fun u_3 H31=>
opP ((zta P .add 3 true).f (nth l 4) (.int .i64 1)) fun t52=>
N [(nth l 0),(nth l 1),(nth l 2),(nth l 3),t52] H31))) (
Qx 0 [(nth l 0),(nth l 1)] H)
theorem zqm:LpI P 54 zbk 48 zck:=.mk (by kernel_rfl) fun l H N Qx Qr=>by kernel_rfl
def zCp(t0 t1:Value)(H:Heap)(K:VH):Prop:=
zDb (zGa t1) H fun t3 H1=>
zDb (zc P 30) H1 fun t4 H3=>
opW (lenSl t0 H3) fun t14 H5=>
opP ((zta P .eql 3 true).f t14 (.int .i64 0)) fun t15=>
wIf t15 (
opW (zna 75 t3 H5) fun t16 H8=>
opW (zla 75 t4 t16 H8) fun u H10=>
opW (zna 75 t4 H10) fun r _=>
K r H10) (
opP (zWa 1 t0 (.int .i64 0)) fun t19=>
opW (zba t19 H5) fun t20 H14=>
wCall P zwg [t20] H14 fun t21 H16=>
opP (zjc 0 t21) fun t22=>
opP (zjc 1 t21) fun t23=>
zDb (zc P 30) H16 fun t5 H20=>
opW (zla 75 t5 t22 H20) fun u_1 H22=>
opP ((zta P .neq 43 true).f t23 (.int .i64 0)) fun t25=>
wIf t25 (
opW (zna 75 t3 H22) fun t26 H25=>
opW (zla 75 t4 t26 H25) fun u_2 H27=>
opW (zna 75 t4 H27) fun r_1 _=>
K r_1 H27) (
opP (zLa 1 t0 (some (.int .i64 1)) none none) fun t28=>
opW (lenSl t28 H22) fun t29 H31=>
zbb P true 54 zbk 48 [t4,t5,t28,t29,(.int .i64 0)] H31 (fun id l H33=>
cond (Nat.beq id 0) (
opW (zna 75 (nth l 1) H33) fun t53 H35=>
opW (zla 75 (nth l 0) t53 H35) fun u_3 H37=>
opW (zna 75 (nth l 0) H37) fun r_2 _=>
K r_2 H37) (
False)) (fun l H33=>
opW (zna 75 (nth l 0) H33) fun r_3 _=>
K r_3 H33)))
theorem zts{t0 t1:Value}{H:Heap}{K:VH}(h:zCp t0 t1 H K):wCall P zIf [t0,t1] H K:=zea rfl (Eq.mpr (by kernel_rfl) h)
def zus(t0:Value)(H:Heap)(K:VH):Prop:=
zDb (zGa t0) H fun t1 H1=>
zhb (fun J=>
opP (zda 1 t1) fun t5=>
opW (zba t5 H1) fun t6 H5=>
opP ((zta P .eql 3 true).f t6 (.int .i64 0)) fun t7=>
wIf t7 (
opP (zda 2 t1) fun t9=>
opW (zba t9 H5) fun t10 H9=>
opP ((zta P .eql 23 true).f t10 (.int .u64 0)) fun t11=>
opP (zra t7 t11 (.bool false)) fun t12=>
wIf t12 (
opP (zda 3 t1) fun t14=>
opW (zba t14 H9) fun t15 H14=>
opP ((zta P .eql 3 true).f t15 (.int .i64 0)) fun t16=>
opP (zra t12 t16 (.bool false)) fun t17=>
wIf t17 (
opP (zda 4 t1) fun t19=>
opW (zna 32 t19 H14) fun t20 H19=>
opP ((zDa P 25).f []) fun t21=>
opP ((zta P .eql 25 false).f t20 t21) fun t22=>
opP (zra t17 t22 (.bool false)) fun t23=>
J [t1,t23] H19) (
opP (zra t17 undef (.bool false)) fun t23_1=>
J [t1,t23_1] H14)) (
opP (zra t12 undef (.bool false)) fun t17_1=>
opP (zra t17_1 undef (.bool false)) fun t23_2=>
J [t1,t23_2] H9)) (
opP (zra t7 undef (.bool false)) fun t12_1=>
opP (zra t12_1 undef (.bool false)) fun t17_2=>
opP (zra t17_2 undef (.bool false)) fun t23_3=>
J [t1,t23_3] H5)) (fun l H30=>
zhb (fun J_1=>
opP (zda 2 (nth l 0)) fun t24=>
opW (zba t24 H30) fun t25 H34=>
opP ((zta P .geq 23 true).f t25 (.int .u64 1)) fun t26=>
wIf t26 (
opP (zda 2 (nth l 0)) fun t28=>
opW (zba t28 H34) fun t29 H38=>
opP ((zta P .leq 23 true).f t29 (.int .u64 281474976710656)) fun t30=>
opP (zra t26 t30 (.bool false)) fun t31=>
wIf t31 (
opP (zda 3 (nth l 0)) fun t33=>
opW (zba t33 H38) fun t34 H43=>
opP ((zta P .geq 3 true).f t34 (.int .i64 1)) fun t35=>
opP (zra t31 t35 (.bool false)) fun t36=>
wIf t36 (
opP (zda 3 (nth l 0)) fun t38=>
opW (zba t38 H43) fun t39 H48=>
opP ((zta P .leq 3 true).f t39 (.int .i64 65536)) fun t40=>
opP (zra t36 t40 (.bool false)) fun t41=>
J_1 [(nth l 0),(nth l 1),t41] H48) (
opP (zra t36 undef (.bool false)) fun t41_1=>
J_1 [(nth l 0),(nth l 1),t41_1] H43)) (
opP (zra t31 undef (.bool false)) fun t36_1=>
opP (zra t36_1 undef (.bool false)) fun t41_2=>
J_1 [(nth l 0),(nth l 1),t41_2] H38)) (
opP (zra t26 undef (.bool false)) fun t31_1=>
opP (zra t31_1 undef (.bool false)) fun t36_2=>
opP (zra t36_2 undef (.bool false)) fun t41_3=>
J_1 [(nth l 0),(nth l 1),t41_3] H34)) (fun l_1 H58=>
zhb (fun J_2=>
opP (zda 0 (nth l_1 0)) fun t42=>
opW (zba t42 H58) fun t43 H62=>
opP ((zta P .eql 3 true).f t43 (.int .i64 0)) fun t44=>
wIf t44 (
opP (zra t44 (.bool true) undef) fun t49=>
opP (zra t49 (.bool true) undef) fun t54=>
J_2 [(nth l_1 0),(nth l_1 1),(nth l_1 2),t54] H62) (
opP (zda 0 (nth l_1 0)) fun t46=>
opW (zba t46 H62) fun t47 H68=>
opP ((zta P .eql 3 true).f t47 (.int .i64 1)) fun t48=>
opP (zra t44 (.bool true) t48) fun t49_1=>
wIf t49_1 (
opP (zra t49_1 (.bool true) undef) fun t54_1=>
J_2 [(nth l_1 0),(nth l_1 1),(nth l_1 2),t54_1] H68) (
opP (zda 0 (nth l_1 0)) fun t51=>
opW (zba t51 H68) fun t52 H74=>
opP ((zta P .eql 3 true).f t52 (.int .i64 4)) fun t53=>
opP (zra t49_1 (.bool true) t53) fun t54_2=>
J_2 [(nth l_1 0),(nth l_1 1),(nth l_1 2),t54_2] H74))) (fun l_2 H78=>
wIf (nth l_2 3) (
K (nth l_2 1) H78) (
opP (zda 0 (nth l_2 0)) fun t56=>
opW (zba t56 H78) fun t57 H81=>
opP ((zta P .eql 3 true).f t57 (.int .i64 2)) fun t58=>
wIf t58 (
wIf (nth l_2 2) (
opP (zda 1 (nth l_2 0)) fun t61=>
opW (zba t61 H81) fun t62 H85=>
opP ((zta P .geq 3 true).f t62 (.int .i64 0)) fun t63=>
opP (zra (nth l_2 2) t63 (.bool false)) fun t64=>
wIf t64 (
opP (zda 1 (nth l_2 0)) fun t66=>
opW (zba t66 H85) fun t67 H90=>
opP ((zta P .leq 3 true).f t67 (.int .i64 7)) fun t68=>
opP (zra t64 t68 (.bool false)) fun t69=>
K t69 H90) (
opP (zra t64 undef (.bool false)) fun t69_1=>
K t69_1 H85)) (
opP (zra (nth l_2 2) undef (.bool false)) fun t64_1=>
opP (zra t64_1 undef (.bool false)) fun t69_2=>
K t69_2 H81)) (
opP (zda 0 (nth l_2 0)) fun t70=>
opW (zba t70 H81) fun t71 H98=>
opP ((zta P .eql 3 true).f t71 (.int .i64 3)) fun t72=>
wIf t72 (
opP (zra t72 (nth l_2 2) (.bool false)) fun t75=>
wIf t75 (
opP (zda 1 (nth l_2 0)) fun t77=>
opW (zba t77 H98) fun t78 H103=>
opP ((zta P .eql 3 true).f t78 (.int .i64 0)) fun t79=>
opP (zra t75 t79 (.bool false)) fun t80=>
K t80 H103) (
opP (zra t75 undef (.bool false)) fun t80_1=>
K t80_1 H98)) (
opP (zra t72 undef (.bool false)) fun t75_1=>
opP (zra t75_1 undef (.bool false)) fun t80_2=>
K t80_2 H98))))))
theorem zQt{t0:Value}{H:Heap}{K:VH}(h:zus t0 H K):wCall P zIc [t0] H K:=zea rfl (Eq.mpr (by kernel_rfl) h)
def zXu(t0 t1 t2:Value)(H:Heap)(K:VH):Prop:=
wCall P zXd [t0,t1] H fun t18 H1=>
opP (zjc 0 t18) fun t19=>
opP (zjc 1 t18) fun t20=>
opP (zjc 2 t18) fun t21=>
wCall P zXd [t0,t2] H1 fun t25 H6=>
opP (zjc 0 t25) fun t26=>
opP (zjc 1 t25) fun t27=>
opP (zjc 2 t25) fun t28=>
opP ((zDa P 22).f [(0,t1),(1,t2)]) fun t32=>
opP ((zDa P 106).f [(0,t0),(1,t32),(2,(.int .i64 1)),(4,t28)]) fun t34=>
zDb (zGa t34) H6 fun t35 H13=>
zhb (fun J=>
opW (lenSl t26 H13) fun t37 H16=>
opP ((zta P .eql 3 true).f t37 (.int .i64 0)) fun t38=>
wIf t38 (
opW (lenSl t19 H16) fun t41 H19=>
opP ((zta P .gtr 3 true).f t41 (.int .i64 0)) fun t42=>
opP (zra t38 t42 (.bool false)) fun t43=>
wIf t43 (
opP (zra t43 (.bool true) undef) fun t53=>
J [t19,t21,t26,t35,t53] H19) (
opW (lenSl t19 H19) fun t46 H24=>
opP ((zta P .gtr 3 true).f t46 (.int .i64 0)) fun t47=>
wIf t47 (
opP ((zta P .gtr 23 false).f t20 t27) fun t51=>
opP (zra t47 t51 (.bool false)) fun t52=>
opP (zra t43 (.bool true) t52) fun t53_1=>
J [t19,t21,t26,t35,t53_1] H24) (
opP (zra t47 undef (.bool false)) fun t52_1=>
opP (zra t43 (.bool true) t52_1) fun t53_2=>
J [t19,t21,t26,t35,t53_2] H24))) (
opP (zra t38 undef (.bool false)) fun t43_1=>
opW (lenSl t19 H16) fun t46_1 H33=>
opP ((zta P .gtr 3 true).f t46_1 (.int .i64 0)) fun t47_1=>
wIf t47_1 (
opP ((zta P .gtr 23 false).f t20 t27) fun t51_1=>
opP (zra t47_1 t51_1 (.bool false)) fun t52_2=>
opP (zra t43_1 (.bool true) t52_2) fun t53_3=>
J [t19,t21,t26,t35,t53_3] H33) (
opP (zra t47_1 undef (.bool false)) fun t52_3=>
opP (zra t43_1 (.bool true) t52_3) fun t53_4=>
J [t19,t21,t26,t35,t53_4] H33))) (fun l H41=>
wIf (nth l 4) (
opP (zca (nth l 3)) fun t55=>
opP (zda 3 t55) fun t56=>
opW (zla 1 t56 (.int .i64 0) H41) fun u H45=>
opP (zca (nth l 3)) fun t59=>
opP (zda 5 t59) fun t60=>
opW (zla 1 t60 (nth l 1) H45) fun u_1 H49=>
K (.tuple [(nth l 3),(nth l 0)].toArray) H49) (
K (.tuple [(nth l 3),(nth l 2)].toArray) H41))
theorem zsw{t0 t1 t2:Value}{H:Heap}{K:VH}(h:zXu t0 t1 t2 H K):wCall P zUj [t0,t1,t2] H K:=zea rfl (Eq.mpr (by kernel_rfl) h)
def zvs(t0:Value)(H:Heap)(K:VH):Prop:=
zDb (zc P 30) H fun t2 H1=>
opW (lenSl t0 H1) fun t10 H3=>
opP ((zta P .neq 3 true).f t10 (.int .i64 102)) fun t11=>
wIf t11 (
opP ((zDa P 30).f []) fun t12=>
opW (zla 75 t2 t12 H3) fun u H7=>
opW (zna 75 t2 H7) fun r _=>
K (.tuple [r,(.int .i64 111)].toArray) H7) (
opP ((zDa P 145).f [(0,t0)]) fun t14=>
zDb (zGa t14) H3 fun t15 H11=>
wCall P ztd [t15] H11 fun t18 H13=>
opP (zjc 0 t18) fun t19=>
opP (zjc 1 t18) fun t20=>
zDb (zc P 27) H13 fun t5 H17=>
opW (zla 36 t5 t19 H17) fun u_1 H19=>
opP ((zta P .neq 3 true).f t20 (.int .i64 0)) fun t22=>
wIf t22 (
opP ((zDa P 30).f []) fun t23=>
opW (zla 75 t2 t23 H19) fun u_2 H23=>
opW (zna 75 t2 H23) fun r_1 _=>
K (.tuple [r_1,(.int .i64 111)].toArray) H23) (
wCall P ztd [t15] H19 fun t26 H26=>
opP (zjc 0 t26) fun t27=>
opP (zjc 1 t26) fun t28=>
zDb (zc P 27) H26 fun t7 H30=>
opW (zla 36 t7 t27 H30) fun u_3 H32=>
opW (zna 36 t5 H32) fun t29 H34=>
opW (zna 36 t7 H34) fun t30 H36=>
opP ((zDa P 28).f [(0,t29),(1,t30)]) fun t31=>
opP (zWa 1 t0 (.int .i64 92)) fun t33=>
opW (zba t33 H36) fun t34 H40=>
opW (zob .i64 t34 H40) fun t35 H42=>
opP (zWa 1 t0 (.int .i64 93)) fun t37=>
opW (zba t37 H42) fun t38 H45=>
opW (zob .i64 t38 H45) fun t39 H47=>
opP ((zta P .sub 3 true).f t39 (.int .i64 1)) fun t40=>
opP (zLa 1 t0 (some (.int .i64 94)) none none) fun t42=>
wCall P zJf [t42] H47 fun t43 H51=>
zhc (zWb H47 H51) (zVa [t37])∧(zhc (zWb H47 H51) (zVa [t33])∧(zhc (zWb H47 H51) (zVa [t7])∧(zhc (zWb H47 H51) (zVa [t5])∧(opP ((zDa P 30).f [(0,t31),(1,t35),(2,t40),(3,t43)]) fun t44=>
zDb (zc P 30) H51 fun t8 H54=>
opW (zla 75 t8 t44 H54) fun u_4 H56=>
zhb (fun J=>
opP ((zta P .neq 3 true).f t28 (.int .i64 0)) fun t46=>
wIf t46 (
opP (zra t46 (.bool true) undef) fun t51=>
J [t2,t8,t51] H56) (
opW (zna 75 t8 H56) fun t48 H61=>
wCall P zCd [t48] H61 fun t49 H63=>
opP (unA .not t49) fun t50=>
opP (zra t46 (.bool true) t50) fun t51_1=>
J [t2,t8,t51_1] H63)) (fun l H67=>
wIf (nth l 2) (
opP ((zDa P 30).f []) fun t52=>
opW (zla 75 (nth l 0) t52 H67) fun u_5 H70=>
opW (zna 75 (nth l 0) H70) fun r_2 _=>
K (.tuple [r_2,(.int .i64 111)].toArray) H70) (
opW (zna 75 (nth l 1) H67) fun t53 H73=>
opW (zla 75 (nth l 0) t53 H73) fun u_6 H75=>
opW (zna 75 (nth l 0) H75) fun r_3 _=>
K (.tuple [r_3,(.int .i64 0)].toArray) H75))))))))
theorem zRt{t0:Value}{H:Heap}{K:VH}(h:zvs t0 H K):wCall P zFi [t0] H K:=zea rfl (Eq.mpr (by kernel_rfl) h)
noncomputable abbrev zDp:Code:=zMa P zGi 0
def zEp(l:List Value)(H:Heap)(N:LN)(Qx:LX)(Qr:LN):Prop:=
zhb (fun J=>
opP ((zta P .lss 3 false).f (nth l 6) (nth l 4)) fun t18=>
wIf t18 (
opP ((zta P .lss 3 true).f (nth l 6) (.int .i64 9)) fun t21=>
opP (zra t18 t21 (.bool false)) fun t22=>
wIf t22 (
J [(nth l 0),(nth l 1),(nth l 2),(nth l 3),(nth l 4),(nth l 5),(nth l 6)] H) (
Qx 0 [(nth l 0),(nth l 1),(nth l 2),(nth l 3),(nth l 5)] H)) (
opP (zra t18 undef (.bool false)) fun t22_1=>
wIf t22_1 (
J [(nth l 0),(nth l 1),(nth l 2),(nth l 3),(nth l 4),(nth l 5),(nth l 6)] H) (
Qx 0 [(nth l 0),(nth l 1),(nth l 2),(nth l 3),(nth l 5)] H))) (fun l_1 H6=>
wCall P zcb [(nth l_1 3),(.int .i64 1)] H6 fun t26 H8=>
opW (zob .i64 t26 H8) fun t27 H10=>
opP ((zDa P 74).f [(0,t27)]) fun t28=>
zDb (zc P 74) H10 fun t8 H13=>
opW (zla 40 t8 t28 H13) fun u H15=>
opP (zda 0 t8) fun t29=>
opW (zba t29 H15) fun t30 H18=>
opP ((zta P .eql 3 true).f t30 (.int .i64 1)) fun t32=>
wIf t32 (
wCall P zcb [(nth l_1 3),(.int .i64 1)] H18 fun t34 H21=>
opW (zob .i64 t34 H21) fun t35 H23=>
opP (zda 1 t8) fun t36=>
opW (zla 1 t36 t35 H23) fun u_1 H26=>
wCall P ztd [(nth l_1 3)] H26 fun t39 H28=>
opP (zjc 0 t39) fun t40=>
opP (zjc 1 t39) fun t41=>
opP (zda 3 t8) fun t42=>
opW (zla 36 t42 t40 H28) fun u_2 H33=>
opW (zna 40 t8 H33) fun t62 H35=>
opW ((zpa P 49 1).f [(0,t62)] H35) fun t63 H37=>
opW (zva 40 96 (nth l_1 5) t63 H37) fun t64 H39=>
opP ((zta P .add 3 true).f (nth l_1 6) (.int .i64 1)) fun t24=>
N [(nth l_1 0),(nth l_1 1),(nth l_1 2),(nth l_1 3),(nth l_1 4),t64,t24] H39) (
opP ((zta P .eql 3 true).f t30 (.int .i64 2)) fun t44=>
wIf t44 (
wCall P zcb [(nth l_1 3),(.int .i64 1)] H18 fun t46 H43=>
opW (zob .i64 t46 H43) fun t47 H45=>
opP (zda 2 t8) fun t48=>
opW (zla 1 t48 t47 H45) fun u_3 H48=>
opW (zna 40 t8 H48) fun t62_1 H50=>
opW ((zpa P 49 1).f [(0,t62_1)] H50) fun t63_1 H52=>
opW (zva 40 96 (nth l_1 5) t63_1 H52) fun t64_1 H54=>
opP ((zta P .add 3 true).f (nth l_1 6) (.int .i64 1)) fun t24_1=>
N [(nth l_1 0),(nth l_1 1),(nth l_1 2),(nth l_1 3),(nth l_1 4),t64_1,t24_1] H54) (
opP ((zta P .eql 3 true).f t30 (.int .i64 3)) fun t50=>
wIf t50 (
wCall P zcb [(nth l_1 3),(.int .i64 1)] H18 fun t52 H58=>
opW (zob .i64 t52 H58) fun t53 H60=>
opP ((zta P .sub 3 true).f t53 (.int .i64 1)) fun t54=>
opP (zda 2 t8) fun t55=>
opW (zla 1 t55 t54 H60) fun u_4 H64=>
opW (zna 40 t8 H64) fun t62_2 H66=>
opW ((zpa P 49 1).f [(0,t62_2)] H66) fun t63_2 H68=>
opW (zva 40 96 (nth l_1 5) t63_2 H68) fun t64_2 H70=>
opP ((zta P .add 3 true).f (nth l_1 6) (.int .i64 1)) fun t24_2=>
N [(nth l_1 0),(nth l_1 1),(nth l_1 2),(nth l_1 3),(nth l_1 4),t64_2,t24_2] H70) (
opP ((zta P .eql 3 true).f t30 (.int .i64 4)) fun t57=>
wIf t57 (
wCall P zcb [(nth l_1 3),(.int .i64 8)] H18 fun t59 H74=>
opP (zda 39 t8) fun t60=>
opW (zla 1 t60 t59 H74) fun u_5 H77=>
opW (zna 40 t8 H77) fun t62_3 H79=>
opW ((zpa P 49 1).f [(0,t62_3)] H79) fun t63_3 H81=>
opW (zva 40 96 (nth l_1 5) t63_3 H81) fun t64_3 H83=>
opP ((zta P .add 3 true).f (nth l_1 6) (.int .i64 1)) fun t24_3=>
N [(nth l_1 0),(nth l_1 1),(nth l_1 2),(nth l_1 3),(nth l_1 4),t64_3,t24_3] H83) (
opW (zna 40 t8 H18) fun t62_4 H86=>
opW ((zpa P 49 1).f [(0,t62_4)] H86) fun t63_4 H88=>
opW (zva 40 96 (nth l_1 5) t63_4 H88) fun t64_4 H90=>
opP ((zta P .add 3 true).f (nth l_1 6) (.int .i64 1)) fun t24_4=>
N [(nth l_1 0),(nth l_1 1),(nth l_1 2),(nth l_1 3),(nth l_1 4),t64_4,t24_4] H90)))))
theorem zAq:LpI P 77 zDp 93 zEp:=.mk (by kernel_rfl) fun l H N Qx Qr=>by kernel_rfl
def zky(t0:Value)(H:Heap)(K:VH):Prop:=
opP ((zDa P 145).f [(0,t0)]) fun t10=>
zDb (zGa t10) H fun t11 H2=>
wCall P zcb [t11,(.int .i64 1)] H2 fun t13 H4=>
opW (zob .i64 t13 H4) fun t14 H6=>
opW ((zpa P 49 0).f [] H6) fun t15 H8=>
zbb P true 77 zDp 93 [t0,(.slice none 0 0),(.int .i64 0),t11,t14,t15,(.int .i64 0)] H8 (fun id l H10=>
cond (Nat.beq id 0) (
zhb (fun J=>
wCall P zKi [(nth l 3)] H10 fun t66 H13=>
opP ((zta P .neq 3 true).f t66 (.int .i64 0)) fun t67=>
wIf t67 (
opP (zra t67 (.bool true) undef) fun t75=>
J [(nth l 4),t75] H13) (
wCall P zyf [(nth l 4)] H13 fun t70 H17=>
opW (zjb t70 H17) fun t71 H19=>
opW (zjb (nth l 0) H19) fun t73 H21=>
zhc (zWb H13 H17) (zVa [(nth l 0)])∧(opP ((zta P .neq 9 false).f t71 t73) fun t74=>
opP (zra t67 (.bool true) t74) fun t75_1=>
J [(nth l 4),t75_1] H21))) (fun l_1 H25=>
wIf (nth l_1 1) (
K (.tuple [(.slice none 0 0),(.int .i64 111)].toArray) H25) (
K (.tuple [(nth l_1 0),(.int .i64 0)].toArray) H25))) (
False)) (fun l H10=>
K (.tuple [(nth l 1),(nth l 2)].toArray) H10)
theorem zly{t0:Value}{H:Heap}{K:VH}(h:zky t0 H K):wCall P zGi [t0] H K:=zea rfl (Eq.mpr (by kernel_rfl) h)
noncomputable abbrev zAl:Code:=zMa P zIe 0
def zBl(l:List Value)(H:Heap)(N:LN)(Qx:LX)(Qr:LN):Prop:=
opP ((zta P .lss 3 false).f (nth l 5) (nth l 4)) fun t20=>
wIf t20 (
opP (zWa 40 (nth l 3) (nth l 5)) fun t21=>
opW (zna 40 t21 H) fun t22 H3=>
zDb (zc P 74) H3 fun t7 H5=>
opW (zla 40 t7 t22 H5) fun u H7=>
zhb (fun J=>
opP (zda 0 t7) fun t23=>
opW (zba t23 H7) fun t24 H11=>
opP ((zta P .eql 3 true).f t24 (.int .i64 1)) fun t25=>
wIf t25 (
opP (zda 1 t7) fun t26=>
opW (zba t26 H11) fun t27 H15=>
opP (zda 3 t7) fun t28=>
opW (zna 36 t28 H15) fun t29 H18=>
opP (zda 0 (nth l 0)) fun t30=>
opP (zUa 2 36 t30 t27) fun t31=>
opW (zla 36 t31 t29 H18) fun u_1 H22=>
J [(nth l 0),(nth l 1),(nth l 2),t7,(nth l 3),(nth l 4),(nth l 5)] H22) (
J [(nth l 0),(nth l 1),(nth l 2),t7,(nth l 3),(nth l 4),(nth l 5)] H11)) (fun l_1 H24=>
zhb (fun J_1=>
opP (zda 0 (nth l_1 3)) fun t32=>
opW (zba t32 H24) fun t33 H28=>
opP ((zta P .eql 3 true).f t33 (.int .i64 2)) fun t34=>
wIf t34 (
opP (zda 2 (nth l_1 3)) fun t35=>
opW (zba t35 H28) fun t36 H32=>
opP (zda 72 (nth l_1 0)) fun t37=>
opW (zla 1 t37 t36 H32) fun u_2 H35=>
J_1 [(nth l_1 0),(nth l_1 1),(nth l_1 2),(nth l_1 3),(nth l_1 4),(nth l_1 5),(nth l_1 6)] H35) (
J_1 [(nth l_1 0),(nth l_1 1),(nth l_1 2),(nth l_1 3),(nth l_1 4),(nth l_1 5),(nth l_1 6)] H28)) (fun l_2 H37=>
zhb (fun J_2=>
opP (zda 0 (nth l_2 3)) fun t38=>
opW (zba t38 H37) fun t39 H41=>
opP ((zta P .eql 3 true).f t39 (.int .i64 3)) fun t40=>
wIf t40 (
opP (zda 2 (nth l_2 3)) fun t41=>
opW (zba t41 H41) fun t42 H45=>
opP (zda 73 (nth l_2 0)) fun t43=>
opW (zla 1 t43 t42 H45) fun u_3 H48=>
J_2 [(nth l_2 0),(nth l_2 1),(nth l_2 2),(nth l_2 3),(nth l_2 4),(nth l_2 5),(nth l_2 6)] H48) (
J_2 [(nth l_2 0),(nth l_2 1),(nth l_2 2),(nth l_2 3),(nth l_2 4),(nth l_2 5),(nth l_2 6)] H41)) (fun l_3 H50=>
opP (zda 0 (nth l_3 3)) fun t44=>
opW (zba t44 H50) fun t45 H53=>
opP ((zta P .eql 3 true).f t45 (.int .i64 4)) fun t46=>
wIf t46 (
opP (zda 39 (nth l_3 3)) fun t47=>
opW (zba t47 H53) fun t48 H57=>
opP (zda 74 (nth l_3 0)) fun t49=>
opW (zba t49 H57) fun t50 H60=>
opP ((zta P .lss 23 false).f t48 t50) fun t51=>
wIf t51 (
opP ((zDa P 30).f []) fun t52=>
opW (zla 75 (nth l_3 1) t52 H60) fun u_4 H64=>
Qr [(nth l_3 0),(nth l_3 1),(.int .i64 111)] H64) (
opP (zda 39 (nth l_3 3)) fun t53=>
opW (zba t53 H60) fun t54 H67=>
opP (zda 74 (nth l_3 0)) fun t55=>
opW (zla 1 t55 t54 H67) fun u_5 H70=>
opP ((zta P .add 3 true).f (nth l_3 6) (.int .i64 1)) fun t56=>
N [(nth l_3 0),(nth l_3 1),(nth l_3 2),(nth l_3 4),(nth l_3 5),t56] H70)) (
opP ((zta P .add 3 true).f (nth l_3 6) (.int .i64 1)) fun t56_1=>
N [(nth l_3 0),(nth l_3 1),(nth l_3 2),(nth l_3 4),(nth l_3 5),t56_1] H53))))) (
Qx 0 [(nth l 0),(nth l 1),(nth l 2)] H)
theorem zln:LpI P 58 zAl 52 zBl:=.mk (by kernel_rfl) fun l H N Qx Qr=>by kernel_rfl
def zws(t0 t1:Value)(H:Heap)(K:VH):Prop:=
zDb (zGa t0) H fun t2 H1=>
zDb (zc P 30) H1 fun t4 H3=>
zhb (fun J=>
opW (zna 75 t2 H3) fun t8 H6=>
wCall P zCd [t8] H6 fun t9 H8=>
opP (unA .not t9) fun t10=>
wIf t10 (
opP (zra t10 (.bool true) undef) fun t15=>
J [t1,t2,t4,(.int .i64 0),t15] H8) (
wCall P zSg [t1] H8 fun t13 H12=>
opP (unA .not t13) fun t14=>
opP (zra t10 (.bool true) t14) fun t15_1=>
J [t1,t2,t4,(.int .i64 0),t15_1] H12)) (fun l H16=>
wIf (nth l 4) (
opP ((zDa P 30).f []) fun t16=>
opW (zla 75 (nth l 2) t16 H16) fun u H19=>
opW (zna 75 (nth l 2) H19) fun r _=>
K (.tuple [r,(.int .i64 111)].toArray) H19) (
opW (lenSl (nth l 0) H16) fun t18 H22=>
zbb P true 58 zAl 52 [(nth l 1),(nth l 2),(nth l 3),(nth l 0),t18,(.int .i64 0)] H22 (fun id l_1 H24=>
cond (Nat.beq id 0) (
opW (zna 75 (nth l_1 0) H24) fun t57 H26=>
opW (zla 75 (nth l_1 1) t57 H26) fun u_1 H28=>
opW (zna 75 (nth l_1 1) H28) fun r_1 _=>
K (.tuple [r_1,(.int .i64 0)].toArray) H28) (
False)) (fun l_1 H24=>
opW (zna 75 (nth l_1 1) H24) fun r_2 _=>
K (.tuple [r_2,(nth l_1 2)].toArray) H24)))
theorem zSt{t0 t1:Value}{H:Heap}{K:VH}(h:zws t0 t1 H K):wCall P zIe [t0,t1] H K:=zea rfl (Eq.mpr (by kernel_rfl) h)
noncomputable abbrev zCl:Code:=zMa P zJe 0
def zDl(l:List Value)(H:Heap)(N:LN)(Qx:LX)(Qr:LN):Prop:=
opP ((zta P .lss 3 false).f (nth l 5) (nth l 4)) fun t20=>
wIf t20 (
opP (zWa 40 (nth l 3) (nth l 5)) fun t21=>
opW (zna 40 t21 H) fun t22 H3=>
zDb (zc P 74) H3 fun t7 H5=>
opW (zla 40 t7 t22 H5) fun u H7=>
opP (zda 0 t7) fun t23=>
opW (zba t23 H7) fun t24 H10=>
opP ((zta P .eql 3 true).f t24 (.int .i64 1)) fun t26=>
wIf t26 (
opP (zda 1 t7) fun t27=>
opW (zba t27 H10) fun t28 H14=>
opP (zda 3 t7) fun t29=>
opW (zna 36 t29 H14) fun t30 H17=>
opP (zda 0 (nth l 0)) fun t31=>
opP (zUa 2 36 t31 t28) fun t32=>
opW (zla 36 t32 t30 H17) fun u_1 H21=>
opP ((zta P .add 3 true).f (nth l 5) (.int .i64 1)) fun t54=>
N [(nth l 0),(nth l 1),(nth l 2),(nth l 3),(nth l 4),t54] H21) (
opP ((zta P .eql 3 true).f t24 (.int .i64 2)) fun t34=>
wIf t34 (
opP (zda 2 t7) fun t35=>
opW (zba t35 H10) fun t36 H26=>
opP (zda 72 (nth l 0)) fun t37=>
opW (zla 1 t37 t36 H26) fun u_2 H29=>
opP ((zta P .add 3 true).f (nth l 5) (.int .i64 1)) fun t54_1=>
N [(nth l 0),(nth l 1),(nth l 2),(nth l 3),(nth l 4),t54_1] H29) (
opP ((zta P .eql 3 true).f t24 (.int .i64 3)) fun t39=>
wIf t39 (
opP (zda 2 t7) fun t40=>
opW (zba t40 H10) fun t41 H34=>
opP (zda 73 (nth l 0)) fun t42=>
opW (zla 1 t42 t41 H34) fun u_3 H37=>
opP ((zta P .add 3 true).f (nth l 5) (.int .i64 1)) fun t54_2=>
N [(nth l 0),(nth l 1),(nth l 2),(nth l 3),(nth l 4),t54_2] H37) (
opP ((zta P .eql 3 true).f t24 (.int .i64 4)) fun t44=>
wIf t44 (
opP (zda 39 t7) fun t45=>
opW (zba t45 H10) fun t46 H42=>
opP (zda 74 (nth l 0)) fun t47=>
opW (zba t47 H42) fun t48 H45=>
opP ((zta P .lss 23 false).f t46 t48) fun t49=>
wIf t49 (
opP ((zDa P 30).f []) fun t50=>
opW (zla 75 (nth l 1) t50 H45) fun u_4 H49=>
Qr [(nth l 0),(nth l 1),(.int .i64 111)] H49) (
opP (zda 39 t7) fun t51=>
opW (zba t51 H45) fun t52 H52=>
opP (zda 74 (nth l 0)) fun t53=>
opW (zla 1 t53 t52 H52) fun u_5 H55=>
opP ((zta P .add 3 true).f (nth l 5) (.int .i64 1)) fun t54_3=>
N [(nth l 0),(nth l 1),(nth l 2),(nth l 3),(nth l 4),t54_3] H55)) (
opP ((zta P .add 3 true).f (nth l 5) (.int .i64 1)) fun t54_4=>
N [(nth l 0),(nth l 1),(nth l 2),(nth l 3),(nth l 4),t54_4] H10))))) (
Qx 0 [(nth l 0),(nth l 1),(nth l 2)] H)
theorem zmn:LpI P 56 zCl 52 zDl:=.mk (by kernel_rfl) fun l H N Qx Qr=>by kernel_rfl
def zxs(t0 t1:Value)(H:Heap)(K:VH):Prop:=
zDb (zGa t0) H fun t2 H1=>
zDb (zc P 30) H1 fun t4 H3=>
zhb (fun J=>
opW (zna 75 t2 H3) fun t8 H6=>
wCall P zEd [t8] H6 fun t9 H8=>
opP (unA .not t9) fun t10=>
wIf t10 (
opP (zra t10 (.bool true) undef) fun t15=>
J [t1,t2,t4,(.int .i64 0),t15] H8) (
wCall P zac [t1] H8 fun t13 H12=>
opP (unA .not t13) fun t14=>
opP (zra t10 (.bool true) t14) fun t15_1=>
J [t1,t2,t4,(.int .i64 0),t15_1] H12)) (fun l H16=>
wIf (nth l 4) (
opP ((zDa P 30).f []) fun t16=>
opW (zla 75 (nth l 2) t16 H16) fun u H19=>
opW (zna 75 (nth l 2) H19) fun r _=>
K (.tuple [r,(.int .i64 111)].toArray) H19) (
opW (lenSl (nth l 0) H16) fun t18 H22=>
zbb P true 56 zCl 52 [(nth l 1),(nth l 2),(nth l 3),(nth l 0),t18,(.int .i64 0)] H22 (fun id l_1 H24=>
cond (Nat.beq id 0) (
opW (zna 75 (nth l_1 0) H24) fun t55 H26=>
opW (zla 75 (nth l_1 1) t55 H26) fun u_1 H28=>
opW (zna 75 (nth l_1 1) H28) fun r_1 _=>
K (.tuple [r_1,(.int .i64 0)].toArray) H28) (
False)) (fun l_1 H24=>
opW (zna 75 (nth l_1 1) H24) fun r_2 _=>
K (.tuple [r_2,(nth l_1 2)].toArray) H24)))
theorem zTt{t0 t1:Value}{H:Heap}{K:VH}(h:zxs t0 t1 H K):wCall P zJe [t0,t1] H K:=zea rfl (Eq.mpr (by kernel_rfl) h)
def zjj(t0 t1 t2:Value)(H:Heap)(K:VH):Prop:=
zDb (zGa t1) H fun t4 H1=>
zhb (fun J=>
opP (zca t0) fun t9=>
opP (zda 0 t9) fun t10=>
opW (zba t10 H1) fun t11 H6=>
wCall P zKc [t11] H6 fun t12 H8=>
wIf t12 (
opP (zca t0) fun t14=>
opP (zda 0 t14) fun t15=>
opW (zba t15 H8) fun t16 H12=>
wCall P zLi [t2] H12 fun t18 H14=>
zhc (zWb H12 H14) (zVa [t15])∧(wCall P zzc [t16,t18] H14 fun t19 H16=>
opP ((zta P .neq 43 true).f t19 (.int .i64 92)) fun t21=>
wIf t21 (
K t19 H16) (
J [t0,t4] H16))) (
J [t0,t4] H8)) (fun l H19=>
opP (zca (nth l 0)) fun t24=>
opP (zda 0 t24) fun t25=>
opW (zba t25 H19) fun t26 H23=>
opW (zna 75 (nth l 1) H23) fun t27 H25=>
wCall P zMi [t27] H25 fun t28 H27=>
zhc (zWb H25 H27) (zVa [t25])∧(wCall P zLc [t26,t28] H27 fun t29 H29=>
K t29 H29))
theorem zrm{t0 t1 t2:Value}{H:Heap}{K:VH}(h:zjj t0 t1 t2 H K):wCall P zKe [t0,t1,t2] H K:=zea rfl (Eq.mpr (by kernel_rfl) h)
def zFp(t0 t1:Value)(H:Heap)(K:VH):Prop:=
opP (zca t0) fun t9=>
opP (zda 6 t9) fun t10=>
opW (zba t10 H) fun t11 H3=>
opP (unA .not t11) fun t12=>
wIf t12 (
K (.int .i64 91) H3) (
opW (zDE t1 H3) fun t14 H6=>
wCall P zme [t14] H6 fun t15 H8=>
zhb (fun J=>
opP ((zta P .eql 3 true).f t15 (.int .i64 0)) fun t17=>
wIf t17 (
opP (zra t17 (.bool true) undef) fun t23=>
opP (zra t23 (.bool true) undef) fun t30=>
wIf t30 (
K (.int .i64 92) H8) (
J [t0,t1] H8)) (
wCall P zqh [t0] H8 fun t21 H14=>
opP ((zta P .gtr 3 false).f t15 t21) fun t22=>
opP (zra t17 (.bool true) t22) fun t23_1=>
wIf t23_1 (
opP (zra t23_1 (.bool true) undef) fun t30_1=>
wIf t30_1 (
K (.int .i64 92) H14) (
J [t0,t1] H14)) (
opP (zca t0) fun t26=>
opP (zda 5 t26) fun t27=>
opW (zba t27 H14) fun t28 H21=>
opP ((zta P .geq 23 true).f t28 (.int .u64 4611686018427387904)) fun t29=>
opP (zra t23_1 (.bool true) t29) fun t30_2=>
wIf t30_2 (
K (.int .i64 92) H21) (
J [t0,t1] H21)))) (fun l H25=>
opP (zca (nth l 0)) fun t35=>
opP (zda 3 t35) fun t36=>
opW (zba t36 H25) fun t37 H29=>
opP (zca (nth l 0)) fun t38=>
opP (zda 1 t38) fun t39=>
opP (zUa 2 1 t39 t37) fun t40=>
opW (zba t40 H29) fun t41 H34=>
opP (zca (nth l 0)) fun t43=>
opP (zda 4 t43) fun t44=>
opW (zba t44 H34) fun t45 H38=>
wCall P zLe [(nth l 0),t41,t45,(.int .u8 2),(nth l 1)] H38 fun t47 H40=>
opP (zjc 0 t47) fun t48=>
opP (zjc 1 t47) fun t49=>
opP ((zta P .neq 3 true).f t49 (.int .i64 0)) fun t51=>
wIf t51 (
opP (zca (nth l 0)) fun t53=>
opP (zda 6 t53) fun t54=>
opW (zla 1 t54 (.bool false) H40) fun u H47=>
K t49 H47) (
opP (zca (nth l 0)) fun t57=>
opP (zda 5 t57) fun t58=>
opW (zba t58 H40) fun t59 H51=>
opP ((zta P .add 23 true).f t59 (.int .u64 1)) fun t60=>
opP (zca (nth l 0)) fun t61=>
opP (zda 5 t61) fun t62=>
opW (zla 1 t62 t60 H51) fun u_1 H56=>
opP (zca (nth l 0)) fun t64=>
opP (zda 4 t64) fun t65=>
opW (zba t65 H56) fun t66 H60=>
opP ((zta P .add 3 false).f t66 t48) fun t68=>
opP (zca (nth l 0)) fun t69=>
opP (zda 4 t69) fun t70=>
opW (zla 1 t70 t68 H60) fun u_2 H65=>
K (.int .i64 0) H65)))
theorem zys{t0 t1:Value}{H:Heap}{K:VH}(h:zFp t0 t1 H K):wCall P zKh [t0,t1] H K:=zea rfl (Eq.mpr (by kernel_rfl) h)
noncomputable abbrev zGp:Code:=zMa P zyf 0
def zHp(l:List Value)(H:Heap)(N:LN)(Qx:LX)(Qr:LN):Prop:=
opP ((zta P .lss 3 false).f (nth l 4) (nth l 3)) fun t20=>
wIf t20 (
opP (zWa 40 (nth l 2) (nth l 4)) fun t21=>
opW (zna 40 t21 H) fun t22 H3=>
zDb (zc P 74) H3 fun t5 H5=>
opW (zla 40 t5 t22 H5) fun u H7=>
opP (zda 0 t5) fun t24=>
opW (zba t24 H7) fun t25 H10=>
opW (zob .u8 t25 H10) fun t26 H12=>
opW ((zpa P 50 1).f [(0,t26)] H12) fun t27 H14=>
opW (zva 1 1 (nth l 1) t27 H14) fun t28 H16=>
opP (zda 0 t5) fun t29=>
opW (zba t29 H16) fun t30 H19=>
opP ((zta P .eql 3 true).f t30 (.int .i64 1)) fun t32=>
wIf t32 (
opP (zda 1 t5) fun t34=>
opW (zba t34 H19) fun t35 H23=>
opW (zob .u8 t35 H23) fun t36 H25=>
opW ((zpa P 50 1).f [(0,t36)] H25) fun t37 H27=>
opW (zva 1 1 t28 t37 H27) fun t38 H29=>
opP (zda 3 t5) fun t40=>
opW (zna 36 t40 H29) fun t41 H32=>
wCall P zMe [t41] H32 fun t42 H34=>
opW (zva 1 1 t38 t42 H34) fun t43 H36=>
opP ((zta P .add 3 true).f (nth l 4) (.int .i64 1)) fun t68=>
N [(nth l 0),t43,(nth l 2),(nth l 3),t68] H36) (
opP ((zta P .eql 3 true).f t30 (.int .i64 2)) fun t45=>
wIf t45 (
opP (zda 2 t5) fun t47=>
opW (zba t47 H19) fun t48 H41=>
opW (zob .u8 t48 H41) fun t49 H43=>
opW ((zpa P 50 1).f [(0,t49)] H43) fun t50 H45=>
opW (zva 1 1 t28 t50 H45) fun t51 H47=>
opP ((zta P .add 3 true).f (nth l 4) (.int .i64 1)) fun t68_1=>
N [(nth l 0),t51,(nth l 2),(nth l 3),t68_1] H47) (
opP ((zta P .eql 3 true).f t30 (.int .i64 3)) fun t53=>
wIf t53 (
opP (zda 2 t5) fun t55=>
opW (zba t55 H19) fun t56 H52=>
opP ((zta P .add 3 true).f t56 (.int .i64 1)) fun t57=>
opW (zob .u8 t57 H52) fun t58 H55=>
opW ((zpa P 50 1).f [(0,t58)] H55) fun t59 H57=>
opW (zva 1 1 t28 t59 H57) fun t60 H59=>
opP ((zta P .add 3 true).f (nth l 4) (.int .i64 1)) fun t68_2=>
N [(nth l 0),t60,(nth l 2),(nth l 3),t68_2] H59) (
opP ((zta P .eql 3 true).f t30 (.int .i64 4)) fun t62=>
wIf t62 (
opP (zda 39 t5) fun t64=>
opW (zba t64 H19) fun t65 H64=>
wCall P zHb [t65,(.int .i64 8)] H64 fun t66 H66=>
opW (zva 1 1 t28 t66 H66) fun t67 H68=>
opP ((zta P .add 3 true).f (nth l 4) (.int .i64 1)) fun t68_3=>
N [(nth l 0),t67,(nth l 2),(nth l 3),t68_3] H68) (
opP ((zta P .add 3 true).f (nth l 4) (.int .i64 1)) fun t68_4=>
N [(nth l 0),t28,(nth l 2),(nth l 3),t68_4] H19))))) (
Qx 0 [(nth l 0),(nth l 1)] H)
theorem zBq:LpI P 70 zGp 12 zHp:=.mk (by kernel_rfl) fun l H N Qx Qr=>by kernel_rfl
def zmy(t0:Value)(H:Heap)(K:VH):Prop:=
opW ((zpa P 50 0).f [] H) fun t6 H1=>
wCall P zSg [t0] H1 fun t8 H3=>
opP (unA .not t8) fun t9=>
wIf t9 (
K t6 H3) (
opW (lenSl t0 H3) fun t13 H6=>
opW (zob .u8 t13 H6) fun t14 H8=>
opW ((zpa P 50 1).f [(0,t14)] H8) fun t15 H10=>
opW (zva 1 1 t6 t15 H10) fun t16 H12=>
opW (lenSl t0 H12) fun t18 H14=>
zbb P true 70 zGp 12 [(.slice none 0 0),t16,t0,t18,(.int .i64 0)] H14 (fun id l H16=>
cond (Nat.beq id 0) (
K (nth l 1) H16) (
False)) (fun l H16=>
K (nth l 0) H16))
theorem zny{t0:Value}{H:Heap}{K:VH}(h:zmy t0 H K):wCall P zyf [t0] H K:=zea rfl (Eq.mpr (by kernel_rfl) h)
def zzs(t0 t1:Value)(H:Heap)(K:VH):Prop:=
zhb (fun J=>
opW (zDE t1 H) fun t10 H2=>
wCall P zVj [t0,t10] H2 fun t11 H4=>
opP (unA .not t11) fun t12=>
wIf t12 (
opP (zra t12 (.bool true) undef) fun t19=>
wIf t19 (
K (.int .i64 92) H4) (
J [t0,t1] H4)) (
opP (zca t0) fun t15=>
opP (zda 5 t15) fun t16=>
opW (zba t16 H4) fun t17 H10=>
opP ((zta P .geq 23 true).f t17 (.int .u64 4611686018427387904)) fun t18=>
opP (zra t12 (.bool true) t18) fun t19_1=>
wIf t19_1 (
K (.int .i64 92) H10) (
J [t0,t1] H10))) (fun l H14=>
opP (zca (nth l 0)) fun t21=>
opP (zda 6 t21) fun t22=>
opW (zla 1 t22 (.bool false) H14) fun u H18=>
opP (zca (nth l 0)) fun t25=>
opP (zda 3 t25) fun t26=>
opW (zba t26 H18) fun t27 H22=>
opP ((zta P .sub 3 true).f (.int .i64 1) t27) fun t28=>
opP (zca (nth l 0)) fun t29=>
opP (zda 1 t29) fun t30=>
opP (zUa 2 1 t30 t28) fun t31=>
opW (zba t31 H22) fun t32 H28=>
opP (zca (nth l 0)) fun t34=>
opP (zda 0 t34) fun t35=>
opW (zba t35 H28) fun t36 H32=>
wCall P zth [t36,t32] H32 fun t38 H34=>
zhb (fun J_1=>
opP ((zta P .eql 3 true).f t38 (.int .i64 0)) fun t40=>
wIf t40 (
opP (zca (nth l 0)) fun t42=>
opP (zda 0 t42) fun t43=>
opW (zba t43 H34) fun t44 H40=>
opP (zca t44) fun t45=>
opP (zda 0 t45) fun t46=>
opW (zba t46 H40) fun t47 H44=>
wCall P zne [t47] H44 fun t48 H46=>
J_1 [(nth l 0),(nth l 1),t32,t48] H46) (
J_1 [(nth l 0),(nth l 1),t32,t38] H34)) (fun l_1 H48=>
opP ((zta P .neq 3 true).f (nth l_1 3) (.int .i64 0)) fun t50=>
wIf t50 (
K (nth l_1 3) H48) (
wCall P zLe [(nth l_1 0),(nth l_1 2),(.int .i64 0),(.int .u8 1),(nth l_1 1)] H48 fun t56 H51=>
opP (zjc 0 t56) fun t57=>
opP (zjc 1 t56) fun t58=>
opP ((zta P .eql 3 true).f t58 (.int .i64 0)) fun t60=>
wIf t60 (
opP (zca (nth l_1 0)) fun t63=>
opP (zda 3 t63) fun t64=>
opW (zba t64 H51) fun t65 H58=>
opP ((zta P .sub 3 true).f (.int .i64 1) t65) fun t66=>
opP (zca (nth l_1 0)) fun t67=>
opP (zda 3 t67) fun t68=>
opW (zla 1 t68 t66 H58) fun u_1 H63=>
opP (zca (nth l_1 0)) fun t70=>
opP (zda 5 t70) fun t71=>
opW (zba t71 H63) fun t72 H67=>
opP ((zta P .add 23 true).f t72 (.int .u64 1)) fun t73=>
opP (zca (nth l_1 0)) fun t74=>
opP (zda 5 t74) fun t75=>
opW (zla 1 t75 t73 H67) fun u_2 H72=>
opP (zca (nth l_1 0)) fun t78=>
opP (zda 4 t78) fun t79=>
opW (zla 1 t79 t57 H72) fun u_3 H76=>
opP (zca (nth l_1 0)) fun t81=>
opP (zda 6 t81) fun t82=>
opW (zla 1 t82 (.bool true) H76) fun u_4 H80=>
K t58 H80) (
K t58 H51))))
theorem zUt{t0 t1:Value}{H:Heap}{K:VH}(h:zzs t0 t1 H K):wCall P zHi [t0,t1] H K:=zea rfl (Eq.mpr (by kernel_rfl) h)
def zAs(t0:Value)(H:Heap)(K:VH):Prop:=
zDb (zGa t0) H fun t1 H1=>
opW ((zpa P 50 0).f [] H1) fun t4 H3=>
opW (zna 75 t1 H3) fun t5 H5=>
wCall P zCd [t5] H5 fun t6 H7=>
opP (unA .not t6) fun t7=>
wIf t7 (
K t4 H7) (
opP (zda 0 t1) fun t10=>
opP (zUa 2 36 t10 (.int .i64 0)) fun t11=>
opW (zna 36 t11 H7) fun t12 H12=>
wCall P zMe [t12] H12 fun t13 H14=>
opW (zva 1 1 t4 t13 H14) fun t14 H16=>
opP (zda 0 t1) fun t16=>
opP (zUa 2 36 t16 (.int .i64 1)) fun t17=>
opW (zna 36 t17 H16) fun t18 H20=>
wCall P zMe [t18] H20 fun t19 H22=>
opW (zva 1 1 t14 t19 H22) fun t20 H24=>
opP (zda 72 t1) fun t22=>
opW (zba t22 H24) fun t23 H27=>
opW (zob .u8 t23 H27) fun t24 H29=>
opP (zda 73 t1) fun t25=>
opW (zba t25 H29) fun t26 H32=>
opP ((zta P .add 3 true).f t26 (.int .i64 1)) fun t27=>
opW (zob .u8 t27 H32) fun t28 H35=>
opW ((zpa P 50 2).f [(0,t24),(1,t28)] H35) fun t29 H37=>
opW (zva 1 1 t20 t29 H37) fun t30 H39=>
opP (zda 74 t1) fun t32=>
opW (zba t32 H39) fun t33 H42=>
wCall P zHb [t33,(.int .i64 8)] H42 fun t34 H44=>
opW (zva 1 1 t30 t34 H44) fun t35 H46=>
K t35 H46)
theorem zVt{t0:Value}{H:Heap}{K:VH}(h:zAs t0 H K):wCall P zIi [t0] H K:=zea rfl (Eq.mpr (by kernel_rfl) h)
def zkg(t0:Value)(H:Heap)(K:VH):Prop:=
opP (zca t0) fun t4=>
opP (zda 6 t4) fun t5=>
opW (zba t5 H) fun t6 H3=>
opP (unA .not t6) fun t7=>
wIf t7 (
K (.int .i64 0) H3) (
opP (zca t0) fun t9=>
opP (zda 0 t9) fun t10=>
opW (zba t10 H3) fun t11 H8=>
opP (zca t0) fun t14=>
opP (zda 3 t14) fun t15=>
opW (zba t15 H8) fun t16 H12=>
opP (zca t0) fun t17=>
opP (zda 1 t17) fun t18=>
opP (zUa 2 1 t18 t16) fun t19=>
opW (zba t19 H12) fun t20 H17=>
wCall P zLb [t11,t20] H17 fun t21 H19=>
opP (zca t0) fun t23=>
opP (zda 5 t23) fun t24=>
opW (zba t24 H19) fun t25 H23=>
zhc (zWb H17 H19) (zVa [t24])∧(opP ((zta P .sub 3 false).f t21 t25) fun t26=>
K t26 H23))
theorem zUi{t0:Value}{H:Heap}{K:VH}(h:zkg t0 H K):wCall P zgc [t0] H K:=zea rfl (Eq.mpr (by kernel_rfl) h)
def znn(t0 t1:Value)(H:Heap)(K:VH):Prop:=
wCall P zYd [t0,t1] H fun t7 H1=>
opP (unA .not t7) fun t8=>
wIf t8 (
K (.int .i64 0) H1) (
opP (zca t0) fun t10=>
opP (zda 1 t10) fun t11=>
opW (zba t11 H1) fun t12 H6=>
opP (zWa 2 t12 t1) fun t14=>
opP (zda 1 t14) fun t15=>
opW (zba t15 H6) fun t16 H10=>
K t16 H10)
theorem zCq{t0 t1:Value}{H:Heap}{K:VH}(h:znn t0 t1 H K):wCall P zLb [t0,t1] H K:=zea rfl (Eq.mpr (by kernel_rfl) h)
def zon(t0 t1 t2:Value)(H:Heap)(K:VH):Prop:=
zDb (zc P 84) H fun t6 H1=>
wCall P zSc [t0,t1,t2] H1 fun t14 H3=>
opP (zjc 0 t14) fun t15=>
opP (zjc 1 t14) fun t16=>
opP ((zta P .neq 43 true).f t16 (.int .i64 0)) fun t18=>
wIf t18 (
opP ((zDa P 84).f []) fun t19=>
opW (zla 64 t6 t19 H3) fun u H9=>
opW (zna 64 t6 H9) fun r _=>
K (.tuple [r,t16].toArray) H9) (
opP (zca t0) fun t22=>
opP (zda 0 t22) fun t23=>
opW (zba t23 H3) fun t24 H14=>
wCall P zge [t24,t15] H14 fun t26 H16=>
opP (zjc 0 t26) fun t27=>
opP (zjc 1 t26) fun t28=>
opW (zla 64 t6 t27 H16) fun u_1 H20=>
opW (zna 64 t6 H20) fun r_1 _=>
K (.tuple [r_1,t28].toArray) H20)
theorem zDq{t0 t1 t2:Value}{H:Heap}{K:VH}(h:zon t0 t1 t2 H K):wCall P zrd [t0,t1,t2] H K:=zea rfl (Eq.mpr (by kernel_rfl) h)
def zYu(t0 t1 t2:Value)(H:Heap)(K:VH):Prop:=
zDb (zc P 84) H fun t6 H1=>
wCall P zFd [t0,t1,t2] H1 fun t14 H3=>
opP (zjc 0 t14) fun t15=>
opP (zjc 1 t14) fun t16=>
opP ((zta P .neq 3 true).f t16 (.int .i64 0)) fun t18=>
wIf t18 (
opP ((zDa P 84).f []) fun t19=>
opW (zla 64 t6 t19 H3) fun u H9=>
opW (zna 64 t6 H9) fun r _=>
K (.tuple [r,t16].toArray) H9) (
opP (zca t0) fun t22=>
opP (zda 0 t22) fun t23=>
opW (zba t23 H3) fun t24 H14=>
wCall P zQf [t24,t15] H14 fun t26 H16=>
opP (zjc 0 t26) fun t27=>
opP (zjc 1 t26) fun t28=>
opW (zla 64 t6 t27 H16) fun u_1 H20=>
opW (zna 64 t6 H20) fun r_1 _=>
K (.tuple [r_1,t28].toArray) H20)
theorem ztw{t0 t1 t2:Value}{H:Heap}{K:VH}(h:zYu t0 t1 t2 H K):wCall P zsh [t0,t1,t2] H K:=zea rfl (Eq.mpr (by kernel_rfl) h)
def zai(t0:Value)(H:Heap)(K:VH):Prop:=
opP (zca t0) fun t4=>
opP (zda 0 t4) fun t5=>
opW (zba t5 H) fun t6 H3=>
opW (lenSl t6 H3) fun t7 H5=>
K t7 H5
theorem zcl{t0:Value}{H:Heap}{K:VH}(h:zai t0 H K):wCall P zfe [t0] H K:=zea rfl (Eq.mpr (by kernel_rfl) h)
noncomputable abbrev zEl:Code:=zMa P zGb 0
def zFl(l:List Value)(H:Heap)(N:LN)(Qx:LX)(Qr:LN):Prop:=
opP ((zta P .lss 3 true).f (nth l 2) (.int .i64 64)) fun t4=>
wIf t4 (
opP (zUa 64 1 (nth l 1) (nth l 2)) fun t7=>
opW (zla 1 t7 (.int .u8 255) H) fun u H3=>
opP ((zta P .add 3 true).f (nth l 2) (.int .i64 1)) fun t8=>
N [(nth l 0),(nth l 1),t8] H3) (
Qx 0 [(nth l 0),(nth l 1)] H)
theorem zpn:LpI P 10 zEl 3 zFl:=.mk (by kernel_rfl) fun l H N Qx Qr=>by kernel_rfl
def zBs(H:Heap)(K:VH):Prop:=
zDb (zc P 84) H fun t0 H1=>
zDb (zc P 84) H1 fun t1 H3=>
zbb P true 10 zEl 3 [t0,t1,(.int .i64 0)] H3 (fun id l H5=>
cond (Nat.beq id 0) (
opW (zna 64 (nth l 1) H5) fun t9 H7=>
opW (zla 64 (nth l 0) t9 H7) fun u H9=>
opW (zna 64 (nth l 0) H9) fun r _=>
K r H9) (
False)) (fun l H5=>
opW (zna 64 (nth l 0) H5) fun r_1 _=>
K r_1 H5)
theorem zWt{H:Heap}{K:VH}(h:zBs  H K):wCall P zGb [] H K:=zea rfl (Eq.mpr (by kernel_rfl) h)
def zZu(t0:Value)(H:Heap)(K:VH):Prop:=
zDb (zGa t0) H fun t1 H1=>
zhb (fun J=>
opP (zda 0 t1) fun t3=>
opW (zba t3 H1) fun t4 H5=>
zhb (fun J_1=>
opP ((zta P .eql 3 true).f t4 (.int .i64 0)) fun t6=>
wIf t6 (
J_1 [t1,t4,t6] H5) (
opP ((zta P .eql 3 true).f t4 (.int .i64 1)) fun t7=>
wIf t7 (
J_1 [t1,t4,t7] H5) (
opP ((zta P .eql 3 true).f t4 (.int .i64 4)) fun t8=>
J_1 [t1,t4,t8] H5))) (fun l H11=>
wIf (nth l 2) (
opW (zna 36 (nth l 0) H11) fun t9 H13=>
opP (zda 0 (nth l 0)) fun t10=>
opW (zba t10 H13) fun t11 H16=>
opP ((zDa P 27).f [(0,t11)]) fun t12=>
opP ((zta P .eql 27 false).f t9 t12) fun t13=>
K t13 H16) (
opP ((zta P .eql 3 true).f (nth l 1) (.int .i64 2)) fun t15=>
wIf t15 (
opP (zda 1 (nth l 0)) fun t16=>
opW (zba t16 H11) fun t17 H22=>
opP ((zta P .lss 3 true).f t17 (.int .i64 0)) fun t18=>
wIf t18 (
opP (zra t18 (.bool true) undef) fun t23=>
wIf t23 (
K (.bool false) H22) (
J [(nth l 0)] H22)) (
opP (zda 1 (nth l 0)) fun t20=>
opW (zba t20 H22) fun t21 H27=>
opP ((zta P .gtr 3 true).f t21 (.int .i64 7)) fun t22=>
opP (zra t18 (.bool true) t22) fun t23_1=>
wIf t23_1 (
K (.bool false) H27) (
J [(nth l 0)] H27))) (
opP ((zta P .eql 3 true).f (nth l 1) (.int .i64 3)) fun t25=>
wIf t25 (
opP (zda 1 (nth l 0)) fun t26=>
opW (zba t26 H11) fun t27 H33=>
opP ((zta P .neq 3 true).f t27 (.int .i64 0)) fun t28=>
wIf t28 (
K (.bool false) H33) (
J [(nth l 0)] H33)) (
K (.bool false) H11))))) (fun l_1 H36=>
opP (zda 2 (nth l_1 0)) fun t29=>
opW (zba t29 H36) fun t30 H39=>
opP ((zta P .geq 23 true).f t30 (.int .u64 1)) fun t31=>
wIf t31 (
opP (zda 2 (nth l_1 0)) fun t33=>
opW (zba t33 H39) fun t34 H43=>
opP ((zta P .leq 23 true).f t34 (.int .u64 281474976710656)) fun t35=>
opP (zra t31 t35 (.bool false)) fun t36=>
wIf t36 (
opP (zda 3 (nth l_1 0)) fun t38=>
opW (zba t38 H43) fun t39 H48=>
opP ((zta P .geq 3 true).f t39 (.int .i64 1)) fun t40=>
opP (zra t36 t40 (.bool false)) fun t41=>
wIf t41 (
opP (zda 3 (nth l_1 0)) fun t43=>
opW (zba t43 H48) fun t44 H53=>
opP ((zta P .leq 3 true).f t44 (.int .i64 65536)) fun t45=>
opP (zra t41 t45 (.bool false)) fun t46=>
K t46 H53) (
opP (zra t41 undef (.bool false)) fun t46_1=>
K t46_1 H48)) (
opP (zra t36 undef (.bool false)) fun t41_1=>
opP (zra t41_1 undef (.bool false)) fun t46_2=>
K t46_2 H43)) (
opP (zra t31 undef (.bool false)) fun t36_1=>
opP (zra t36_1 undef (.bool false)) fun t41_2=>
opP (zra t41_2 undef (.bool false)) fun t46_3=>
K t46_3 H39))
theorem zuw{t0:Value}{H:Heap}{K:VH}(h:zZu t0 H K):wCall P zsd [t0] H K:=zea rfl (Eq.mpr (by kernel_rfl) h)
def zCs(t0:Value)(H:Heap)(K:VH):Prop:=
opP ((zta P .eql 3 true).f t0 (.int .i64 0)) fun t4=>
wIf t4 (
opP (zra t4 (.bool true) undef) fun t8=>
K t8 H) (
opP ((zta P .eql 3 true).f t0 (.int .i64 1)) fun t7=>
opP (zra t4 (.bool true) t7) fun t8_1=>
K t8_1 H)
theorem zXt{t0:Value}{H:Heap}{K:VH}(h:zCs t0 H K):wCall P zJc [t0] H K:=zea rfl (Eq.mpr (by kernel_rfl) h)
noncomputable abbrev zBf:Code:=zMa P zRc 0
def zbi(l:List Value)(H:Heap)(N:LN)(Qx:LX)(Qr:LN):Prop:=
wCall P zmm [(nth l 2)] H fun t17 H1=>
opP (zjc 0 t17) fun t18=>
opP (zjc 1 t17) fun t19=>
opP (zjc 2 t17) fun t20=>
opP (zjc 3 t17) fun t21=>
zhb (fun J=>
opP ((zta P .eql 3 true).f t21 (.int .i64 0)) fun t23=>
wIf t23 (
opP (zra t23 (.bool true) undef) fun t28=>
opP (zra t28 (.bool true) undef) fun t43=>
J [(nth l 0),(nth l 1),(nth l 2),(nth l 3),t19,t20,t21,t43] H1) (
opP ((zta P .neq 5 false).f t18 (nth l 3)) fun t27=>
opP (zra t23 (.bool true) t27) fun t28_1=>
wIf t28_1 (
opP (zra t28_1 (.bool true) undef) fun t43_1=>
J [(nth l 0),(nth l 1),(nth l 2),(nth l 3),t19,t20,t21,t43_1] H1) (
opP ((zta P .eql 5 true).f (nth l 3) (.int .u8 2)) fun t31=>
wIf t31 (
opP ((zta P .eql 23 true).f t19 (.int .u64 0)) fun t34=>
wIf t34 (
opP (zra t34 (.bool true) undef) fun t41=>
opP (zra t31 t41 (.bool false)) fun t42=>
opP (zra t28_1 (.bool true) t42) fun t43_2=>
J [(nth l 0),(nth l 1),(nth l 2),(nth l 3),t19,t20,t21,t43_2] H1) (
opP ((zta P .sub 23 true).f t19 (.int .u64 1)) fun t37=>
opP (zda 2 (nth l 1)) fun t38=>
opW (zba t38 H1) fun t39 H21=>
opP ((zta P .neq 23 false).f t37 t39) fun t40=>
opP (zra t34 (.bool true) t40) fun t41_1=>
opP (zra t31 t41_1 (.bool false)) fun t42_1=>
opP (zra t28_1 (.bool true) t42_1) fun t43_3=>
J [(nth l 0),(nth l 1),(nth l 2),(nth l 3),t19,t20,t21,t43_3] H21)) (
opP (zra t31 undef (.bool false)) fun t42_2=>
opP (zra t28_1 (.bool true) t42_2) fun t43_4=>
J [(nth l 0),(nth l 1),(nth l 2),(nth l 3),t19,t20,t21,t43_4] H1)))) (fun l_1 H29=>
wIf (nth l_1 7) (
opW (zna 3 (nth l_1 1) H29) fun t44 H31=>
opW (zla 3 (nth l_1 0) t44 H31) fun u H33=>
Qr [(nth l_1 0)] H33) (
zhb (fun J_1=>
opP ((zta P .eql 5 true).f (nth l_1 3) (.int .u8 1)) fun t46=>
wIf t46 (
opP (zda 1 (nth l_1 1)) fun t48=>
opW (zla 1 t48 (nth l_1 4) H29) fun u_1 H38=>
J_1 [(nth l_1 0),(nth l_1 1),(nth l_1 2),(nth l_1 4),(nth l_1 5),(nth l_1 6)] H38) (
J_1 [(nth l_1 0),(nth l_1 1),(nth l_1 2),(nth l_1 4),(nth l_1 5),(nth l_1 6)] H29)) (fun l_2 H40=>
opP (zda 2 (nth l_2 1)) fun t50=>
opW (zla 1 t50 (nth l_2 3) H40) fun u_2 H43=>
opP (zda 0 (nth l_2 1)) fun t51=>
opW (zba t51 H43) fun t52 H46=>
opW ((zpa P 87 1).f [(0,(nth l_2 4))] H46) fun t54 H48=>
opW (zva 1 24 t52 t54 H48) fun t55 H50=>
opP (zda 0 (nth l_2 1)) fun t56=>
opW (zla 1 t56 t55 H50) fun u_3 H53=>
opP (zLa 64 (nth l_2 2) (some (nth l_2 5)) none none) fun t59=>
N [(nth l_2 0),(nth l_2 1),t59,(.int .u8 2)] H53)))
theorem zdk:LpI P 60 zBf 16 zbi:=.mk (by kernel_rfl) fun l H N Qx Qr=>by kernel_rfl
def zGl(t0 t1:Value)(H:Heap)(K:VH):Prop:=
zDb (zc P 136) H fun t4 H1=>
zDb (zc P 136) H1 fun t5 H3=>
wCall P zGd [t0,t1] H3 fun t14 H5=>
zbb P true 60 zBf 16 [t4,t5,t14,(.int .u8 1)] H5 (fun id l H7=>
cond (Nat.beq id 0) (
opW (zna 3 (nth l 0) H7) fun r _=>
K r H7) (
False)) (fun l H7=>
opW (zna 3 (nth l 0) H7) fun r_1 _=>
K r_1 H7)
theorem zHo{t0 t1:Value}{H:Heap}{K:VH}(h:zGl t0 t1 H K):wCall P zRc [t0,t1] H K:=zea rfl (Eq.mpr (by kernel_rfl) h)
noncomputable abbrev zHl:Code:=zMa P zwg 0
def zIl(l:List Value)(H:Heap)(N:LN)(Qx:LX)(Qr:LN):Prop:=
opP ((zta P .lss 3 true).f (nth l 4) (.int .i64 2)) fun t12=>
wIf t12 (
wCall P zNi [(nth l 2)] H fun t16 H2=>
opP (zjc 0 t16) fun t17=>
opP (zjc 1 t16) fun t18=>
zDb (zc P 27) H2 fun t7 H6=>
opW (zla 36 t7 t17 H6) fun u H8=>
opP ((zta P .neq 43 true).f t18 (.int .i64 0)) fun t20=>
wIf t20 (
opP ((zDa P 30).f []) fun t21=>
opW (zla 75 (nth l 0) t21 H8) fun u_1 H12=>
Qr [(nth l 0),(.int .i64 111),(nth l 2),(nth l 3)] H12) (
opW (zna 36 t7 H8) fun t23 H14=>
opP (zda 0 (nth l 3)) fun t24=>
opP (zUa 2 36 t24 (nth l 4)) fun t25=>
opW (zla 36 t25 t23 H14) fun u_2 H18=>
opP ((zta P .add 3 true).f (nth l 4) (.int .i64 1)) fun t26=>
N [(nth l 0),(nth l 1),(nth l 2),(nth l 3),t26] H18)) (
Qx 0 [(nth l 0),(nth l 1),(nth l 2),(nth l 3)] H)
theorem zqn:LpI P 49 zHl 60 zIl:=.mk (by kernel_rfl) fun l H N Qx Qr=>by kernel_rfl
def zDs(t0:Value)(H:Heap)(K:VH):Prop:=
zDb (zc P 30) H fun t2 H1=>
wCall P zFg [t0] H1 fun t10 H3=>
zDb (zc P 30) H3 fun t5 H5=>
zbb P true 49 zHl 60 [t2,(.int .i64 0),t10,t5,(.int .i64 0)] H5 (fun id l H7=>
cond (Nat.beq id 0) (
wCall P zza [(nth l 2),(.int .i64 1)] H7 fun t28 H9=>
opW (zob .i64 t28 H9) fun t29 H11=>
wCall P zza [(nth l 2),(.int .i64 1)] H11 fun t31 H13=>
opW (zob .i64 t31 H13) fun t32 H15=>
opP ((zta P .add 3 true).f t32 (.int .i64 (-1))) fun t33=>
opP (zda 72 (nth l 3)) fun t34=>
opW (zla 1 t34 t29 H15) fun u H19=>
opP (zda 73 (nth l 3)) fun t35=>
opW (zla 1 t35 t33 H19) fun u_1 H22=>
wCall P zza [(nth l 2),(.int .i64 8)] H22 fun t37 H24=>
opP (zda 74 (nth l 3)) fun t38=>
opW (zla 1 t38 t37 H24) fun u_2 H27=>
zhb (fun J=>
wCall P zHd [(nth l 2)] H27 fun t40 H30=>
opP ((zta P .neq 43 true).f t40 (.int .i64 0)) fun t41=>
wIf t41 (
opP (zra t41 (.bool true) undef) fun t46=>
J [(nth l 0),(nth l 3),t46] H30) (
opW (zna 75 (nth l 3) H30) fun t43 H34=>
wCall P zEd [t43] H34 fun t44 H36=>
opP (unA .not t44) fun t45=>
opP (zra t41 (.bool true) t45) fun t46_1=>
J [(nth l 0),(nth l 3),t46_1] H36)) (fun l_1 H40=>
wIf (nth l_1 2) (
opP ((zDa P 30).f []) fun t47=>
opW (zla 75 (nth l_1 0) t47 H40) fun u_3 H43=>
opW (zna 75 (nth l_1 0) H43) fun r _=>
K (.tuple [r,(.int .i64 111)].toArray) H43) (
opW (zna 75 (nth l_1 1) H40) fun t48 H46=>
opW (zla 75 (nth l_1 0) t48 H46) fun u_4 H48=>
opW (zna 75 (nth l_1 0) H48) fun r_1 _=>
K (.tuple [r_1,(.int .i64 0)].toArray) H48))) (
False)) (fun l H7=>
opW (zna 75 (nth l 0) H7) fun r_2 _=>
K (.tuple [r_2,(nth l 1)].toArray) H7)
theorem zYt{t0:Value}{H:Heap}{K:VH}(h:zDs t0 H K):wCall P zwg [t0] H K:=zea rfl (Eq.mpr (by kernel_rfl) h)
noncomputable abbrev zIp:Code:=zMa P zJi 0
def zJp(l:List Value)(H:Heap)(N:LN)(Qx:LX)(Qr:LN):Prop:=
opP ((zta P .lss 3 false).f (nth l 5) (nth l 4)) fun t18=>
wIf t18 (
wCall P zLh [(nth l 2)] H fun t21 H2=>
opP (zjc 0 t21) fun t22=>
opP (zjc 1 t21) fun t23=>
zDb (zc P 74) H2 fun t7 H6=>
opW (zla 40 t7 t22 H6) fun u H8=>
opP ((zta P .neq 43 true).f t23 (.int .i64 0)) fun t25=>
wIf t25 (
Qr [(.slice none 0 0),t23,(nth l 2),(nth l 3)] H8) (
opW (zna 40 t7 H8) fun t28 H11=>
opW ((zpa P 49 1).f [(0,t28)] H11) fun t29 H13=>
opW (zva 40 96 (nth l 3) t29 H13) fun t30 H15=>
opP ((zta P .add 3 true).f (nth l 5) (.int .i64 1)) fun t31=>
N [(nth l 0),(nth l 1),(nth l 2),t30,(nth l 4),t31] H15)) (
Qx 0 [(nth l 0),(nth l 1),(nth l 2),(nth l 3)] H)
theorem zEq:LpI P 36 zIp 92 zJp:=.mk (by kernel_rfl) fun l H N Qx Qr=>by kernel_rfl
def zoy(t0:Value)(H:Heap)(K:VH):Prop:=
wCall P zFg [t0] H fun t10 H1=>
wCall P zza [t10,(.int .i64 1)] H1 fun t12 H3=>
opW (zob .i64 t12 H3) fun t13 H5=>
opP ((zta P .gtr 3 true).f t13 (.int .i64 8)) fun t15=>
wIf t15 (
K (.tuple [(.slice none 0 0),(.int .i64 111)].toArray) H5) (
zbb P true 36 zIp 92 [(.slice none 0 0),(.int .i64 0),t10,(.slice none 0 0),t13,(.int .i64 0)] H5 (fun id l H8=>
cond (Nat.beq id 0) (
wCall P zHd [(nth l 2)] H8 fun t33 H10=>
opP ((zta P .neq 43 true).f t33 (.int .i64 0)) fun t34=>
wIf t34 (
K (.tuple [(.slice none 0 0),(.int .i64 111)].toArray) H10) (
K (.tuple [(nth l 3),(.int .i64 0)].toArray) H10)) (
False)) (fun l H8=>
K (.tuple [(nth l 0),(nth l 1)].toArray) H8))
theorem zpy{t0:Value}{H:Heap}{K:VH}(h:zoy t0 H K):wCall P zJi [t0] H K:=zea rfl (Eq.mpr (by kernel_rfl) h)
noncomputable abbrev zZg:Code:=zMa P zXd 0
def zek(l:List Value)(H:Heap)(N:LN)(Qx:LX)(Qr:LN):Prop:=
wCall P zOi [(nth l 0)] H fun t21 H1=>
opP (zjc 0 t21) fun t22=>
opP (zjc 1 t21) fun t23=>
opP (zjc 2 t21) fun t24=>
opP (zjc 3 t21) fun t25=>
opP ((zta P .eql 3 true).f t25 (.int .i64 0)) fun t27=>
wIf t27 (
Qr [(nth l 1),(nth l 2),(nth l 3)] H1) (
zhb (fun J=>
opW (lenSl (nth l 1) H1) fun t32 H9=>
opP ((zta P .eql 3 true).f t32 (.int .i64 0)) fun t33=>
wIf t33 (
opP ((zta P .neq 5 true).f t22 (.int .u8 1)) fun t35=>
wIf t35 (
Qr [(nth l 1),(nth l 2),(nth l 3)] H9) (
J [(nth l 0),(nth l 1),t23,t23,t24,t25] H9)) (
zhb (fun J_1=>
opP ((zta P .neq 5 true).f t22 (.int .u8 2)) fun t41=>
wIf t41 (
opP (zra t41 (.bool true) undef) fun t45=>
opP (zra t45 (.bool true) undef) fun t51=>
J_1 [(nth l 0),(nth l 1),(nth l 2),(nth l 3),t23,t24,t25,t51] H9) (
opP ((zta P .eql 23 true).f t23 (.int .u64 0)) fun t44=>
opP (zra t41 (.bool true) t44) fun t45_1=>
wIf t45_1 (
opP (zra t45_1 (.bool true) undef) fun t51_1=>
J_1 [(nth l 0),(nth l 1),(nth l 2),(nth l 3),t23,t24,t25,t51_1] H9) (
opP ((zta P .sub 23 true).f t23 (.int .u64 1)) fun t48=>
opP ((zta P .neq 23 false).f t48 (nth l 3)) fun t50=>
opP (zra t45_1 (.bool true) t50) fun t51_2=>
J_1 [(nth l 0),(nth l 1),(nth l 2),(nth l 3),t23,t24,t25,t51_2] H9))) (fun l_1 H23=>
wIf (nth l_1 7) (
Qr [(nth l_1 1),(nth l_1 2),(nth l_1 3)] H23) (
J [(nth l_1 0),(nth l_1 1),(nth l_1 2),(nth l_1 4),(nth l_1 5),(nth l_1 6)] H23)))) (fun l_2 H25=>
opW (zjb (nth l_2 4) H25) fun t58 H27=>
opW ((zpa P 94 1).f [(0,t58)] H27) fun t59 H29=>
opW (zva 1 16 (nth l_2 1) t59 H29) fun t60 H31=>
opP (zLa 1 (nth l_2 0) (some (nth l_2 5)) none none) fun t63=>
N [t63,t60,(nth l_2 2),(nth l_2 3)] H31))
theorem zsm:LpI P 64 zZg 112 zek:=.mk (by kernel_rfl) fun l H N Qx Qr=>by kernel_rfl
def zKp(t0 t1:Value)(H:Heap)(K:VH):Prop:=
wCall P zxf [t0,t1] H fun t17 H1=>
opW ((zpa P 94 0).f [] H1) fun t18 H3=>
zbb P true 64 zZg 112 [t17,t18,(.int .u64 0),(.int .u64 0)] H3 (fun id l H5=>
cond (Nat.beq id 0) (
K (.tuple [(nth l 0),(nth l 1),(nth l 2)].toArray) H5) (
False)) (fun l H5=>
K (.tuple [(nth l 0),(nth l 1),(nth l 2)].toArray) H5)
theorem zEs{t0 t1:Value}{H:Heap}{K:VH}(h:zKp t0 t1 H K):wCall P zXd [t0,t1] H K:=zea rfl (Eq.mpr (by kernel_rfl) h)
noncomputable abbrev zrn:Code:=zMa P ztd 0
noncomputable abbrev zsn:Code:=zMa P ztd 1
def ztn(l:List Value)(H:Heap)(N:LN)(Qx:LX)(Qr:LN):Prop:=
opP ((zta P .lss 3 true).f (nth l 5) (.int .i64 8)) fun t31=>
wIf t31 (
opP (zda 2 (nth l 3)) fun t34=>
opW (zba t34 H) fun t35 H3=>
opP ((zta P .add 3 true).f (.int .i64 2) (nth l 5)) fun t39=>
opP (zWa 1 (nth l 2) t39) fun t40=>
opW (zba t40 H3) fun t41 H7=>
opW (zob .u64 t41 H7) fun t42 H9=>
opP ((zta P .mul 23 false).f (nth l 4) t42) fun t43=>
opP ((zta P .add 23 false).f t35 t43) fun t44=>
opP (zda 2 (nth l 3)) fun t45=>
opW (zla 1 t45 t44 H9) fun u H14=>
opP ((zta P .mul 23 true).f (nth l 4) (.int .u64 256)) fun t47=>
opP ((zta P .add 3 true).f (nth l 5) (.int .i64 1)) fun t33=>
N [(nth l 0),(nth l 1),(nth l 2),(nth l 3),t47,t33] H14) (
Qx 0 [(nth l 0),(nth l 1),(nth l 2),(nth l 3)] H)
theorem zIo:LpI P 88 zrn 60 ztn:=.mk (by kernel_rfl) fun l H N Qx Qr=>by kernel_rfl
def zun(l:List Value)(H:Heap)(N:LN)(Qx:LX)(Qr:LN):Prop:=
opP ((zta P .lss 3 true).f (nth l 4) (.int .i64 32)) fun t72=>
wIf t72 (
opP ((zta P .add 3 true).f (.int .i64 14) (nth l 4)) fun t77=>
opP (zWa 1 (nth l 2) t77) fun t78=>
opW (zba t78 H) fun t79 H4=>
opP (zda 4 (nth l 3)) fun t80=>
opP (zUa 32 1 t80 (nth l 4)) fun t81=>
opW (zla 1 t81 t79 H4) fun u H8=>
opP ((zta P .add 3 true).f (nth l 4) (.int .i64 1)) fun t82=>
N [(nth l 0),(nth l 1),(nth l 2),(nth l 3),t82] H8) (
Qx 2 [(nth l 0),(nth l 1),(nth l 3)] H)
theorem zJo:LpI P 88 zsn 44 zun:=.mk (by kernel_rfl) fun l H N Qx Qr=>by kernel_rfl
def zav(t0:Value)(H:Heap)(K:VH):Prop:=
zDb (zc P 27) H fun t2 H1=>
wCall P zPi [t0,(.int .i64 46)] H1 fun t10 H3=>
opP (zca t0) fun t12=>
opP (zda 1 t12) fun t13=>
opW (zba t13 H3) fun t14 H7=>
opP ((zta P .neq 3 true).f t14 (.int .i64 0)) fun t15=>
wIf t15 (
opP ((zDa P 27).f []) fun t16=>
opP (zca t0) fun t18=>
opP (zda 1 t18) fun t19=>
opW (zba t19 H7) fun t20 H13=>
opW (zla 36 t2 t16 H13) fun u H15=>
zPj (zVa [t19]) (zVa [t2,t16])∧(opW (zna 36 t2 H15) fun r _=>
K (.tuple [r,t20].toArray) H15)) (
opP (zWa 1 t10 (.int .i64 0)) fun t22=>
opW (zba t22 H7) fun t23 H19=>
opW (zob .i64 t23 H19) fun t24 H21=>
opP (zWa 1 t10 (.int .i64 1)) fun t26=>
opW (zba t26 H21) fun t27 H24=>
opW (zob .i64 t27 H24) fun t28 H26=>
opP ((zDa P 27).f [(0,t24),(1,t28)]) fun t29=>
zDb (zc P 27) H26 fun t5 H29=>
opW (zla 36 t5 t29 H29) fun u_1 H31=>
zbb P true 88 zrn 60 [t2,(.int .i64 0),t10,t5,(.int .u64 1),(.int .i64 0)] H31 (fun id l H33=>
cond (Nat.beq id 0) (
opP (zWa 1 (nth l 2) (.int .i64 10)) fun t49=>
opW (zba t49 H33) fun t50 H36=>
opW (zob .i64 t50 H36) fun t51 H38=>
opP (zWa 1 (nth l 2) (.int .i64 11)) fun t53=>
opW (zba t53 H38) fun t54 H41=>
opW (zob .i64 t54 H41) fun t55 H43=>
opP ((zta P .mul 3 true).f (.int .i64 256) t55) fun t56=>
opP ((zta P .add 3 false).f t51 t56) fun t57=>
opP (zWa 1 (nth l 2) (.int .i64 12)) fun t59=>
opW (zba t59 H43) fun t60 H48=>
opW (zob .i64 t60 H48) fun t61 H50=>
opP ((zta P .mul 3 true).f (.int .i64 65536) t61) fun t62=>
opP ((zta P .add 3 false).f t57 t62) fun t63=>
opP (zWa 1 (nth l 2) (.int .i64 13)) fun t65=>
opW (zba t65 H50) fun t66 H55=>
opW (zob .i64 t66 H55) fun t67 H57=>
opP ((zta P .mul 3 true).f (.int .i64 16777216) t67) fun t68=>
opP ((zta P .add 3 false).f t63 t68) fun t69=>
opP (zda 3 (nth l 3)) fun t70=>
opW (zla 1 t70 t69 H57) fun u_2 H62=>
zbb P true 88 zsn 44 [(nth l 0),(nth l 1),(nth l 2),(nth l 3),(.int .i64 0)] H62 (fun id l_1 H64=>
cond (Nat.beq id 2) (
opW (zna 36 (nth l_1 2) H64) fun t83 H66=>
wCall P zIc [t83] H66 fun t84 H68=>
opP (unA .not t84) fun t85=>
wIf t85 (
opP ((zDa P 27).f []) fun t86=>
opW (zla 36 (nth l_1 0) t86 H68) fun u_3 H72=>
opW (zna 36 (nth l_1 0) H72) fun r_1 _=>
K (.tuple [r_1,(.int .i64 101)].toArray) H72) (
opW (zna 36 (nth l_1 2) H68) fun t87 H75=>
opW (zla 36 (nth l_1 0) t87 H75) fun u_4 H77=>
opW (zna 36 (nth l_1 0) H77) fun r_2 _=>
K (.tuple [r_2,(.int .i64 0)].toArray) H77)) (
False)) (fun l_1 H64=>
opW (zna 36 (nth l_1 0) H64) fun r_3 _=>
K (.tuple [r_3,(nth l_1 1)].toArray) H64)) (
False)) (fun l H33=>
opW (zna 36 (nth l 0) H33) fun r_4 _=>
K (.tuple [r_4,(nth l 1)].toArray) H33))
theorem zvw{t0:Value}{H:Heap}{K:VH}(h:zav t0 H K):wCall P ztd [t0] H K:=zea rfl (Eq.mpr (by kernel_rfl) h)
noncomputable abbrev zfk:Code:=zMa P zJf 0
def zgk(l:List Value)(H:Heap)(N:LN)(Qx:LX)(Qr:LN):Prop:=
opP ((zta P .lss 3 false).f (nth l 5) (nth l 4)) fun t10=>
wIf t10 (
opP (zWa 1 (nth l 3) (nth l 5)) fun t11=>
opW (zba t11 H) fun t12 H3=>
opW (zob .u64 t12 H3) fun t16 H5=>
opP ((zta P .mul 23 false).f (nth l 2) t16) fun t17=>
opP ((zta P .add 23 false).f (nth l 1) t17) fun t18=>
opP ((zta P .mul 23 true).f (nth l 2) (.int .u64 256)) fun t20=>
opP ((zta P .add 3 true).f (nth l 5) (.int .i64 1)) fun t21=>
N [(nth l 0),t18,t20,(nth l 3),(nth l 4),t21] H5) (
Qx 0 [(nth l 0),(nth l 1)] H)
theorem ztm:LpI P 23 zfk 12 zgk:=.mk (by kernel_rfl) fun l H N Qx Qr=>by kernel_rfl
def zLp(t0:Value)(H:Heap)(K:VH):Prop:=
opW (lenSl t0 H) fun t8 H1=>
zbb P true 23 zfk 12 [(.int .u64 0),(.int .u64 0),(.int .u64 1),t0,t8,(.int .i64 0)] H1 (fun id l H3=>
cond (Nat.beq id 0) (
K (nth l 1) H3) (
False)) (fun l H3=>
K (nth l 0) H3)
theorem zFs{t0:Value}{H:Heap}{K:VH}(h:zLp t0 H K):wCall P zJf [t0] H K:=zea rfl (Eq.mpr (by kernel_rfl) h)
noncomputable abbrev zkj:Code:=zMa P zcb 0
def zlj(l:List Value)(H:Heap)(N:LN)(Qx:LX)(Qr:LN):Prop:=
opP ((zta P .lss 3 false).f (nth l 5) (nth l 4)) fun t15=>
wIf t15 (
opP (zWa 1 (nth l 3) (nth l 5)) fun t16=>
opW (zba t16 H) fun t17 H3=>
opW (zob .u64 t17 H3) fun t20 H5=>
opP ((zta P .mul 23 false).f t20 (nth l 2)) fun t22=>
opP ((zta P .add 23 false).f (nth l 1) t22) fun t23=>
opP ((zta P .mul 23 true).f (nth l 2) (.int .u64 256)) fun t25=>
opP ((zta P .add 3 true).f (nth l 5) (.int .i64 1)) fun t26=>
N [(nth l 0),t23,t25,(nth l 3),(nth l 4),t26] H5) (
Qx 0 [(nth l 0),(nth l 1)] H)
theorem zdl:LpI P 28 zkj 48 zlj:=.mk (by kernel_rfl) fun l H N Qx Qr=>by kernel_rfl
def zvn(t0 t1:Value)(H:Heap)(K:VH):Prop:=
wCall P zuh [t1] H fun t11 H1=>
wCall P zPi [t0,t11] H1 fun t12 H3=>
opW (lenSl t12 H3) fun t13 H5=>
zbb P true 28 zkj 48 [(.int .u64 0),(.int .u64 0),(.int .u64 1),t12,t13,(.int .i64 0)] H5 (fun id l H7=>
cond (Nat.beq id 0) (
K (nth l 1) H7) (
False)) (fun l H7=>
K (nth l 0) H7)
theorem zFq{t0 t1:Value}{H:Heap}{K:VH}(h:zvn t0 t1 H K):wCall P zcb [t0,t1] H K:=zea rfl (Eq.mpr (by kernel_rfl) h)
def zqy(t0:Value)(H:Heap)(K:VH):Prop:=
opP (zca t0) fun t4=>
opP (zda 1 t4) fun t5=>
opW (zba t5 H) fun t6 H3=>
opP ((zta P .eql 3 true).f t6 (.int .i64 0)) fun t7=>
wIf t7 (
opP (zca t0) fun t10=>
opP (zda 0 t10) fun t11=>
opW (zba t11 H3) fun t12 H8=>
opW (lenSl t12 H8) fun t13 H10=>
opP ((zta P .gtr 3 true).f t13 (.int .i64 0)) fun t14=>
opP (zra t7 t14 (.bool false)) fun t15=>
wIf t15 (
K (.int .i64 52) H10) (
opP (zca t0) fun t17=>
opP (zda 1 t17) fun t18=>
opW (zba t18 H10) fun t19 H16=>
K t19 H16)) (
opP (zra t7 undef (.bool false)) fun t15_1=>
wIf t15_1 (
K (.int .i64 52) H3) (
opP (zca t0) fun t17_1=>
opP (zda 1 t17_1) fun t18_1=>
opW (zba t18_1 H3) fun t19_1 H21=>
K t19_1 H21))
theorem zry{t0:Value}{H:Heap}{K:VH}(h:zqy t0 H K):wCall P zKi [t0] H K:=zea rfl (Eq.mpr (by kernel_rfl) h)
noncomputable abbrev zMp:Code:=zMa P zSg 0
def zNp(l:List Value)(H:Heap)(N:LN)(Qx:LX)(Qr:LN):Prop:=
opP ((zta P .lss 3 false).f (nth l 4) (nth l 3)) fun t8=>
wIf t8 (
opP (zWa 40 (nth l 2) (nth l 4)) fun t9=>
opW (zna 40 t9 H) fun t10 H3=>
zDb (zc P 74) H3 fun t4 H5=>
opW (zla 40 t4 t10 H5) fun u H7=>
opW (zna 40 t4 H7) fun t11 H9=>
wCall P znm [t11] H9 fun t12 H11=>
opP (unA .not t12) fun t13=>
wIf t13 (
Qr [(nth l 0),(.bool false)] H11) (
opP ((zta P .add 3 true).f (nth l 4) (.int .i64 1)) fun t14=>
N [(nth l 0),(nth l 1),(nth l 2),(nth l 3),t14] H11)) (
Qx 0 [(nth l 0),(nth l 1)] H)
theorem zGq:LpI P 18 zMp 5 zNp:=.mk (by kernel_rfl) fun l H N Qx Qr=>by kernel_rfl
def zsy(t0:Value)(H:Heap)(K:VH):Prop:=
opW (lenSl t0 H) fun t6 H1=>
zbb P true 18 zMp 5 [t0,(.bool false),t0,t6,(.int .i64 0)] H1 (fun id l H3=>
cond (Nat.beq id 0) (
opW (lenSl (nth l 0) H3) fun t16 H5=>
opP ((zta P .leq 3 true).f t16 (.int .i64 8)) fun t17=>
K t17 H5) (
False)) (fun l H3=>
K (nth l 1) H3)
theorem zty{t0:Value}{H:Heap}{K:VH}(h:zsy t0 H K):wCall P zSg [t0] H K:=zea rfl (Eq.mpr (by kernel_rfl) h)
noncomputable abbrev zlg:Code:=zMa P zac 0
def zmg(l:List Value)(H:Heap)(N:LN)(Qx:LX)(Qr:LN):Prop:=
opP ((zta P .lss 3 false).f (nth l 3) (nth l 2)) fun t11=>
wIf t11 (
opP (zWa 40 (nth l 1) (nth l 3)) fun t12=>
opW (zna 40 t12 H) fun t13 H3=>
zDb (zc P 74) H3 fun t4 H5=>
opW (zla 40 t4 t13 H5) fun u H7=>
opW (zna 40 t4 H7) fun t14 H9=>
wCall P zNe [t14] H9 fun t15 H11=>
opP (unA .not t15) fun t16=>
wIf t16 (
Qr [(.bool false)] H11) (
opP ((zta P .add 3 true).f (nth l 3) (.int .i64 1)) fun t17=>
N [(nth l 0),(nth l 1),(nth l 2),t17] H11)) (
Qx 0 [(nth l 0)] H)
theorem zci:LpI P 18 zlg 4 zmg:=.mk (by kernel_rfl) fun l H N Qx Qr=>by kernel_rfl
def zdi(t0:Value)(H:Heap)(K:VH):Prop:=
opW (lenSl t0 H) fun t6 H1=>
opP ((zta P .gtr 3 true).f t6 (.int .i64 8)) fun t7=>
wIf t7 (
K (.bool false) H1) (
opW (lenSl t0 H1) fun t9 H4=>
zbb P true 18 zlg 4 [(.bool false),t0,t9,(.int .i64 0)] H4 (fun id l H6=>
cond (Nat.beq id 0) (
K (.bool true) H6) (
False)) (fun l H6=>
K (nth l 0) H6))
theorem zel{t0:Value}{H:Heap}{K:VH}(h:zdi t0 H K):wCall P zac [t0] H K:=zea rfl (Eq.mpr (by kernel_rfl) h)
def zSf(t0:Value)(H:Heap)(K:VH):Prop:=
opP (zca t0) fun t4=>
opP (zda 6 t4) fun t5=>
opW (zba t5 H) fun t6 H3=>
K t6 H3
theorem zei{t0:Value}{H:Heap}{K:VH}(h:zSf t0 H K):wCall P zKc [t0] H K:=zea rfl (Eq.mpr (by kernel_rfl) h)
def zjf(t0 t1:Value)(H:Heap)(K:VH):Prop:=
opP (zca t0) fun t8=>
opP (zda 6 t8) fun t9=>
opW (zba t9 H) fun t10 H3=>
opP (unA .not t10) fun t11=>
wIf t11 (
K (.int .i64 91) H3) (
opP (zca t0) fun t13=>
opP (zda 4 t13) fun t14=>
opW (zba t14 H3) fun t15 H8=>
opP ((zta P .add 23 true).f t15 (.int .u64 1)) fun t16=>
wCall P zzf [(.int .u8 2),t16,t1] H8 fun t18 H11=>
zhb (fun J=>
opW (lenSl t18 H11) fun t20 H14=>
opP ((zta P .eql 3 true).f t20 (.int .i64 0)) fun t21=>
wIf t21 (
opP (zra t21 (.bool true) undef) fun t28=>
opP (zra t28 (.bool true) undef) fun t35=>
wIf t35 (
K (.int .i64 92) H14) (
J [t0,t18] H14)) (
opW (lenSl t18 H14) fun t24 H19=>
wCall P zgc [t0] H19 fun t26 H21=>
opP ((zta P .gtr 3 false).f t24 t26) fun t27=>
opP (zra t21 (.bool true) t27) fun t28_1=>
wIf t28_1 (
opP (zra t28_1 (.bool true) undef) fun t35_1=>
wIf t35_1 (
K (.int .i64 92) H21) (
J [t0,t18] H21)) (
opP (zca t0) fun t31=>
opP (zda 4 t31) fun t32=>
opW (zba t32 H21) fun t33 H28=>
opP ((zta P .geq 23 true).f t33 (.int .u64 4611686018427387904)) fun t34=>
opP (zra t28_1 (.bool true) t34) fun t35_2=>
wIf t35_2 (
K (.int .i64 92) H28) (
J [t0,t18] H28)))) (fun l H32=>
opP (zca (nth l 0)) fun t39=>
opP (zda 3 t39) fun t40=>
opW (zba t40 H32) fun t41 H36=>
opP (zca (nth l 0)) fun t42=>
opP (zda 1 t42) fun t43=>
opP (zUa 2 1 t43 t41) fun t44=>
opW (zba t44 H36) fun t45 H41=>
opP (zca (nth l 0)) fun t47=>
opP (zda 5 t47) fun t48=>
opW (zba t48 H41) fun t49 H45=>
wCall P zzb [(nth l 0),t45,t49,(nth l 1)] H45 fun t51 H47=>
opP ((zta P .neq 43 true).f t51 (.int .i64 0)) fun t53=>
wIf t53 (
opP (zca (nth l 0)) fun t55=>
opP (zda 6 t55) fun t56=>
opW (zla 1 t56 (.bool false) H47) fun u H52=>
K t51 H52) (
opP (zca (nth l 0)) fun t61=>
opP (zda 4 t61) fun t62=>
opW (zba t62 H47) fun t63 H56=>
opP ((zta P .add 23 true).f t63 (.int .u64 1)) fun t64=>
opP (zca (nth l 0)) fun t66=>
opP (zda 5 t66) fun t67=>
opW (zba t67 H56) fun t68 H61=>
opW (lenSl (nth l 1) H61) fun t70 H63=>
opP ((zta P .add 3 false).f t68 t70) fun t71=>
opP (zca (nth l 0)) fun t72=>
opP (zda 4 t72) fun t73=>
opW (zla 1 t73 t64 H63) fun u_1 H68=>
opP (zca (nth l 0)) fun t74=>
opP (zda 5 t74) fun t75=>
opW (zla 1 t75 t71 H68) fun u_2 H72=>
K (.int .i64 0) H72)))
theorem zNh{t0 t1:Value}{H:Heap}{K:VH}(h:zjf t0 t1 H K):wCall P zzc [t0,t1] H K:=zea rfl (Eq.mpr (by kernel_rfl) h)
noncomputable abbrev zOp:Code:=zMa P zLi 0
def zPp(l:List Value)(H:Heap)(N:LN)(Qx:LX)(Qr:LN):Prop:=
opP ((zta P .lss 3 false).f (nth l 4) (nth l 3)) fun t16=>
wIf t16 (
opP (zWa 40 (nth l 2) (nth l 4)) fun t17=>
opW (zna 40 t17 H) fun t18 H3=>
zDb (zc P 74) H3 fun t5 H5=>
opW (zla 40 t5 t18 H5) fun u H7=>
opP (zda 0 t5) fun t20=>
opW (zba t20 H7) fun t21 H10=>
opW (zob .u64 t21 H10) fun t22 H12=>
wCall P zSa [(nth l 1),t22,(.int .i64 1)] H12 fun t23 H14=>
opP (zda 0 t5) fun t24=>
opW (zba t24 H14) fun t25 H17=>
opP ((zta P .eql 3 true).f t25 (.int .i64 1)) fun t27=>
wIf t27 (
opP (zda 1 t5) fun t29=>
opW (zba t29 H17) fun t30 H21=>
opW (zob .u64 t30 H21) fun t31 H23=>
wCall P zSa [t23,t31,(.int .i64 1)] H23 fun t32 H25=>
opP (zda 3 t5) fun t33=>
opW (zna 36 t33 H25) fun t34 H28=>
zhc (zWb H23 H25) (zVa [t33])∧(wCall P zRf [t34] H28 fun t35 H30=>
opW ((zpa P 87 1).f [(0,t35)] H30) fun t36 H32=>
wCall P zAf [t32,t36] H32 fun t37 H34=>
opP ((zta P .add 3 true).f (nth l 4) (.int .i64 1)) fun t59=>
N [(nth l 0),t37,(nth l 2),(nth l 3),t59] H34)) (
opP ((zta P .eql 3 true).f t25 (.int .i64 2)) fun t39=>
wIf t39 (
opP (zda 2 t5) fun t41=>
opW (zba t41 H17) fun t42 H39=>
opW (zob .u64 t42 H39) fun t43 H41=>
wCall P zSa [t23,t43,(.int .i64 1)] H41 fun t44 H43=>
opP ((zta P .add 3 true).f (nth l 4) (.int .i64 1)) fun t59_1=>
N [(nth l 0),t44,(nth l 2),(nth l 3),t59_1] H43) (
opP ((zta P .eql 3 true).f t25 (.int .i64 3)) fun t46=>
wIf t46 (
opP (zda 2 t5) fun t48=>
opW (zba t48 H17) fun t49 H48=>
opP ((zta P .sub 3 true).f t49 (.int .i64 (-1))) fun t50=>
opW (zob .u64 t50 H48) fun t51 H51=>
wCall P zSa [t23,t51,(.int .i64 1)] H51 fun t52 H53=>
opP ((zta P .add 3 true).f (nth l 4) (.int .i64 1)) fun t59_2=>
N [(nth l 0),t52,(nth l 2),(nth l 3),t59_2] H53) (
opP ((zta P .eql 3 true).f t25 (.int .i64 4)) fun t54=>
wIf t54 (
opP (zda 39 t5) fun t56=>
opW (zba t56 H17) fun t57 H58=>
wCall P zSa [t23,t57,(.int .i64 8)] H58 fun t58 H60=>
opP ((zta P .add 3 true).f (nth l 4) (.int .i64 1)) fun t59_3=>
N [(nth l 0),t58,(nth l 2),(nth l 3),t59_3] H60) (
opP ((zta P .add 3 true).f (nth l 4) (.int .i64 1)) fun t59_4=>
N [(nth l 0),t23,(nth l 2),(nth l 3),t59_4] H17))))) (
Qx 0 [(nth l 0),(nth l 1)] H)
theorem zHq:LpI P 61 zOp 12 zPp:=.mk (by kernel_rfl) fun l H N Qx Qr=>by kernel_rfl
def zuy(t0:Value)(H:Heap)(K:VH):Prop:=
wCall P zac [t0] H fun t7 H1=>
opP (unA .not t7) fun t8=>
wIf t8 (
K (.slice none 0 0) H1) (
opW (lenSl t0 H1) fun t10 H4=>
opW (zob .u64 t10 H4) fun t11 H6=>
wCall P zSa [(.slice none 0 0),t11,(.int .i64 1)] H6 fun t12 H8=>
opW (lenSl t0 H8) fun t14 H10=>
zbb P true 61 zOp 12 [(.slice none 0 0),t12,t0,t14,(.int .i64 0)] H10 (fun id l H12=>
cond (Nat.beq id 0) (
K (nth l 1) H12) (
False)) (fun l H12=>
K (nth l 0) H12))
theorem zvy{t0:Value}{H:Heap}{K:VH}(h:zuy t0 H K):wCall P zLi [t0] H K:=zea rfl (Eq.mpr (by kernel_rfl) h)
def zTf(t0 t1:Value)(H:Heap)(K:VH):Prop:=
zhb (fun J=>
opW (lenSl t1 H) fun t13 H2=>
wCall P zbd [t0,t13] H2 fun t14 H4=>
opP (unA .not t14) fun t15=>
wIf t15 (
opP (zra t15 (.bool true) undef) fun t22=>
wIf t22 (
K (.int .i64 92) H4) (
J [t0,t1] H4)) (
opP (zca t0) fun t18=>
opP (zda 4 t18) fun t19=>
opW (zba t19 H4) fun t20 H10=>
opP ((zta P .geq 23 true).f t20 (.int .u64 4611686018427387904)) fun t21=>
opP (zra t15 (.bool true) t21) fun t22_1=>
wIf t22_1 (
K (.int .i64 92) H10) (
J [t0,t1] H10))) (fun l H14=>
opP (zca (nth l 0)) fun t24=>
opP (zda 6 t24) fun t25=>
opW (zla 1 t25 (.bool false) H14) fun u H18=>
opP (zca (nth l 0)) fun t27=>
opP (zda 3 t27) fun t28=>
opW (zba t28 H18) fun t29 H22=>
opP ((zta P .sub 3 true).f (.int .i64 1) t29) fun t30=>
opP (zca (nth l 0)) fun t33=>
opP (zda 1 t33) fun t34=>
opP (zUa 2 1 t34 t30) fun t35=>
opW (zba t35 H22) fun t36 H28=>
opP (zca (nth l 0)) fun t38=>
opP (zda 0 t38) fun t39=>
opW (zba t39 H28) fun t40 H32=>
wCall P zOe [t40,t36] H32 fun t42 H34=>
opP ((zta P .neq 43 true).f t42 (.int .i64 0)) fun t44=>
wIf t44 (
K t42 H34) (
opP (zca (nth l 0)) fun t47=>
opP (zda 0 t47) fun t48=>
opW (zba t48 H34) fun t49 H39=>
wCall P zPe [t49] H39 fun t50 H41=>
opP ((zta P .neq 43 true).f t50 (.int .i64 0)) fun t52=>
wIf t52 (
K t50 H41) (
opP (zca (nth l 0)) fun t55=>
opP (zda 4 t55) fun t56=>
opW (zba t56 H41) fun t57 H46=>
opP ((zta P .add 23 true).f t57 (.int .u64 1)) fun t58=>
wCall P zzf [(.int .u8 1),t58,(nth l 1)] H46 fun t60 H49=>
wCall P zzb [(nth l 0),t36,(.int .i64 0),t60] H49 fun t64 H51=>
opP ((zta P .neq 43 true).f t64 (.int .i64 0)) fun t66=>
wIf t66 (
K t64 H51) (
opP (zca (nth l 0)) fun t74=>
opP (zda 4 t74) fun t75=>
opW (zba t75 H51) fun t76 H56=>
opP ((zta P .add 23 true).f t76 (.int .u64 1)) fun t77=>
opW (lenSl t60 H56) fun t79 H59=>
opP (zca (nth l 0)) fun t80=>
opP (zda 3 t80) fun t81=>
opW (zla 1 t81 t30 H59) fun u_1 H63=>
opP (zca (nth l 0)) fun t82=>
opP (zda 4 t82) fun t83=>
opW (zla 1 t83 t77 H63) fun u_2 H67=>
opP (zca (nth l 0)) fun t84=>
opP (zda 5 t84) fun t85=>
opW (zla 1 t85 t79 H67) fun u_3 H71=>
opP (zca (nth l 0)) fun t86=>
opP (zda 6 t86) fun t87=>
opW (zla 1 t87 (.bool true) H71) fun u_4 H75=>
K (.int .i64 0) H75))))
theorem zfi{t0 t1:Value}{H:Heap}{K:VH}(h:zTf t0 t1 H K):wCall P zLc [t0,t1] H K:=zea rfl (Eq.mpr (by kernel_rfl) h)
def zGs(t0:Value)(H:Heap)(K:VH):Prop:=
zDb (zGa t0) H fun t1 H1=>
opW (zna 75 t1 H1) fun t4 H3=>
wCall P zEd [t4] H3 fun t5 H5=>
opP (unA .not t5) fun t6=>
wIf t6 (
K (.slice none 0 0) H5) (
opP (zda 0 t1) fun t7=>
opP (zUa 2 36 t7 (.int .i64 0)) fun t8=>
opW (zna 36 t8 H5) fun t9 H10=>
wCall P zRf [t9] H10 fun t10 H12=>
opP (zda 0 t1) fun t11=>
opP (zUa 2 36 t11 (.int .i64 1)) fun t12=>
opW (zna 36 t12 H12) fun t13 H16=>
zhc (zWb H10 H12) (zVa [t12])∧(wCall P zRf [t13] H16 fun t14 H18=>
opW ((zpa P 87 1).f [(0,t14)] H18) fun t15 H20=>
wCall P zAf [t10,t15] H20 fun t16 H22=>
opP (zda 72 t1) fun t18=>
opW (zba t18 H22) fun t19 H25=>
opW (zob .u64 t19 H25) fun t20 H27=>
wCall P zSa [t16,t20,(.int .i64 1)] H27 fun t21 H29=>
opP (zda 73 t1) fun t22=>
opW (zba t22 H29) fun t23 H32=>
zhc (zWb H27 H29) (zVa [t22])∧(opP ((zta P .sub 3 true).f t23 (.int .i64 (-1))) fun t24=>
opW (zob .u64 t24 H32) fun t25 H35=>
wCall P zSa [t21,t25,(.int .i64 1)] H35 fun t26 H37=>
opP (zda 74 t1) fun t28=>
opW (zba t28 H37) fun t29 H40=>
wCall P zSa [t26,t29,(.int .i64 8)] H40 fun t30 H42=>
K t30 H42)))
theorem zZt{t0:Value}{H:Heap}{K:VH}(h:zGs t0 H K):wCall P zMi [t0] H K:=zea rfl (Eq.mpr (by kernel_rfl) h)
noncomputable abbrev zwn:Code:=zMa P zme 0
def zxn(l:List Value)(H:Heap)(N:LN)(Qx:LX)(Qr:LN):Prop:=
opP ((zta P .mul 3 true).f (.int .i64 63) (nth l 2)) fun t11=>
opP ((zta P .add 3 true).f (nth l 0) (.int .i64 17)) fun t13=>
opP ((zta P .lss 3 false).f t11 t13) fun t14=>
wIf t14 (
opP ((zta P .add 3 true).f (nth l 2) (.int .i64 1)) fun t16=>
N [(nth l 0),(nth l 1),t16] H) (
Qx 0 [(nth l 1),(nth l 2)] H)
theorem zKo:LpI P 18 zwn 12 zxn:=.mk (by kernel_rfl) fun l H N Qx Qr=>by kernel_rfl
def zbv(t0:Value)(H:Heap)(K:VH):Prop:=
zhb (fun J=>
opP ((zta P .lss 3 true).f t0 (.int .i64 0)) fun t5=>
wIf t5 (
opP (zra t5 (.bool true) undef) fun t9=>
wIf t9 (
K (.int .i64 0) H) (
J [t0,(.int .i64 0)] H)) (
opP ((zta P .gtr 3 true).f t0 (.int .i64 4000)) fun t8=>
opP (zra t5 (.bool true) t8) fun t9_1=>
wIf t9_1 (
K (.int .i64 0) H) (
J [t0,(.int .i64 0)] H))) (fun l H6=>
zbb P true 18 zwn 12 [(nth l 0),(nth l 1),(.int .i64 0)] H6 (fun id l_1 H8=>
cond (Nat.beq id 0) (
K (nth l_1 1) H8) (
False)) (fun l_1 H8=>
K (nth l_1 0) H8))
theorem zww{t0:Value}{H:Heap}{K:VH}(h:zbv t0 H K):wCall P zme [t0] H K:=zea rfl (Eq.mpr (by kernel_rfl) h)
noncomputable abbrev zJl:Code:=zMa P zLe 0
def zKl(l:List Value)(H:Heap)(N:LN)(Qx:LX)(Qr:LN):Prop:=
opP ((zta P .lss 3 false).f (nth l 8) (nth l 7)) fun t28=>
wIf t28 (
opP (zWa 64 (nth l 6) (nth l 8)) fun t30=>
opW (zna 64 t30 H) fun t31 H3=>
zDb (zc P 84) H3 fun t14 H5=>
opW (zla 64 t14 t31 H5) fun u H7=>
opP (zca (nth l 0)) fun t33=>
opP (zda 0 t33) fun t34=>
opW (zba t34 H7) fun t35 H11=>
opP ((zta P .add 3 false).f (nth l 2) (nth l 8)) fun t39=>
opW (zna 64 t14 H11) fun t40 H14=>
wCall P zUg [t35,(nth l 1),t39,t40] H14 fun t41 H16=>
opP ((zta P .neq 3 true).f t41 (.int .i64 0)) fun t43=>
wIf t43 (
Qr [(nth l 0),(.int .i64 0),t41,(nth l 5)] H16) (
opP ((zta P .add 3 true).f (nth l 8) (.int .i64 1)) fun t45=>
N [(nth l 0),(nth l 1),(nth l 2),(nth l 3),(nth l 4),(nth l 5),(nth l 6),(nth l 7),t45] H16)) (
Qx 0 [(nth l 0),(nth l 3),(nth l 4),(nth l 5)] H)
theorem zyn:LpI P 56 zJl 7169 zKl:=.mk (by kernel_rfl) fun l H N Qx Qr=>by kernel_rfl
def zHs(t0 t1 t2 t3 t4:Value)(H:Heap)(K:VH):Prop:=
opP (zca t0) fun t18=>
opP (zda 5 t18) fun t19=>
opW (zba t19 H) fun t20 H3=>
opP ((zta P .add 23 true).f t20 (.int .u64 1)) fun t21=>
opW (zje t4 H3) fun t23 H6=>
wCall P zTg [t3,t21,t23] H6 fun t24 H8=>
opW (lenSl t24 H8) fun t26 H10=>
zbb P true 56 zJl 7169 [t0,t1,t2,(.int .i64 0),(.int .i64 0),t24,t24,t26,(.int .i64 0)] H10 (fun id l H12=>
cond (Nat.beq id 0) (
opW (lenSl (nth l 3) H12) fun t47 H14=>
opP (zca (nth l 0)) fun t49=>
opP (zda 0 t49) fun t50=>
opW (zba t50 H14) fun t51 H18=>
opP (zca t51) fun t52=>
opP (zda 0 t52) fun t53=>
opW (zba t53 H18) fun t54 H22=>
wCall P zne [t54] H22 fun t55 H24=>
K (.tuple [t47,t55].toArray) H24) (
False)) (fun l H12=>
K (.tuple [(nth l 1),(nth l 2)].toArray) H12)
theorem zau{t0 t1 t2 t3 t4:Value}{H:Heap}{K:VH}(h:zHs t0 t1 t2 t3 t4 H K):wCall P zLe [t0,t1,t2,t3,t4] H K:=zea rfl (Eq.mpr (by kernel_rfl) h)
def zIs(t0:Value)(H:Heap)(K:VH):Prop:=
zDb (zGa t0) H fun t1 H1=>
opW ((zpa P 50 0).f [] H1) fun t4 H3=>
opW (zna 36 t1 H3) fun t5 H5=>
wCall P zIc [t5] H5 fun t6 H7=>
opP (unA .not t6) fun t7=>
wIf t7 (
K t4 H7) (
opP (zda 0 t1) fun t10=>
opW (zba t10 H7) fun t11 H11=>
opW (zob .u8 t11 H11) fun t12 H13=>
opP (zda 1 t1) fun t13=>
opW (zba t13 H13) fun t14 H16=>
opW (zob .u8 t14 H16) fun t15 H18=>
opW ((zpa P 50 2).f [(0,t12),(1,t15)] H18) fun t16 H20=>
opW (zva 1 1 t4 t16 H20) fun t17 H22=>
opP (zda 2 t1) fun t19=>
opW (zba t19 H22) fun t20 H25=>
wCall P zHb [t20,(.int .i64 8)] H25 fun t21 H27=>
opW (zva 1 1 t17 t21 H27) fun t22 H29=>
opP (zda 3 t1) fun t24=>
opW (zba t24 H29) fun t25 H32=>
opW (zob .u64 t25 H32) fun t26 H34=>
wCall P zHb [t26,(.int .i64 4)] H34 fun t27 H36=>
opW (zva 1 1 t22 t27 H36) fun t28 H38=>
opP (zda 4 t1) fun t30=>
opP (zdc 32 1 t30 none none none H38) fun t31=>
opW (zva 1 1 t28 t31 H38) fun t32 H42=>
K t32 H42)
theorem zbu{t0:Value}{H:Heap}{K:VH}(h:zIs t0 H K):wCall P zMe [t0] H K:=zea rfl (Eq.mpr (by kernel_rfl) h)
noncomputable abbrev zLl:Code:=zMa P zHb 0
def zMl(l:List Value)(H:Heap)(N:LN)(Qx:LX)(Qr:LN):Prop:=
wCall P zuh [(nth l 1)] H fun t10 H1=>
opP ((zta P .lss 3 false).f (nth l 4) t10) fun t11=>
wIf t11 (
opP ((zta P .rem 23 true).f (nth l 0) (.int .u64 256)) fun t16=>
opW (zob .u8 t16 H1) fun t17 H5=>
opW ((zpa P 50 1).f [(0,t17)] H5) fun t18 H7=>
opW (zva 1 1 (nth l 3) t18 H7) fun t19 H9=>
opP ((zta P .quo 23 true).f (nth l 0) (.int .u64 256)) fun t21=>
opP ((zta P .add 3 true).f (nth l 4) (.int .i64 1)) fun t13=>
N [t21,(nth l 1),(nth l 2),t19,t13] H9) (
Qx 0 [(nth l 2),(nth l 3)] H1)
theorem zzn:LpI P 23 zLl 48 zMl:=.mk (by kernel_rfl) fun l H N Qx Qr=>by kernel_rfl
def zJs(t0 t1:Value)(H:Heap)(K:VH):Prop:=
opW ((zpa P 50 0).f [] H) fun t7 H1=>
zbb P true 23 zLl 48 [t0,t1,(.slice none 0 0),t7,(.int .i64 0)] H1 (fun id l H3=>
cond (Nat.beq id 0) (
K (nth l 1) H3) (
False)) (fun l H3=>
K (nth l 0) H3)
theorem zcu{t0 t1:Value}{H:Heap}{K:VH}(h:zJs t0 t1 H K):wCall P zHb [t0,t1] H K:=zea rfl (Eq.mpr (by kernel_rfl) h)
def zcv(t0 t1:Value)(H:Heap)(K:VH):Prop:=
wCall P zme [t1] H fun t7 H1=>
opP ((zta P .gtr 3 true).f t7 (.int .i64 0)) fun t9=>
wIf t9 (
opP (zca t0) fun t13=>
opP (zda 0 t13) fun t14=>
opW (zba t14 H1) fun t15 H6=>
opP (zca t15) fun t16=>
opP (zda 1 t16) fun t17=>
opW (zba t17 H6) fun t18 H10=>
opP (zca t0) fun t20=>
opP (zda 1 t20) fun t21=>
opP (zUa 2 1 t21 (.int .i64 0)) fun t22=>
opW (zba t22 H10) fun t23 H15=>
opP (zWa 1 t18 t23) fun t24=>
opW (zba t24 H15) fun t25 H18=>
opP ((zta P .leq 3 false).f t7 t25) fun t26=>
opP (zra t9 t26 (.bool false)) fun t27=>
wIf t27 (
opP (zca t0) fun t31=>
opP (zda 0 t31) fun t32=>
opW (zba t32 H18) fun t33 H24=>
opP (zca t33) fun t34=>
opP (zda 1 t34) fun t35=>
opW (zba t35 H24) fun t36 H28=>
opP (zca t0) fun t38=>
opP (zda 1 t38) fun t39=>
opP (zUa 2 1 t39 (.int .i64 1)) fun t40=>
opW (zba t40 H28) fun t41 H33=>
opP (zWa 1 t36 t41) fun t42=>
opW (zba t42 H33) fun t43 H36=>
opP ((zta P .leq 3 false).f t7 t43) fun t44=>
opP (zra t27 t44 (.bool false)) fun t45=>
K t45 H36) (
opP (zra t27 undef (.bool false)) fun t45_1=>
K t45_1 H18)) (
opP (zra t9 undef (.bool false)) fun t27_1=>
opP (zra t27_1 undef (.bool false)) fun t45_2=>
K t45_2 H1)
theorem zxw{t0 t1:Value}{H:Heap}{K:VH}(h:zcv t0 t1 H K):wCall P zVj [t0,t1] H K:=zea rfl (Eq.mpr (by kernel_rfl) h)
noncomputable abbrev zAn:Code:=zMa P zth 0
def zBn(l:List Value)(H:Heap)(N:LN)(Qx:LX)(Qr:LN):Prop:=
opP (zca (nth l 0)) fun t22=>
opP (zda 1 t22) fun t23=>
opW (zba t23 H) fun t24 H3=>
opP (zWa 1 t24 (nth l 1)) fun t26=>
opW (zba t26 H3) fun t27 H6=>
opP ((zta P .lss 3 false).f (nth l 3) t27) fun t28=>
wIf t28 (
wCall P zsh [(nth l 0),(nth l 1),(nth l 3)] H6 fun t35 H9=>
opP (zjc 0 t35) fun t36=>
opP (zjc 1 t35) fun t37=>
zDb (zc P 84) H9 fun t6 H13=>
opW (zla 64 t6 t36 H13) fun u H15=>
opW (zna 64 t6 H15) fun t38 H17=>
wCall P zHc [] H17 fun t39 H19=>
zhc (zWb H17 H19) (zVa [t6])∧(opP ((zta P .eql 84 false).f t38 t39) fun t40=>
wIf t40 (
opP ((zta P .add 3 true).f (nth l 3) (.int .i64 1)) fun t30=>
N [(nth l 0),(nth l 1),(nth l 2),t30] H19) (
wCall P zQi [(nth l 0),(nth l 1),(nth l 3)] H19 fun t44 H23=>
opP ((zta P .neq 3 true).f t44 (.int .i64 0)) fun t46=>
wIf t46 (
Qr [t44] H23) (
opP ((zta P .add 3 true).f (nth l 3) (.int .i64 1)) fun t30_1=>
N [(nth l 0),(nth l 1),(nth l 2),t30_1] H23)))) (
Qx 0 [(nth l 2)] H6)
theorem zLo:LpI P 48 zAn 16 zBn:=.mk (by kernel_rfl) fun l H N Qx Qr=>by kernel_rfl
def zdv(t0 t1:Value)(H:Heap)(K:VH):Prop:=
zhb (fun J=>
opP ((zta P .lss 3 true).f t1 (.int .i64 0)) fun t10=>
wIf t10 (
opP (zra t10 (.bool true) undef) fun t19=>
wIf t19 (
K (.int .i64 71) H) (
J [t0,t1,(.int .i64 0)] H)) (
opP (zca t0) fun t14=>
opP (zda 1 t14) fun t15=>
opW (zba t15 H) fun t16 H6=>
opW (lenSl t16 H6) fun t17 H8=>
opP ((zta P .geq 3 false).f t1 t17) fun t18=>
opP (zra t10 (.bool true) t18) fun t19_1=>
wIf t19_1 (
K (.int .i64 71) H8) (
J [t0,t1,(.int .i64 0)] H8))) (fun l H12=>
zbb P true 48 zAn 16 [(nth l 0),(nth l 1),(nth l 2),(.int .i64 0)] H12 (fun id l_1 H14=>
cond (Nat.beq id 0) (
K (.int .i64 0) H14) (
False)) (fun l_1 H14=>
K (nth l_1 0) H14))
theorem zyw{t0 t1:Value}{H:Heap}{K:VH}(h:zdv t0 t1 H K):wCall P zth [t0,t1] H K:=zea rfl (Eq.mpr (by kernel_rfl) h)
end
end J
