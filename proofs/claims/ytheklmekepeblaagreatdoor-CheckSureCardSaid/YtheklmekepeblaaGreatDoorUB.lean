/- texts of the proof, one behind the other -/
import Derived.KernelRfl
import Derived.Test.YtheklmekepeblaaGreatDoorUA
set_option linter.unusedSimpArgs false
set_option linter.unusedSectionVars false
set_option linter.unusedVariables false
set_option maxRecDepth 100000
namespace J
open Go Go.Ab
noncomputable abbrev P:Program:=Go.Proofs.Tryz.prog
noncomputable section
abbrev zLb:Nat:=3
abbrev zbd:Nat:=4
abbrev zAg:Nat:=5
abbrev zpc:Nat:=7
abbrev zFf:Nat:=8
abbrev znb:Nat:=9
abbrev zNa:Nat:=10
abbrev zPd:Nat:=11
abbrev zsa:Nat:=12
abbrev zua:Nat:=13
abbrev zya:Nat:=14
abbrev zTa:Nat:=15
abbrev zPa:Nat:=16
abbrev zod:Nat:=17
abbrev zGf:Nat:=18
abbrev zib:Nat:=19
abbrev zWd:Nat:=20
abbrev zNi:Nat:=21
abbrev zGa:Nat:=22
abbrev zob:Nat:=23
abbrev zfc:Nat:=24
abbrev zTb:Nat:=25
abbrev ztc:Nat:=32
abbrev zUb:Nat:=33
abbrev zic:Nat:=34
abbrev zCb:Nat:=35
abbrev zLc:Nat:=36
abbrev zcb:Nat:=37
abbrev zjc:Nat:=38
abbrev zyc:Nat:=39
abbrev zzc:Nat:=40
abbrev zuc:Nat:=41
abbrev zIb:Nat:=42
abbrev zMc:Nat:=43
abbrev zHf:Nat:=44
abbrev zUg:Nat:=45
abbrev zqc:Nat:=46
abbrev zef:Nat:=47
abbrev zQh:Nat:=48
abbrev zVg:Nat:=49
abbrev zvb:Nat:=50
abbrev zIf:Nat:=51
abbrev zgc:Nat:=52
abbrev zQd:Nat:=53
abbrev zgb:Nat:=54
abbrev zzd:Nat:=60
abbrev zQa:Nat:=61
abbrev zkc:Nat:=62
abbrev zJk:Nat:=63
abbrev zOi:Nat:=64
abbrev zKk:Nat:=65
abbrev zRd:Nat:=66
abbrev zff:Nat:=67
abbrev zPi:Nat:=68
abbrev zRh:Nat:=69
abbrev zQi:Nat:=70
abbrev zoe:Nat:=71
abbrev zLk:Nat:=72
abbrev zkh:Nat:=73
abbrev zWa:Nat:=75
abbrev zSh:Nat:=76
abbrev zTh:Nat:=77
abbrev zol:Nat:=78
abbrev zMd:Nat:=79
abbrev zmc:Nat:=80
abbrev zRi:Nat:=81
abbrev zgf:Nat:=82
abbrev zWf:Nat:=83
abbrev zpd:Nat:=84
abbrev zLa:Nat:=85
abbrev zBg:Nat:=86
abbrev zlh:Nat:=87
abbrev zUh:Nat:=88
abbrev zAd:Nat:=92
abbrev zVe:Nat:=93
abbrev zGj:Nat:=94
abbrev zjb:Nat:=95
abbrev zhf:Nat:=96
abbrev zpe:Nat:=97
abbrev zqe:Nat:=98
abbrev zNd:Nat:=99
abbrev zWe:Nat:=100
abbrev zSi:Nat:=101
abbrev zCg:Nat:=102
abbrev zWg:Nat:=103
abbrev zrc:Nat:=104
abbrev zVh:Nat:=110
abbrev zqd:Nat:=111
abbrev zVb:Nat:=112
abbrev zWh:Nat:=113
abbrev zcd:Nat:=114
abbrev zXe:Nat:=115
abbrev zre:Nat:=121
abbrev zXg:Nat:=122
abbrev zNc:Nat:=123
abbrev zab:Nat:=129
abbrev zDc:Nat:=133
instance:Orc:=Seal.orcS2
instance (priority:=1) noBase:Base:=⟨fun _=>none,0⟩
theorem zZC{s:ByteArray}(hs:s.size < 4611686018427387904)(H:Heap):Orc.tab 101 [Value.string s] H=some (.int .i64 (Seal.nmF s s.size 0 0)):=by
 show cond (Nat.blt s.size 4611686018427387904) (some (Value.int .i64 (Seal.nmF s s.size 0 0))) none=_
 rw[show Nat.blt s.size 4611686018427387904=true from by rw[blt_eq]; exact decide_eq_true hs]
 rfl
theorem zTi{P:Program}{me:zSj}{f:FuncId}{args:List Value}{H:Heap}{v:Value}(h:Orc.tab f args H=some v):zFx P me (.call f args H)=some ⟨.ret,[v],H⟩:=by
 unfold zFx
 simp only[h]
theorem zQo{H:Heap}{K:VH}{s:ByteArray}(hs:s.size < 4611686018427387904)(hk:K (.int .i64 (Seal.nmF s s.size 0 0)) H):wCall P zSi [.string s] H K:=
 ⟨1,.ret,_,H,zTi (zZC hs H),hk⟩
theorem zRx{r:Int}(h1:-2147483648≤r)(h2:r≤2147483647)(H:Heap):Orc.tab 86 [Value.int .i32 r] H=some (.bool (Go.Lib.isLetterU r)):=by
 show cond (decide (-2147483648≤r) && decide (r≤2147483647)) (some (Value.bool (Go.Lib.isLetterU r))) none=_
 rw[decide_eq_true h1,decide_eq_true h2]; rfl
theorem zxA{r:Int}(h1:-2147483648≤r)(h2:r≤2147483647)(H:Heap):Orc.tab 87 [Value.int .i32 r] H=some (.bool (Go.Lib.isDigitU r)):=by
 show cond (decide (-2147483648≤r) && decide (r≤2147483647)) (some (Value.bool (Go.Lib.isDigitU r))) none=_
 rw[decide_eq_true h1,decide_eq_true h2]; rfl
theorem zmv{H:Heap}{K:VH}{r:Int}(h1:-2147483648≤r)(h2:r≤2147483647)(hk:K (.bool (Go.Lib.isLetterU r)) H):wCall P zBg [.int .i32 r] H K:=
 ⟨1,.ret,_,H,zTi (zRx h1 h2 H),hk⟩
theorem zSx{H:Heap}{K:VH}{r:Int}(h1:-2147483648≤r)(h2:r≤2147483647)(hk:K (.bool (Go.Lib.isDigitU r)) H):wCall P zlh [.int .i32 r] H K:=
 ⟨1,.ret,_,H,zTi (zxA h1 h2 H),hk⟩
theorem zaD{s:ByteArray}(hs:s.size≤35184372088832)(H:Heap):Orc.tab 102 [Value.string s] H=some (.string (Seal.foldF s)):=by
 show cond (Nat.ble s.size 35184372088832) (some (Value.string (Seal.foldF s))) none=_
 rw[Nat.ble_eq_true_of_le hs]
 rfl
theorem zRo{H:Heap}{K:VH}{s:ByteArray}(hs:s.size≤35184372088832)(hk:K (.string (Seal.foldF s)) H):wCall P zCg [.string s] H K:=
 ⟨1,.ret,_,H,zTi (zaD hs H),hk⟩
theorem zoF(r:Int)(H:Heap):Orc.tab 73 [Value.int .i32 r] H=some (.int .i32 (Go.Lib.toLowerU r)):=rfl
theorem zTx{H:Heap}{K:VH}{r:Int}(hk:K (.int .i32 (Go.Lib.toLowerU r)) H):wCall P zkh [.int .i32 r] H K:=
 ⟨1,.ret,.int .i32 (Go.Lib.toLowerU r),H,zTi (P:=P) (me:=zQf P 0) (zoF r H),hk⟩
noncomputable abbrev zDg:Code:=zEb P zLb 0
noncomputable abbrev zse:Code:=zEb P zLb 1
noncomputable abbrev zdd:Code:=zEb P zLb 2
noncomputable abbrev zed:Code:=zEb P zLb 3
def zfd(l:List Value)(H:Heap)(N:LN)(Qx:LX)(Qr:LN):Prop:=
opP ((zna P .lss 3 false).f (nth l 10) (nth l 9)) fun t45=>
wIf t45 (
opP (zYc 3 (nth l 8) (nth l 10)) fun t46=>
opW (zma 3 t46 H) fun t47 H3=>
zNb (zc P 45) H3 fun t12 H5=>
opW (zla 3 t12 t47 H5) fun u H7=>
opP (zfa 0 t12) fun t48=>
opW (zca t48 H7) fun t49 H10=>
opP ((zna P .eql 3 true).f t49 (.int .i64 1)) fun t50=>
wIf t50 (
zec (fun J=>
opP (zfa 1 t12) fun t52=>
opW (zma 2 t52 H10) fun t53 H15=>
wCall P zsa [(nth l 2),t53] H15 fun t54 H17=>
wIf t54 (
opP (zfa 1 t12) fun t56=>
opP (zfa 0 t56) fun t57=>
opW (zca t57 H17) fun t58 H21=>
opP ((zna P .eql 3 true).f t58 (.int .i64 (-1))) fun t59=>
opP (zga t54 t59 (.bool false)) fun t60=>
J [(nth l 0),(nth l 1),(nth l 2),(nth l 3),(nth l 4),(nth l 5),(nth l 6),(nth l 7),t12,(nth l 8),(nth l 9),(nth l 10),t60] H21) (
opP (zga t54 undef (.bool false)) fun t60_1=>
J [(nth l 0),(nth l 1),(nth l 2),(nth l 3),(nth l 4),(nth l 5),(nth l 6),(nth l 7),t12,(nth l 8),(nth l 9),(nth l 10),t60_1] H17)) (fun l_1 H26=>
wIf (nth l_1 12) (
opP (zfa 1 (nth l_1 8)) fun t62=>
opP (zfa 1 t62) fun t63=>
opW (zca t63 H26) fun t64 H30=>
opW (zfb t64 H30) fun t65 H32=>
opW ((zia P 43 1).f [(0,t65)] H32) fun t66 H34=>
opW (zqa 1 16 (nth l_1 7) t66 H34) fun t67 H36=>
opP ((zna P .add 3 true).f (nth l_1 11) (.int .i64 1)) fun t84=>
N [(nth l_1 0),(nth l_1 1),(nth l_1 2),(nth l_1 3),(nth l_1 4),(nth l_1 5),(nth l_1 6),t67,(nth l_1 9),(nth l_1 10),t84] H36) (
opP ((zna P .add 3 true).f (nth l_1 11) (.int .i64 1)) fun t84_1=>
N [(nth l_1 0),(nth l_1 1),(nth l_1 2),(nth l_1 3),(nth l_1 4),(nth l_1 5),(nth l_1 6),(nth l_1 7),(nth l_1 9),(nth l_1 10),t84_1] H26))) (
wCall P zua [(nth l 5)] H10 fun t69 H40=>
ztb P true 217 zse 30786325579764 [(nth l 0),(nth l 1),(nth l 2),(nth l 3),(nth l 4),(nth l 5),(nth l 6),(nth l 7),(nth l 8),(nth l 9),(nth l 10)] H40 (fun id l_2 H42=>
cond (Nat.beq id 2) (
wCall P zPa [(nth l_2 3)] H42 fun t83 H44=>
opP ((zna P .add 3 true).f (nth l_2 10) (.int .i64 1)) fun t84_2=>
N [(nth l_2 0),(nth l_2 1),(nth l_2 2),(nth l_2 3),(nth l_2 4),(nth l_2 5),(nth l_2 6),(nth l_2 7),(nth l_2 8),(nth l_2 9),t84_2] H44) (
cond (Nat.beq id 1) (
opP ((zna P .add 3 true).f (nth l_2 10) (.int .i64 1)) fun t84_3=>
N [(nth l_2 0),(nth l_2 1),(nth l_2 2),(nth l_2 3),(nth l_2 4),(nth l_2 5),(nth l_2 6),(nth l_2 7),(nth l_2 8),(nth l_2 9),t84_3] H42) (
Qx id [(nth l_2 0),(nth l_2 1),(nth l_2 6),(nth l_2 7)] H42))) (fun l_2 H42=>
Qr [(nth l_2 0),(nth l_2 1),(nth l_2 6),(nth l_2 7)] H42))) (
Qx 0 [(nth l 0),(nth l 1),(nth l 6),(nth l 7)] H)
theorem zvi:LpI P 217 zDg 1556 zfd:=.mk (by kernel_rfl) fun l H N Qx Qr=>by kernel_rfl
def zEg(l:List Value)(H:Heap)(N:LN)(Qx:LX)(Qr:LN):Prop:=
opP ((zna P .lss 3 false).f (nth l 9) (nth l 8)) fun t102=>
wIf t102 (
opP (zYc 1 (nth l 7) (nth l 9)) fun t103=>
opW (zca t103 H) fun t104 H3=>
wIf (nth l 6) (
opP (zga (nth l 6) (.bool true) undef) fun t125=>
opP ((zna P .add 3 true).f (nth l 9) (.int .i64 1)) fun t126=>
N [(nth l 0),(nth l 1),(nth l 2),(nth l 3),(nth l 4),(nth l 5),t125,(nth l 7),(nth l 8),t126] H3) (
opP ((zna P .eql 3 true).f (nth l 5) (.int .i64 0)) fun t108=>
wIf t108 (
opW (zIo t104 H3) fun t111 H8=>
opW (lenSl (nth l 4) H8) fun t113 H10=>
opP ((zna P .geq 3 false).f t111 t113) fun t114=>
opP (zga t108 t114 (.bool false)) fun t115=>
wIf t115 (
opW (lenSl (nth l 4) H10) fun t119 H14=>
opP (zbf t104 none (some t119) none) fun t120=>
opW (zfb (nth l 4) H14) fun t122 H17=>
opP ((zna P .eql 9 false).f t120 t122) fun t123=>
opP (zga t115 t123 (.bool false)) fun t124=>
opP (zga (nth l 6) (.bool true) t124) fun t125_1=>
opP ((zna P .add 3 true).f (nth l 9) (.int .i64 1)) fun t126_1=>
N [(nth l 0),(nth l 1),(nth l 2),(nth l 3),(nth l 4),(nth l 5),t125_1,(nth l 7),(nth l 8),t126_1] H17) (
opP (zga t115 undef (.bool false)) fun t124_1=>
opP (zga (nth l 6) (.bool true) t124_1) fun t125_2=>
opP ((zna P .add 3 true).f (nth l 9) (.int .i64 1)) fun t126_2=>
N [(nth l 0),(nth l 1),(nth l 2),(nth l 3),(nth l 4),(nth l 5),t125_2,(nth l 7),(nth l 8),t126_2] H10)) (
opP (zga t108 undef (.bool false)) fun t115_1=>
opP (zga t115_1 undef (.bool false)) fun t124_2=>
opP (zga (nth l 6) (.bool true) t124_2) fun t125_3=>
opP ((zna P .add 3 true).f (nth l 9) (.int .i64 1)) fun t126_3=>
N [(nth l 0),(nth l 1),(nth l 2),(nth l 3),(nth l 4),(nth l 5),t125_3,(nth l 7),(nth l 8),t126_3] H3))) (
Qx 4 [(nth l 0),(nth l 1),(nth l 2),(nth l 3),(nth l 4),(nth l 6)] H)
theorem zwi:LpI P 217 zdd 360980 zEg:=.mk (by kernel_rfl) fun l H N Qx Qr=>by kernel_rfl
def zFg(l:List Value)(H:Heap)(N:LN)(Qx:LX)(Qr:LN):Prop:=
opP ((zna P .lss 3 false).f (nth l 5) (nth l 4)) fun t166=>
wIf t166 (
opP (zYc 41 (nth l 3) (nth l 5)) fun t168=>
opW (zma 41 t168 H) fun t169 H3=>
zNb (zc P 54) H3 fun t23 H5=>
opW (zla 41 t23 t169 H5) fun u H7=>
opP (zfa 36 (nth l 1)) fun t171=>
opW (zca t171 H7) fun t172 H10=>
opW (lenSl t172 H10) fun t173 H12=>
opP ((zna P .eql 3 false).f (nth l 5) t173) fun t174=>
wIf t174 (
opP (zfa 0 t23) fun t175=>
opW (zca t175 H12) fun t176 H16=>
opP ((zna P .eql 3 true).f t176 (.int .i64 4)) fun t177=>
wIf t177 (
wCall P zib [(nth l 2)] H16 fun t180 H19=>
opP (zfa 4 (nth l 1)) fun t181=>
opW (zma 32 t181 H19) fun t182 H22=>
zmb (zkb H16 H19) (zJa [t181])∧(opP ((zna P .eql 49 false).f t180 t182) fun t183=>
opP (zga t177 t183 (.bool false)) fun t184=>
wIf t184 (
opW (lenSl (nth l 2) H22) fun t187 H26=>
opP (zfa 2 (nth l 1)) fun t188=>
opW (zca t188 H26) fun t189 H29=>
opP ((zna P .eql 3 false).f t187 t189) fun t190=>
opP (zga t184 t190 (.bool false)) fun t191=>
Qr [t191] H29) (
opP (zga t184 undef (.bool false)) fun t191_1=>
Qr [t191_1] H22))) (
opP (zga t177 undef (.bool false)) fun t184_1=>
opP (zga t184_1 undef (.bool false)) fun t191_2=>
Qr [t191_2] H16)) (
opP (zfa 0 t23) fun t192=>
opW (zca t192 H12) fun t193 H37=>
opP ((zna P .neq 3 true).f t193 (.int .i64 3)) fun t194=>
wIf t194 (
opP (zga t194 (.bool true) undef) fun t200=>
opP (zga t200 (.bool true) undef) fun t211=>
wIf t211 (
Qr [(.bool false)] H37) (
opP (zfa 40 t23) fun t213=>
opW (zca t213 H37) fun t214 H43=>
opW (zqa 1 1 (nth l 2) t214 H43) fun t215 H45=>
opP ((zna P .add 3 true).f (nth l 5) (.int .i64 1)) fun t216=>
N [(nth l 0),(nth l 1),t215,(nth l 3),(nth l 4),t216] H45)) (
opP (zfa 1 t23) fun t196=>
opW (zca t196 H37) fun t197 H49=>
opP ((zna P .neq 3 false).f t197 (nth l 5)) fun t199=>
opP (zga t194 (.bool true) t199) fun t200_1=>
wIf t200_1 (
opP (zga t200_1 (.bool true) undef) fun t211_1=>
wIf t211_1 (
Qr [(.bool false)] H49) (
opP (zfa 40 t23) fun t213_1=>
opW (zca t213_1 H49) fun t214_1 H55=>
opW (zqa 1 1 (nth l 2) t214_1 H55) fun t215_1 H57=>
opP ((zna P .add 3 true).f (nth l 5) (.int .i64 1)) fun t216_1=>
N [(nth l 0),(nth l 1),t215_1,(nth l 3),(nth l 4),t216_1] H57)) (
opP (zfa 40 t23) fun t202=>
opW (zca t202 H49) fun t203 H61=>
wCall P zib [t203] H61 fun t204 H63=>
opP (zfa 36 (nth l 1)) fun t205=>
opW (zca t205 H63) fun t206 H66=>
zmb (zkb H61 H63) (zJa [t205])∧(opP (zYc 32 t206 (nth l 5)) fun t208=>
opW (zma 32 t208 H66) fun t209 H69=>
zmb (zkb H61 H63) (zJa [t208])∧(opP ((zna P .neq 49 false).f t204 t209) fun t210=>
opP (zga t200_1 (.bool true) t210) fun t211_2=>
wIf t211_2 (
Qr [(.bool false)] H69) (
opP (zfa 40 t23) fun t213_2=>
opW (zca t213_2 H69) fun t214_2 H74=>
opW (zqa 1 1 (nth l 2) t214_2 H74) fun t215_2 H76=>
opP ((zna P .add 3 true).f (nth l 5) (.int .i64 1)) fun t216_2=>
N [(nth l 0),(nth l 1),t215_2,(nth l 3),(nth l 4),t216_2] H76))))))) (
Qx 6 [(nth l 0)] H)
theorem zxi:LpI P 217 zed 16 zFg:=.mk (by kernel_rfl) fun l H N Qx Qr=>by kernel_rfl
def zGg(l:List Value)(H:Heap)(N:LN)(Qx:LX)(Qr:LN):Prop:=
wCall P zya [(nth l 4)] H fun t71 H1=>
opP ((zna P .gtr 3 true).f t71 (.int .i64 0)) fun t72=>
wIf t72 (
wCall P zTa [(nth l 4)] H1 fun t75 H4=>
opP (zFc 0 t75) fun t76=>
opP (zFc 1 t75) fun t77=>
zNb (zc P 54) H4 fun t13 H8=>
opW (zla 41 t13 t76 H8) fun u H10=>
opW (zma 41 t13 H10) fun t79 H12=>
opW ((zia P 42 1).f [(0,t79)] H12) fun t80 H14=>
opW (zqa 41 144 (nth l 6) t80 H14) fun t81 H16=>
N [(nth l 0),(nth l 1),(nth l 2),(nth l 3),(nth l 4),(nth l 5),t81,(nth l 7),(nth l 8),(nth l 9),(nth l 10)] H16) (
Qx 2 [(nth l 0),(nth l 1),(nth l 2),(nth l 3),(nth l 4),(nth l 5),(nth l 6),(nth l 7),(nth l 8),(nth l 9),(nth l 10)] H1)
theorem zyi:LpI P 217 zse 30786325579764 zGg:=.mk (by kernel_rfl) fun l H N Qx Qr=>by kernel_rfl
def zUi(t0 t1:Value)(H:Heap)(K:VH):Prop:=
zNb (zBa t0) H fun t2 H1=>
wCall P zpc [] H1 fun t24 H3=>
opP (unA .not t24) fun t25=>
wIf t25 (
K (.bool false) H3) (
opW (zma 7 t2 H3) fun t26 H6=>
wCall P zFf [t26,t1] H6 fun t28 H8=>
wIf t28 (
K (.bool true) H8) (
wCall P znb [(.int .i64 16)] H8 fun t29 H10=>
wCall P zNa [(.int .i64 16)] H10 fun t30 H12=>
wCall P zNa [(.int .i64 16)] H12 fun t31 H14=>
opP (zfa 0 t2) fun t32=>
opW (zca t32 H14) fun t33 H17=>
opP (zfa 1 t2) fun t34=>
opW (zma 3 t34 H17) fun t35 H20=>
wCall P zPd [t33,t35,t29,t30,t31] H20 fun t39 H22=>
opW ((zia P 42 0).f [] H22) fun t40 H24=>
opW ((zia P 43 0).f [] H24) fun t41 H26=>
opW (lenSl t1 H26) fun t43 H28=>
ztb P true 217 zDg 1556 [t2,(.bool false),t29,t30,t31,t39,t40,t41,t1,t43,(.int .i64 0)] H28 (fun id l H30=>
cond (Nat.beq id 0) (
opW (lenSl (nth l 2) H30) fun t86 H32=>
opP ((zna P .eql 3 true).f t86 (.int .i64 0)) fun t87=>
wIf t87 (
K (.bool true) H32) (
opP (zYc 41 (nth l 2) (.int .i64 0)) fun t89=>
opP (zfa 3 t89) fun t90=>
opW (zma 37 t90 H32) fun t91 H37=>
zNb (zc P 52) H37 fun t15 H39=>
opW (zla 37 t15 t91 H39) fun u H41=>
opP (zfa 0 (nth l 0)) fun t93=>
opW (zca t93 H41) fun t94 H44=>
opW (zma 37 t15 H44) fun t95 H46=>
wCall P zod [t94,t95] H46 fun t96 H48=>
opP (zFc 0 t96) fun t97=>
opP (zFc 1 t96) fun t98=>
opW (lenSl (nth l 3) H48) fun t100 H52=>
ztb P true 217 zdd 360980 [(nth l 0),(nth l 1),(nth l 2),t15,t97,t98,(.bool false),(nth l 3),t100,(.int .i64 0)] H52 (fun id l_1 H54=>
cond (Nat.beq id 4) (
zec (fun J=>
opP (zYc 41 (nth l_1 2) (.int .i64 0)) fun t128=>
opP (zfa 0 t128) fun t129=>
opW (zca t129 H54) fun t130 H59=>
opP ((zna P .neq 3 true).f t130 (.int .i64 2)) fun t131=>
wIf t131 (
opP (zga t131 (.bool true) undef) fun t135=>
opP (zga t135 (.bool true) undef) fun t144=>
opP (zga t144 (.bool true) undef) fun t151=>
opP (zga t151 (.bool true) undef) fun t160=>
wIf t160 (
K (.bool false) H59) (
J [(nth l_1 1),(nth l_1 2),(nth l_1 3)] H59)) (
opP (unA .not (nth l_1 5)) fun t134=>
opP (zga t131 (.bool true) t134) fun t135_1=>
wIf t135_1 (
opP (zga t135_1 (.bool true) undef) fun t144_1=>
opP (zga t144_1 (.bool true) undef) fun t151_1=>
opP (zga t151_1 (.bool true) undef) fun t160_1=>
wIf t160_1 (
K (.bool false) H59) (
J [(nth l_1 1),(nth l_1 2),(nth l_1 3)] H59)) (
opP (zYc 41 (nth l_1 2) (.int .i64 0)) fun t138=>
opP (zfa 2 t138) fun t139=>
opW (zca t139 H59) fun t140 H73=>
opW (lenSl (nth l_1 4) H73) fun t142 H75=>
opP ((zna P .neq 3 false).f t140 t142) fun t143=>
opP (zga t135_1 (.bool true) t143) fun t144_2=>
wIf t144_2 (
opP (zga t144_2 (.bool true) undef) fun t151_2=>
opP (zga t151_2 (.bool true) undef) fun t160_2=>
wIf t160_2 (
K (.bool false) H75) (
J [(nth l_1 1),(nth l_1 2),(nth l_1 3)] H75)) (
opW (zma 37 (nth l_1 3) H75) fun t146 H81=>
opP (zfa 1 (nth l_1 0)) fun t147=>
opW (zma 3 t147 H81) fun t148 H84=>
wCall P zGf [t146,t148] H84 fun t149 H86=>
opP ((zna P .neq 3 true).f t149 (.int .i64 0)) fun t150=>
opP (zga t144_2 (.bool true) t150) fun t151_3=>
wIf t151_3 (
opP (zga t151_3 (.bool true) undef) fun t160_3=>
wIf t160_3 (
K (.bool false) H86) (
J [(nth l_1 1),(nth l_1 2),(nth l_1 3)] H86)) (
opW (lenSl (nth l_1 2) H86) fun t154 H91=>
opP (zfa 36 (nth l_1 3)) fun t155=>
opW (zca t155 H91) fun t156 H94=>
opW (lenSl t156 H94) fun t157 H96=>
opP ((zna P .add 3 true).f t157 (.int .i64 2)) fun t158=>
opP ((zna P .gtr 3 false).f t154 t158) fun t159=>
opP (zga t151_3 (.bool true) t159) fun t160_4=>
wIf t160_4 (
K (.bool false) H96) (
J [(nth l_1 1),(nth l_1 2),(nth l_1 3)] H96)))))) (fun l_2 H101=>
opW ((zia P 22 0).f [] H101) fun t161 H103=>
opP (zVa 41 (nth l_2 1) (some (.int .i64 1)) none none) fun t163=>
opW (lenSl t163 H103) fun t164 H106=>
ztb P true 217 zed 16 [(nth l_2 0),(nth l_2 2),t161,t163,t164,(.int .i64 0)] H106 (fun id l_3 H108=>
cond (Nat.beq id 6) (
K (.bool true) H108) (
False)) (fun l_3 H108=>
K (nth l_3 0) H108))) (
False)) (fun l_1 H54=>
K (nth l_1 1) H54))) (
False)) (fun l H30=>
K (nth l 1) H30)))
theorem zpl{t0 t1:Value}{H:Heap}{K:VH}(h:zUi t0 t1 H K):wCall P zLb [t0,t1] H K:=zea rfl (Eq.mpr (by kernel_rfl) h)
noncomputable abbrev zXf:Code:=zEb P zbd 0
noncomputable abbrev zSd:Code:=zEb P zbd 1
def zOc(l:List Value)(H:Heap)(N:LN)(Qx:LX)(Qr:LN):Prop:=
opP ((zna P .lss 3 false).f (nth l 11) (nth l 10)) fun t73=>
wIf t73 (
opW (zma 37 (nth l 4) H) fun t76 H2=>
wCall P zNi [t76,(nth l 11)] H2 fun t78 H4=>
opP (zFc 0 t78) fun t79=>
opP (zFc 1 t78) fun t80=>
zec (fun J=>
opW (lenSl (nth l 1) H4) fun t83 H9=>
opP ((zna P .lss 3 false).f (nth l 11) t83) fun t84=>
wIf t84 (
opP (zYc 1 (nth l 1) (nth l 11)) fun t87=>
opW (zca t87 H9) fun t88 H13=>
opW (zbc .i64 t88 H13) fun t89 H15=>
opP ((zna P .rem 3 true).f t89 (.int .i64 4)) fun t90=>
J [(nth l 0),(nth l 1),(nth l 2),(nth l 3),(nth l 4),(nth l 5),(nth l 6),(nth l 7),(nth l 8),(nth l 9),(nth l 11),t79,t80,t90,(nth l 10),(nth l 11)] H15) (
J [(nth l 0),(nth l 1),(nth l 2),(nth l 3),(nth l 4),(nth l 5),(nth l 6),(nth l 7),(nth l 8),(nth l 9),(nth l 11),t79,t80,(.int .i64 0),(nth l 10),(nth l 11)] H9)) (fun l_1 H18=>
ztb P true 239 zSd 7083549724304468342983 [(nth l_1 0),(nth l_1 1),(nth l_1 2),(nth l_1 3),(nth l_1 4),(nth l_1 5),(nth l_1 6),(nth l_1 7),(nth l_1 8),(nth l_1 9),(nth l_1 10),(nth l_1 11),(nth l_1 12),(nth l_1 13),(.int .i64 0),(nth l_1 14),(nth l_1 15)] H18 (fun id l_2 H20=>
cond (Nat.beq id 2) (
opP ((zna P .add 3 true).f (nth l_2 10) (.int .i64 1)) fun t140=>
opW (zbc .i64 (nth l_2 2) H20) fun t142 H23=>
opP ((zna P .add 3 false).f t140 t142) fun t143=>
opP ((zna P .add 3 false).f (nth l_2 11) (nth l_2 12)) fun t150=>
opP (zVa 1 (nth l_2 0) (some (nth l_2 11)) (some t150) none) fun t151=>
opP ((zDa P 35).f [(0,t143),(1,t151)]) fun t152=>
wCall P zsa [(nth l_2 5),t152] H23 fun t153 H29=>
zec (fun J_1=>
wCall P zua [(nth l_2 8)] H29 fun t155 H32=>
opP (unA .not t155) fun t156=>
wIf t156 (
opP (zga t156 (.bool true) undef) fun t161=>
opP (zga t161 (.bool true) undef) fun t166=>
opP (zga t166 (.bool true) undef) fun t172=>
wIf t172 (
Qr [(nth l_2 0),(.bool false),(nth l_2 7),(nth l_2 8),(nth l_2 9)] H32) (
J_1 [(nth l_2 0),(nth l_2 1),(nth l_2 2),(nth l_2 3),(nth l_2 4),(nth l_2 5),(nth l_2 6),(nth l_2 7),(nth l_2 8),(nth l_2 9),(nth l_2 10),(nth l_2 11),(nth l_2 12),(nth l_2 13),(nth l_2 14)] H32)) (
wCall P zya [(nth l_2 6)] H32 fun t159 H38=>
opP ((zna P .neq 3 true).f t159 (.int .i64 0)) fun t160=>
opP (zga t156 (.bool true) t160) fun t161_1=>
wIf t161_1 (
opP (zga t161_1 (.bool true) undef) fun t166_1=>
opP (zga t166_1 (.bool true) undef) fun t172_1=>
wIf t172_1 (
Qr [(nth l_2 0),(.bool false),(nth l_2 7),(nth l_2 8),(nth l_2 9)] H38) (
J_1 [(nth l_2 0),(nth l_2 1),(nth l_2 2),(nth l_2 3),(nth l_2 4),(nth l_2 5),(nth l_2 6),(nth l_2 7),(nth l_2 8),(nth l_2 9),(nth l_2 10),(nth l_2 11),(nth l_2 12),(nth l_2 13),(nth l_2 14)] H38)) (
wCall P zya [(nth l_2 7)] H38 fun t164 H44=>
opP ((zna P .neq 3 true).f t164 (.int .i64 0)) fun t165=>
opP (zga t161_1 (.bool true) t165) fun t166_2=>
wIf t166_2 (
opP (zga t166_2 (.bool true) undef) fun t172_2=>
wIf t172_2 (
Qr [(nth l_2 0),(.bool false),(nth l_2 7),(nth l_2 8),(nth l_2 9)] H44) (
J_1 [(nth l_2 0),(nth l_2 1),(nth l_2 2),(nth l_2 3),(nth l_2 4),(nth l_2 5),(nth l_2 6),(nth l_2 7),(nth l_2 8),(nth l_2 9),(nth l_2 10),(nth l_2 11),(nth l_2 12),(nth l_2 13),(nth l_2 14)] H44)) (
wCall P zGa [(nth l_2 8)] H44 fun t169 H49=>
opP ((zna P .neq 3 false).f t169 (nth l_2 10)) fun t171=>
opP (zga t166_2 (.bool true) t171) fun t172_3=>
wIf t172_3 (
Qr [(nth l_2 0),(.bool false),(nth l_2 7),(nth l_2 8),(nth l_2 9)] H49) (
J_1 [(nth l_2 0),(nth l_2 1),(nth l_2 2),(nth l_2 3),(nth l_2 4),(nth l_2 5),(nth l_2 6),(nth l_2 7),(nth l_2 8),(nth l_2 9),(nth l_2 10),(nth l_2 11),(nth l_2 12),(nth l_2 13),(nth l_2 14)] H49))))) (fun l_3 H53=>
opP ((zna P .add 3 false).f (nth l_3 11) (nth l_3 12)) fun t179=>
opP (zVa 1 (nth l_3 0) (some (nth l_3 11)) (some t179) none) fun t180=>
opP ((zDa P 35).f [(0,(nth l_3 10)),(1,t180)]) fun t181=>
wCall P zsa [(nth l_3 5),t181] H53 fun t182 H58=>
zec (fun J_2=>
wCall P zua [(nth l_3 8)] H58 fun t184 H61=>
opP (unA .not t184) fun t185=>
wIf t185 (
opP (zga t185 (.bool true) undef) fun t190=>
wIf t190 (
Qr [(nth l_3 0),(.bool false),(nth l_3 7),(nth l_3 8),(nth l_3 9)] H61) (
J_2 [(nth l_3 0),(nth l_3 1),(nth l_3 2),(nth l_3 3),(nth l_3 4),(nth l_3 5),(nth l_3 6),(nth l_3 7),(nth l_3 8),(nth l_3 9),(nth l_3 13),(nth l_3 14)] H61)) (
wCall P zya [(nth l_3 6)] H61 fun t188 H65=>
opP ((zna P .neq 3 true).f t188 (.int .i64 0)) fun t189=>
opP (zga t185 (.bool true) t189) fun t190_1=>
wIf t190_1 (
Qr [(nth l_3 0),(.bool false),(nth l_3 7),(nth l_3 8),(nth l_3 9)] H65) (
J_2 [(nth l_3 0),(nth l_3 1),(nth l_3 2),(nth l_3 3),(nth l_3 4),(nth l_3 5),(nth l_3 6),(nth l_3 7),(nth l_3 8),(nth l_3 9),(nth l_3 13),(nth l_3 14)] H65))) (fun l_4 H69=>
wCall P zTa [(nth l_4 7)] H69 fun t193 H71=>
opP (zFc 0 t193) fun t194=>
opP (zFc 1 t193) fun t195=>
zNb (zc P 54) H71 fun t24 H75=>
opW (zla 41 t24 t194 H75) fun u H77=>
zec (fun J_3=>
opP (unA .not t195) fun t197=>
wIf t197 (
opP (zga t197 (.bool true) undef) fun t202=>
wIf t202 (
Qr [(nth l_4 0),(.bool false),(nth l_4 7),(nth l_4 8),(nth l_4 9)] H77) (
J_3 [(nth l_4 0),(nth l_4 1),(nth l_4 2),(nth l_4 3),(nth l_4 4),(nth l_4 5),(nth l_4 6),(nth l_4 7),(nth l_4 8),(nth l_4 9),t24,(nth l_4 10),(nth l_4 11)] H77)) (
opP (zfa 0 t24) fun t199=>
opW (zca t199 H77) fun t200 H83=>
opP ((zna P .neq 3 true).f t200 (.int .i64 3)) fun t201=>
opP (zga t197 (.bool true) t201) fun t202_1=>
wIf t202_1 (
Qr [(nth l_4 0),(.bool false),(nth l_4 7),(nth l_4 8),(nth l_4 9)] H83) (
J_3 [(nth l_4 0),(nth l_4 1),(nth l_4 2),(nth l_4 3),(nth l_4 4),(nth l_4 5),(nth l_4 6),(nth l_4 7),(nth l_4 8),(nth l_4 9),t24,(nth l_4 10),(nth l_4 11)] H83))) (fun l_5 H87=>
opP (zfa 40 (nth l_5 10)) fun t204=>
opW (zca t204 H87) fun t205 H90=>
opW (zfb t205 H90) fun t206 H92=>
opP ((zna P .add 9 false).f (nth l_5 9) t206) fun t207=>
opP ((zna P .add 3 true).f (nth l_5 12) (.int .i64 1)) fun t208=>
N [(nth l_5 0),(nth l_5 1),(nth l_5 2),(nth l_5 3),(nth l_5 4),(nth l_5 5),(nth l_5 6),(nth l_5 7),(nth l_5 8),t207,(nth l_5 11),t208] H92)))) (
cond (Nat.beq id 1) (
opP ((zna P .add 3 true).f (nth l_2 14) (.int .i64 1)) fun t208_1=>
N [(nth l_2 0),(nth l_2 1),(nth l_2 2),(nth l_2 3),(nth l_2 4),(nth l_2 5),(nth l_2 6),(nth l_2 7),(nth l_2 8),(nth l_2 9),(nth l_2 13),t208_1] H20) (
Qx id [(nth l_2 0),(nth l_2 3),(nth l_2 7),(nth l_2 8),(nth l_2 9)] H20))) (fun l_2 H20=>
Qr [(nth l_2 0),(nth l_2 3),(nth l_2 7),(nth l_2 8),(nth l_2 9)] H20))) (
Qx 0 [(nth l 0),(nth l 3),(nth l 7),(nth l 8),(nth l 9)] H)
theorem zXh:LpI P 239 zXf 57409 zOc:=.mk (by kernel_rfl) fun l H N Qx Qr=>by kernel_rfl
def zYf(l:List Value)(H:Heap)(N:LN)(Qx:LX)(Qr:LN):Prop:=
opP ((zna P .lss 3 false).f (nth l 14) (nth l 13)) fun t93=>
wIf t93 (
opP ((zna P .add 3 false).f (nth l 11) (nth l 12)) fun t102=>
opP ((zna P .sub 3 true).f t102 (.int .i64 1)) fun t103=>
opP (zVa 1 (nth l 0) (some (nth l 11)) (some t103) none) fun t104=>
opP ((zDa P 35).f [(0,(nth l 10)),(1,t104)]) fun t105=>
wCall P zsa [(nth l 5),t105] H fun t106 H6=>
wCall P zua [(nth l 8)] H6 fun t108 H8=>
opP (unA .not t108) fun t109=>
wIf t109 (
Qr [(nth l 0),(nth l 1),(nth l 2),(.bool false),(nth l 4),(nth l 5),(nth l 6),(nth l 7),(nth l 8),(nth l 9),(nth l 10),(nth l 11),(nth l 12),(nth l 15),(nth l 16)] H8) (
wCall P zTa [(nth l 6)] H8 fun t112 H11=>
opP (zFc 0 t112) fun t113=>
opP (zFc 1 t112) fun t114=>
zNb (zc P 54) H11 fun t21 H15=>
opW (zla 41 t21 t113 H15) fun u H17=>
opP (unA .not t114) fun t116=>
wIf t116 (
opP (zga t116 (.bool true) undef) fun t121=>
opP (zga t121 (.bool true) undef) fun t127=>
opP (zga t127 (.bool true) undef) fun t132=>
opP (zga t132 (.bool true) undef) fun t138=>
wIf t138 (
Qr [(nth l 0),(nth l 1),(nth l 2),(.bool false),(nth l 4),(nth l 5),(nth l 6),(nth l 7),(nth l 8),(nth l 9),(nth l 10),(nth l 11),(nth l 12),(nth l 15),(nth l 16)] H17) (
opP ((zna P .add 3 true).f (nth l 14) (.int .i64 1)) fun t95=>
N [(nth l 0),(nth l 1),(nth l 2),(nth l 3),(nth l 4),(nth l 5),(nth l 6),(nth l 7),(nth l 8),(nth l 9),(nth l 10),(nth l 11),(nth l 12),(nth l 13),t95,(nth l 15),(nth l 16)] H17)) (
opP (zfa 0 t21) fun t118=>
opW (zca t118 H17) fun t119 H26=>
opP ((zna P .neq 3 true).f t119 (.int .i64 1)) fun t120=>
opP (zga t116 (.bool true) t120) fun t121_1=>
wIf t121_1 (
opP (zga t121_1 (.bool true) undef) fun t127_1=>
opP (zga t127_1 (.bool true) undef) fun t132_1=>
opP (zga t132_1 (.bool true) undef) fun t138_1=>
wIf t138_1 (
Qr [(nth l 0),(nth l 1),(nth l 2),(.bool false),(nth l 4),(nth l 5),(nth l 6),(nth l 7),(nth l 8),(nth l 9),(nth l 10),(nth l 11),(nth l 12),(nth l 15),(nth l 16)] H26) (
opP ((zna P .add 3 true).f (nth l 14) (.int .i64 1)) fun t95_1=>
N [(nth l 0),(nth l 1),(nth l 2),(nth l 3),(nth l 4),(nth l 5),(nth l 6),(nth l 7),(nth l 8),(nth l 9),(nth l 10),(nth l 11),(nth l 12),(nth l 13),t95_1,(nth l 15),(nth l 16)] H26)) (
opP (zfa 1 t21) fun t123=>
opW (zca t123 H26) fun t124 H35=>
opP ((zna P .neq 3 false).f t124 (nth l 10)) fun t126=>
opP (zga t121_1 (.bool true) t126) fun t127_2=>
wIf t127_2 (
opP (zga t127_2 (.bool true) undef) fun t132_2=>
opP (zga t132_2 (.bool true) undef) fun t138_2=>
wIf t138_2 (
Qr [(nth l 0),(nth l 1),(nth l 2),(.bool false),(nth l 4),(nth l 5),(nth l 6),(nth l 7),(nth l 8),(nth l 9),(nth l 10),(nth l 11),(nth l 12),(nth l 15),(nth l 16)] H35) (
opP ((zna P .add 3 true).f (nth l 14) (.int .i64 1)) fun t95_2=>
N [(nth l 0),(nth l 1),(nth l 2),(nth l 3),(nth l 4),(nth l 5),(nth l 6),(nth l 7),(nth l 8),(nth l 9),(nth l 10),(nth l 11),(nth l 12),(nth l 13),t95_2,(nth l 15),(nth l 16)] H35)) (
wCall P zya [(nth l 7)] H35 fun t130 H42=>
opP ((zna P .neq 3 true).f t130 (.int .i64 0)) fun t131=>
opP (zga t127_2 (.bool true) t131) fun t132_3=>
wIf t132_3 (
opP (zga t132_3 (.bool true) undef) fun t138_3=>
wIf t138_3 (
Qr [(nth l 0),(nth l 1),(nth l 2),(.bool false),(nth l 4),(nth l 5),(nth l 6),(nth l 7),(nth l 8),(nth l 9),(nth l 10),(nth l 11),(nth l 12),(nth l 15),(nth l 16)] H42) (
opP ((zna P .add 3 true).f (nth l 14) (.int .i64 1)) fun t95_3=>
N [(nth l 0),(nth l 1),(nth l 2),(nth l 3),(nth l 4),(nth l 5),(nth l 6),(nth l 7),(nth l 8),(nth l 9),(nth l 10),(nth l 11),(nth l 12),(nth l 13),t95_3,(nth l 15),(nth l 16)] H42)) (
wCall P zGa [(nth l 8)] H42 fun t135 H48=>
opP ((zna P .neq 3 false).f t135 (nth l 10)) fun t137=>
opP (zga t132_3 (.bool true) t137) fun t138_4=>
wIf t138_4 (
Qr [(nth l 0),(nth l 1),(nth l 2),(.bool false),(nth l 4),(nth l 5),(nth l 6),(nth l 7),(nth l 8),(nth l 9),(nth l 10),(nth l 11),(nth l 12),(nth l 15),(nth l 16)] H48) (
opP ((zna P .add 3 true).f (nth l 14) (.int .i64 1)) fun t95_4=>
N [(nth l 0),(nth l 1),(nth l 2),(nth l 3),(nth l 4),(nth l 5),(nth l 6),(nth l 7),(nth l 8),(nth l 9),(nth l 10),(nth l 11),(nth l 12),(nth l 13),t95_4,(nth l 15),(nth l 16)] H48))))))) (
Qx 2 [(nth l 0),(nth l 1),(nth l 2),(nth l 3),(nth l 4),(nth l 5),(nth l 6),(nth l 7),(nth l 8),(nth l 9),(nth l 10),(nth l 11),(nth l 12),(nth l 15),(nth l 16)] H)
theorem zYh:LpI P 239 zSd 7083549724304468342983 zYf:=.mk (by kernel_rfl) fun l H N Qx Qr=>by kernel_rfl
def zli(t0 t1 t2:Value)(H:Heap)(K:VH):Prop:=
wCall P zpc [] H fun t28 H1=>
opP (unA .not t28) fun t29=>
wIf t29 (
K (.bool false) H1) (
zec (fun J=>
opW (lenSl t0 H1) fun t31 H5=>
opP ((zna P .gtr 3 true).f t31 (.int .i64 600)) fun t32=>
wIf t32 (
opP (zga t32 (.bool true) undef) fun t37=>
wIf t37 (
K (.bool true) H5) (
J [t0,t1,t2,(.bool false)] H5)) (
opW (lenSl t1 H5) fun t35 H9=>
opP ((zna P .gtr 3 true).f t35 (.int .i64 20)) fun t36=>
opP (zga t32 (.bool true) t36) fun t37_1=>
wIf t37_1 (
K (.bool true) H9) (
J [t0,t1,t2,(.bool false)] H9))) (fun l H13=>
wCall P zWd [(.string ⟨#[99,111,114,101]⟩),(.int .u64 3),(.int .i64 64),(nth l 0)] H13 fun t40 H15=>
opP (zFc 0 t40) fun t41=>
opP (zFc 1 t40) fun t42=>
zNb (zc P 52) H15 fun t7 H19=>
opW (zla 37 t7 t41 H19) fun u H21=>
opP ((zna P .neq 3 true).f t42 (.int .i64 0)) fun t44=>
wIf t44 (
K (.bool true) H21) (
opW (zma 37 t7 H21) fun t46 H24=>
wCall P zod [(.slice none 0 0),t46] H24 fun t47 H26=>
opP (zFc 0 t47) fun t48=>
opP (zFc 1 t47) fun t49=>
wCall P znb [(.int .i64 1)] H26 fun t50 H30=>
wCall P zNa [(.int .i64 1)] H30 fun t51 H32=>
wCall P zNa [(.int .i64 1)] H32 fun t52 H34=>
opP ((zDa P 25).f [(0,(.string ⟨#[67,79,82,69]⟩)),(2,(.int .i64 600)),(1,(.int .u64 3))]) fun t53=>
wCall P zPd [(.slice none 0 0),t53,t50,t51,t52] H34 fun t57 H37=>
opP ((zDa P 35).f [(0,(.int .i64 (-1))),(1,t48)]) fun t60=>
wCall P zsa [t50,t60] H37 fun t61 H40=>
wCall P zua [t57] H40 fun t63 H42=>
opP (unA .not t63) fun t64=>
wIf t64 (
K (.bool false) H42) (
wCall P zPa [t51] H42 fun t66 H45=>
wCall P zPa [t52] H45 fun t68 H47=>
opP (zfa 36 t7) fun t69=>
opW (zca t69 H47) fun t70 H50=>
opW (lenSl t70 H50) fun t71 H52=>
ztb P true 239 zXf 57409 [(nth l 0),(nth l 1),(nth l 2),(nth l 3),t7,t50,t51,t52,t57,(.string ⟨#[]⟩),t71,(.int .i64 0)] H52 (fun id l_1 H54=>
cond (Nat.beq id 0) (
zec (fun J_1=>
wCall P zua [(nth l_1 3)] H54 fun t210 H57=>
opP (unA .not t210) fun t211=>
wIf t211 (
opP (zga t211 (.bool true) undef) fun t216=>
wIf t216 (
K (.bool false) H57) (
J_1 [(nth l_1 0),(nth l_1 2),(nth l_1 3),(nth l_1 4)] H57)) (
wCall P zob [(nth l_1 3)] H57 fun t214 H61=>
opP (unA .not t214) fun t215=>
opP (zga t211 (.bool true) t215) fun t216_1=>
wIf t216_1 (
K (.bool false) H61) (
J_1 [(nth l_1 0),(nth l_1 2),(nth l_1 3),(nth l_1 4)] H61))) (fun l_2 H65=>
wCall P zTa [(nth l_2 1)] H65 fun t219 H67=>
opP (zFc 0 t219) fun t220=>
opP (zFc 1 t219) fun t221=>
zNb (zc P 54) H67 fun t26 H71=>
opW (zla 41 t26 t220 H71) fun u_1 H73=>
wIf t221 (
opP (zfa 0 t26) fun t224=>
opW (zca t224 H73) fun t225 H76=>
opP ((zna P .eql 3 true).f t225 (.int .i64 4)) fun t226=>
opP (zga t221 t226 (.bool false)) fun t227=>
wIf t227 (
opW (zfb (nth l_2 0) H76) fun t231 H80=>
opP ((zna P .eql 9 false).f (nth l_2 3) t231) fun t232=>
opP (zga t227 t232 (.bool false)) fun t233=>
wIf t233 (
wCall P zfc [(nth l_2 2)] H80 fun t236 H84=>
opP ((zna P .eql 67 true).f t236 (.int .i64 0)) fun t237=>
opP (zga t233 t237 (.bool false)) fun t238=>
K t238 H84) (
opP (zga t233 undef (.bool false)) fun t238_1=>
K t238_1 H80)) (
opP (zga t227 undef (.bool false)) fun t233_1=>
opP (zga t233_1 undef (.bool false)) fun t238_2=>
K t238_2 H76)) (
opP (zga t221 undef (.bool false)) fun t227_1=>
opP (zga t227_1 undef (.bool false)) fun t233_2=>
opP (zga t233_2 undef (.bool false)) fun t238_3=>
K t238_3 H73))) (
False)) (fun l_1 H54=>
K (nth l_1 1) H54)))))
theorem zMk{t0 t1 t2:Value}{H:Heap}{K:VH}(h:zli t0 t1 t2 H K):wCall P zbd [t0,t1,t2] H K:=zea rfl (Eq.mpr (by kernel_rfl) h)
def zmi(H:Heap)(K:VH):Prop:=
wCall P zpc [] H fun t19 H1=>
opP (unA .not t19) fun t20=>
wIf t20 (
K (.bool false) H1) (
opW ((zia P 22 1).f [(0,(.int .u8 120))] H1) fun t22 H4=>
opW (zSf t22 H4) fun t23 H6=>
wCall P zWd [(.string ⟨#[99,111,114,101]⟩),(.int .u64 3),(.int .i64 64),t23] H6 fun t24 H8=>
opP (zFc 0 t24) fun t25=>
opP (zFc 1 t24) fun t26=>
zNb (zc P 52) H8 fun t1 H12=>
opW (zla 37 t1 t25 H12) fun u H14=>
opW ((zia P 22 3).f [(0,(.int .u8 107)),(1,(.int .u8 101)),(2,(.int .u8 121))] H14) fun t28 H16=>
opW (zSf t28 H16) fun t29 H18=>
opW (zma 37 t1 H18) fun t30 H20=>
wCall P zod [t29,t30] H20 fun t31 H22=>
opP (zFc 0 t31) fun t32=>
opP (zFc 1 t31) fun t33=>
wCall P znb [(.int .i64 4)] H22 fun t34 H26=>
wCall P zNa [(.int .i64 4)] H26 fun t35 H28=>
wCall P zNa [(.int .i64 4)] H28 fun t36 H30=>
opW ((zia P 22 3).f [(0,(.int .u8 107)),(1,(.int .u8 101)),(2,(.int .u8 121))] H30) fun t37 H32=>
opW (zSf t37 H32) fun t38 H34=>
opP ((zDa P 25).f [(0,(.string ⟨#[99,111,114,101]⟩)),(2,(.int .i64 100)),(1,(.int .u64 4))]) fun t39=>
wCall P zPd [t38,t39,t34,t35,t36] H34 fun t43 H37=>
opW (lenSl t32 H37) fun t47 H39=>
opP ((zna P .sub 3 true).f t47 (.int .i64 1)) fun t48=>
opP (zVa 1 t32 none (some t48) none) fun t49=>
opP ((zDa P 35).f [(0,(.int .i64 (-1))),(1,t49)]) fun t50=>
wCall P zsa [t34,t50] H39 fun t51 H44=>
opP ((zDa P 35).f [(0,(.int .i64 0))]) fun t53=>
wCall P zsa [t34,t53] H44 fun t54 H47=>
opP ((zDa P 35).f [(0,(.int .i64 (-1))),(1,t32)]) fun t57=>
wCall P zsa [t34,t57] H47 fun t58 H50=>
wCall P zua [t43] H50 fun t60 H52=>
wCall P zua [t43] H52 fun t62 H54=>
wCall P zua [t43] H54 fun t64 H56=>
wCall P zua [t43] H56 fun t66 H58=>
wCall P zTa [t35] H58 fun t69 H60=>
opP (zFc 0 t69) fun t70=>
opP (zFc 1 t69) fun t71=>
zNb (zc P 54) H60 fun t13 H64=>
opW (zla 41 t13 t70 H64) fun u_1 H66=>
wCall P zTa [t35] H66 fun t74 H68=>
opP (zFc 0 t74) fun t75=>
opP (zFc 1 t74) fun t76=>
zNb (zc P 54) H68 fun t15 H72=>
opW (zla 41 t15 t75 H72) fun u_2 H74=>
wCall P zTb [t43] H74 fun t79 H76=>
opP (zFc 0 t79) fun t80=>
opP (zFc 1 t79) fun t81=>
zNb (zc P 52) H76 fun t17 H80=>
opW (zla 37 t17 t80 H80) fun u_3 H82=>
wIf t60 (
opP (zga t60 t62 (.bool false)) fun t85=>
wIf t85 (
opP (zga t85 t64 (.bool false)) fun t88=>
wIf t88 (
opP (unA .not t66) fun t91=>
opP (zga t88 t91 (.bool false)) fun t92=>
wIf t92 (
wCall P zfc [t43] H82 fun t95 H88=>
opP ((zna P .eql 67 true).f t95 (.int .i64 144)) fun t96=>
opP (zga t92 t96 (.bool false)) fun t97=>
wIf t97 (
opP (zga t97 t71 (.bool false)) fun t100=>
wIf t100 (
opP (zfa 0 t13) fun t102=>
opW (zca t102 H88) fun t103 H94=>
opP ((zna P .eql 3 true).f t103 (.int .i64 1)) fun t104=>
opP (zga t100 t104 (.bool false)) fun t105=>
wIf t105 (
opP (zfa 1 t13) fun t107=>
opW (zca t107 H94) fun t108 H99=>
opP ((zna P .eql 3 true).f t108 (.int .i64 (-1))) fun t109=>
opP (zga t105 t109 (.bool false)) fun t110=>
wIf t110 (
opP (unA .not t76) fun t113=>
opP (zga t110 t113 (.bool false)) fun t114=>
wIf t114 (
opP (unA .not t81) fun t117=>
opP (zga t114 t117 (.bool false)) fun t118=>
wIf t118 (
wCall P zya [t36] H99 fun t121 H107=>
opP ((zna P .eql 3 true).f t121 (.int .i64 0)) fun t122=>
opP (zga t118 t122 (.bool false)) fun t123=>
wIf t123 (
wCall P zob [t43] H107 fun t126 H111=>
opP (unA .not t126) fun t127=>
opP (zga t123 t127 (.bool false)) fun t128=>
K t128 H111) (
opP (zga t123 undef (.bool false)) fun t128_1=>
K t128_1 H107)) (
opP (zga t118 undef (.bool false)) fun t123_1=>
opP (zga t123_1 undef (.bool false)) fun t128_2=>
K t128_2 H99)) (
opP (zga t114 undef (.bool false)) fun t118_1=>
opP (zga t118_1 undef (.bool false)) fun t123_2=>
opP (zga t123_2 undef (.bool false)) fun t128_3=>
K t128_3 H99)) (
opP (zga t110 undef (.bool false)) fun t114_1=>
opP (zga t114_1 undef (.bool false)) fun t118_2=>
opP (zga t118_2 undef (.bool false)) fun t123_3=>
opP (zga t123_3 undef (.bool false)) fun t128_4=>
K t128_4 H99)) (
opP (zga t105 undef (.bool false)) fun t110_1=>
opP (zga t110_1 undef (.bool false)) fun t114_2=>
opP (zga t114_2 undef (.bool false)) fun t118_3=>
opP (zga t118_3 undef (.bool false)) fun t123_4=>
opP (zga t123_4 undef (.bool false)) fun t128_5=>
K t128_5 H94)) (
opP (zga t100 undef (.bool false)) fun t105_1=>
opP (zga t105_1 undef (.bool false)) fun t110_2=>
opP (zga t110_2 undef (.bool false)) fun t114_3=>
opP (zga t114_3 undef (.bool false)) fun t118_4=>
opP (zga t118_4 undef (.bool false)) fun t123_5=>
opP (zga t123_5 undef (.bool false)) fun t128_6=>
K t128_6 H88)) (
opP (zga t97 undef (.bool false)) fun t100_1=>
opP (zga t100_1 undef (.bool false)) fun t105_2=>
opP (zga t105_2 undef (.bool false)) fun t110_3=>
opP (zga t110_3 undef (.bool false)) fun t114_4=>
opP (zga t114_4 undef (.bool false)) fun t118_5=>
opP (zga t118_5 undef (.bool false)) fun t123_6=>
opP (zga t123_6 undef (.bool false)) fun t128_7=>
K t128_7 H88)) (
opP (zga t92 undef (.bool false)) fun t97_1=>
opP (zga t97_1 undef (.bool false)) fun t100_2=>
opP (zga t100_2 undef (.bool false)) fun t105_3=>
opP (zga t105_3 undef (.bool false)) fun t110_4=>
opP (zga t110_4 undef (.bool false)) fun t114_5=>
opP (zga t114_5 undef (.bool false)) fun t118_6=>
opP (zga t118_6 undef (.bool false)) fun t123_7=>
opP (zga t123_7 undef (.bool false)) fun t128_8=>
K t128_8 H82)) (
opP (zga t88 undef (.bool false)) fun t92_1=>
opP (zga t92_1 undef (.bool false)) fun t97_2=>
opP (zga t97_2 undef (.bool false)) fun t100_3=>
opP (zga t100_3 undef (.bool false)) fun t105_4=>
opP (zga t105_4 undef (.bool false)) fun t110_5=>
opP (zga t110_5 undef (.bool false)) fun t114_6=>
opP (zga t114_6 undef (.bool false)) fun t118_7=>
opP (zga t118_7 undef (.bool false)) fun t123_8=>
opP (zga t123_8 undef (.bool false)) fun t128_9=>
K t128_9 H82)) (
opP (zga t85 undef (.bool false)) fun t88_1=>
opP (zga t88_1 undef (.bool false)) fun t92_2=>
opP (zga t92_2 undef (.bool false)) fun t97_3=>
opP (zga t97_3 undef (.bool false)) fun t100_4=>
opP (zga t100_4 undef (.bool false)) fun t105_5=>
opP (zga t105_5 undef (.bool false)) fun t110_6=>
opP (zga t110_6 undef (.bool false)) fun t114_7=>
opP (zga t114_7 undef (.bool false)) fun t118_8=>
opP (zga t118_8 undef (.bool false)) fun t123_9=>
opP (zga t123_9 undef (.bool false)) fun t128_10=>
K t128_10 H82)) (
opP (zga t60 undef (.bool false)) fun t85_1=>
opP (zga t85_1 undef (.bool false)) fun t88_2=>
opP (zga t88_2 undef (.bool false)) fun t92_3=>
opP (zga t92_3 undef (.bool false)) fun t97_4=>
opP (zga t97_4 undef (.bool false)) fun t100_5=>
opP (zga t100_5 undef (.bool false)) fun t105_6=>
opP (zga t105_6 undef (.bool false)) fun t110_7=>
opP (zga t110_7 undef (.bool false)) fun t114_8=>
opP (zga t114_8 undef (.bool false)) fun t118_9=>
opP (zga t118_9 undef (.bool false)) fun t123_10=>
opP (zga t123_10 undef (.bool false)) fun t128_11=>
K t128_11 H82))
theorem zNk{H:Heap}{K:VH}(h:zmi  H K):wCall P zAg [] H K:=zea rfl (Eq.mpr (by kernel_rfl) h)
def zni(H:Heap)(K:VH):Prop:=
opW ((zia P 22 8).f [(0,(.int .u8 97)),(1,(.int .u8 110)),(2,(.int .u8 32)),(3,(.int .u8 105)),(4,(.int .u8 109)),(5,(.int .u8 97)),(6,(.int .u8 103)),(7,(.int .u8 101))] H) fun t18 H1=>
opW (zSf t18 H1) fun t19 H3=>
wCall P zWd [(.string ⟨#[99,111,114,101]⟩),(.int .u64 3),(.int .i64 64),t19] H3 fun t22 H5=>
opP (zFc 0 t22) fun t23=>
opP (zFc 1 t22) fun t24=>
zNb (zc P 52) H5 fun t2 H9=>
opW (zla 37 t2 t23 H9) fun u H11=>
opW ((zia P 22 3).f [(0,(.int .u8 107)),(1,(.int .u8 101)),(2,(.int .u8 121))] H11) fun t26 H13=>
opW (zSf t26 H13) fun t27 H15=>
opW (zma 37 t2 H15) fun t28 H17=>
wCall P zod [t27,t28] H17 fun t29 H19=>
opP (zFc 0 t29) fun t30=>
opP (zFc 1 t29) fun t31=>
wCall P znb [(.int .i64 4)] H19 fun t32 H23=>
wCall P zNa [(.int .i64 4)] H23 fun t33 H25=>
wCall P zNa [(.int .i64 4)] H25 fun t34 H27=>
zec (fun J=>
opP ((zna P .eql 32 true).f t32 (.pointer none)) fun t36=>
wIf t36 (
opP (zga t36 (.bool true) undef) fun t40=>
wIf t40 (
K (.bool false) H27) (
J [t19,t30,t32,t33,t34] H27)) (
opP ((zna P .eql 36 true).f t33 (.pointer none)) fun t39=>
opP (zga t36 (.bool true) t39) fun t40_1=>
wIf t40_1 (
K (.bool false) H27) (
J [t19,t30,t32,t33,t34] H27))) (fun l H34=>
opW ((zia P 22 3).f [(0,(.int .u8 107)),(1,(.int .u8 101)),(2,(.int .u8 121))] H34) fun t41 H36=>
opW (zSf t41 H36) fun t42 H38=>
opP ((zDa P 25).f [(0,(.string ⟨#[99,111,114,101]⟩)),(2,(.int .i64 100))]) fun t43=>
wCall P zPd [t42,t43,(nth l 2),(nth l 3),(nth l 4)] H38 fun t47 H41=>
opP ((zDa P 35).f [(0,(.int .i64 (-1))),(1,(nth l 1))]) fun t50=>
wCall P zsa [(nth l 2),t50] H41 fun t51 H44=>
opP ((zDa P 35).f [(0,(.int .i64 0)),(1,(nth l 0))]) fun t54=>
wCall P zsa [(nth l 2),t54] H44 fun t55 H47=>
zec (fun J_1=>
opP ((zna P .eql 40 true).f t47 (.pointer none)) fun t57=>
wIf t57 (
opP (zga t57 (.bool true) undef) fun t62=>
opP (zga t62 (.bool true) undef) fun t67=>
opP (zga t67 (.bool true) undef) fun t72=>
opP (zga t72 (.bool true) undef) fun t77=>
opP (zga t77 (.bool true) undef) fun t82=>
opP (zga t82 (.bool true) undef) fun t87=>
opP (zga t87 (.bool true) undef) fun t91=>
opP (zga t91 (.bool true) undef) fun t96=>
wIf t96 (
K (.bool false) H47) (
J_1 [(nth l 1),(nth l 3),(nth l 4)] H47)) (
wCall P zGa [t47] H47 fun t60 H59=>
opP ((zna P .neq 3 true).f t60 (.int .i64 (-1))) fun t61=>
opP (zga t57 (.bool true) t61) fun t62_1=>
wIf t62_1 (
opP (zga t62_1 (.bool true) undef) fun t67_1=>
opP (zga t67_1 (.bool true) undef) fun t72_1=>
opP (zga t72_1 (.bool true) undef) fun t77_1=>
opP (zga t77_1 (.bool true) undef) fun t82_1=>
opP (zga t82_1 (.bool true) undef) fun t87_1=>
opP (zga t87_1 (.bool true) undef) fun t91_1=>
opP (zga t91_1 (.bool true) undef) fun t96_1=>
wIf t96_1 (
K (.bool false) H59) (
J_1 [(nth l 1),(nth l 3),(nth l 4)] H59)) (
wCall P zua [t47] H59 fun t65 H70=>
opP (unA .not t65) fun t66=>
opP (zga t62_1 (.bool true) t66) fun t67_2=>
wIf t67_2 (
opP (zga t67_2 (.bool true) undef) fun t72_2=>
opP (zga t72_2 (.bool true) undef) fun t77_2=>
opP (zga t77_2 (.bool true) undef) fun t82_2=>
opP (zga t82_2 (.bool true) undef) fun t87_2=>
opP (zga t87_2 (.bool true) undef) fun t91_2=>
opP (zga t91_2 (.bool true) undef) fun t96_2=>
wIf t96_2 (
K (.bool false) H70) (
J_1 [(nth l 1),(nth l 3),(nth l 4)] H70)) (
wCall P zGa [t47] H70 fun t70 H80=>
opP ((zna P .neq 3 true).f t70 (.int .i64 0)) fun t71=>
opP (zga t67_2 (.bool true) t71) fun t72_3=>
wIf t72_3 (
opP (zga t72_3 (.bool true) undef) fun t77_3=>
opP (zga t77_3 (.bool true) undef) fun t82_3=>
opP (zga t82_3 (.bool true) undef) fun t87_3=>
opP (zga t87_3 (.bool true) undef) fun t91_3=>
opP (zga t91_3 (.bool true) undef) fun t96_3=>
wIf t96_3 (
K (.bool false) H80) (
J_1 [(nth l 1),(nth l 3),(nth l 4)] H80)) (
wCall P zua [t47] H80 fun t75 H89=>
opP (unA .not t75) fun t76=>
opP (zga t72_3 (.bool true) t76) fun t77_4=>
wIf t77_4 (
opP (zga t77_4 (.bool true) undef) fun t82_4=>
opP (zga t82_4 (.bool true) undef) fun t87_4=>
opP (zga t87_4 (.bool true) undef) fun t91_4=>
opP (zga t91_4 (.bool true) undef) fun t96_4=>
wIf t96_4 (
K (.bool false) H89) (
J_1 [(nth l 1),(nth l 3),(nth l 4)] H89)) (
wCall P zGa [t47] H89 fun t80 H97=>
opP ((zna P .neq 3 true).f t80 (.int .i64 (-2))) fun t81=>
opP (zga t77_4 (.bool true) t81) fun t82_5=>
wIf t82_5 (
opP (zga t82_5 (.bool true) undef) fun t87_5=>
opP (zga t87_5 (.bool true) undef) fun t91_5=>
opP (zga t91_5 (.bool true) undef) fun t96_5=>
wIf t96_5 (
K (.bool false) H97) (
J_1 [(nth l 1),(nth l 3),(nth l 4)] H97)) (
wCall P zua [t47] H97 fun t85 H104=>
opP (unA .not t85) fun t86=>
opP (zga t82_5 (.bool true) t86) fun t87_6=>
wIf t87_6 (
opP (zga t87_6 (.bool true) undef) fun t91_6=>
opP (zga t91_6 (.bool true) undef) fun t96_6=>
wIf t96_6 (
K (.bool false) H104) (
J_1 [(nth l 1),(nth l 3),(nth l 4)] H104)) (
wCall P zua [t47] H104 fun t90 H110=>
opP (zga t87_6 (.bool true) t90) fun t91_7=>
wIf t91_7 (
opP (zga t91_7 (.bool true) undef) fun t96_7=>
wIf t96_7 (
K (.bool false) H110) (
J_1 [(nth l 1),(nth l 3),(nth l 4)] H110)) (
wCall P zob [t47] H110 fun t94 H114=>
opP (unA .not t94) fun t95=>
opP (zga t91_7 (.bool true) t95) fun t96_8=>
wIf t96_8 (
K (.bool false) H114) (
J_1 [(nth l 1),(nth l 3),(nth l 4)] H114)))))))))) (fun l_1 H118=>
wCall P zTa [(nth l_1 1)] H118 fun t99 H120=>
opP (zFc 0 t99) fun t100=>
opP (zFc 1 t99) fun t101=>
zNb (zc P 54) H120 fun t10 H124=>
opW (zla 41 t10 t100 H124) fun u_1 H126=>
wCall P zTa [(nth l_1 2)] H126 fun t104 H128=>
opP (zFc 0 t104) fun t105=>
opP (zFc 1 t104) fun t106=>
zNb (zc P 54) H128 fun t12 H132=>
opW (zla 41 t12 t105 H132) fun u_2 H134=>
wCall P zTa [(nth l_1 2)] H134 fun t109 H136=>
opP (zFc 0 t109) fun t110=>
opP (zFc 1 t109) fun t111=>
zNb (zc P 54) H136 fun t14 H140=>
opW (zla 41 t14 t110 H140) fun u_3 H142=>
wCall P zTa [(nth l_1 2)] H142 fun t114 H144=>
opP (zFc 0 t114) fun t115=>
opP (zFc 1 t114) fun t116=>
zNb (zc P 54) H144 fun t16 H148=>
opW (zla 41 t16 t115 H148) fun u_4 H150=>
opP (zfa 0 t10) fun t117=>
opW (zca t117 H150) fun t118 H153=>
opP ((zna P .eql 3 true).f t118 (.int .i64 2)) fun t119=>
wIf t119 (
opP (zfa 2 t10) fun t121=>
opW (zca t121 H153) fun t122 H157=>
opW (lenSl (nth l_1 0) H157) fun t124 H159=>
opP ((zna P .eql 3 false).f t122 t124) fun t125=>
opP (zga t119 t125 (.bool false)) fun t126=>
wIf t126 (
opP (zfa 0 t12) fun t128=>
opW (zca t128 H159) fun t129 H164=>
opP ((zna P .eql 3 true).f t129 (.int .i64 2)) fun t130=>
opP (zga t126 t130 (.bool false)) fun t131=>
wIf t131 (
opP (zfa 0 t14) fun t133=>
opW (zca t133 H164) fun t134 H169=>
opP ((zna P .eql 3 true).f t134 (.int .i64 3)) fun t135=>
opP (zga t131 t135 (.bool false)) fun t136=>
wIf t136 (
opP (zfa 40 t14) fun t138=>
opW (zca t138 H169) fun t139 H174=>
opW (zfb t139 H174) fun t140 H176=>
opP ((zna P .eql 9 true).f t140 (.string ⟨#[97,110,32,105,109,97,103,101]⟩)) fun t141=>
opP (zga t136 t141 (.bool false)) fun t142=>
wIf t142 (
opP (zfa 0 t16) fun t144=>
opW (zca t144 H176) fun t145 H181=>
opP ((zna P .eql 3 true).f t145 (.int .i64 4)) fun t146=>
opP (zga t142 t146 (.bool false)) fun t147=>
K t147 H181) (
opP (zga t142 undef (.bool false)) fun t147_1=>
K t147_1 H176)) (
opP (zga t136 undef (.bool false)) fun t142_1=>
opP (zga t142_1 undef (.bool false)) fun t147_2=>
K t147_2 H169)) (
opP (zga t131 undef (.bool false)) fun t136_1=>
opP (zga t136_1 undef (.bool false)) fun t142_2=>
opP (zga t142_2 undef (.bool false)) fun t147_3=>
K t147_3 H164)) (
opP (zga t126 undef (.bool false)) fun t131_1=>
opP (zga t131_1 undef (.bool false)) fun t136_2=>
opP (zga t136_2 undef (.bool false)) fun t142_3=>
opP (zga t142_3 undef (.bool false)) fun t147_4=>
K t147_4 H159)) (
opP (zga t119 undef (.bool false)) fun t126_1=>
opP (zga t126_1 undef (.bool false)) fun t131_2=>
opP (zga t131_2 undef (.bool false)) fun t136_3=>
opP (zga t136_3 undef (.bool false)) fun t142_4=>
opP (zga t142_4 undef (.bool false)) fun t147_5=>
K t147_5 H153)))
theorem zOk{H:Heap}{K:VH}(h:zni  H K):wCall P zpc [] H K:=zea rfl (Eq.mpr (by kernel_rfl) h)
noncomputable abbrev zmk:Code:=zEb P zFf 0
def znk(l:List Value)(H:Heap)(N:LN)(Qx:LX)(Qr:LN):Prop:=
opP ((zna P .lss 3 false).f (nth l 3) (nth l 2)) fun t26=>
wIf t26 (
opP (zYc 3 (nth l 1) (nth l 3)) fun t27=>
opW (zma 3 t27 H) fun t28 H3=>
zNb (zc P 45) H3 fun t6 H5=>
opW (zla 3 t6 t28 H5) fun u H7=>
opP (zfa 1 t6) fun t29=>
opP (zfa 1 t29) fun t30=>
opW (zca t30 H7) fun t31 H11=>
opW (lenSl t31 H11) fun t32 H13=>
opP ((zna P .gtr 3 true).f t32 (.int .i64 2500)) fun t33=>
wIf t33 (
Qr [(.bool true)] H13) (
opP ((zna P .add 3 true).f (nth l 3) (.int .i64 1)) fun t34=>
N [(nth l 0),(nth l 1),(nth l 2),t34] H13)) (
Qx 0 [(nth l 0)] H)
theorem zql:LpI P 35 zmk 16 znk:=.mk (by kernel_rfl) fun l H N Qx Qr=>by kernel_rfl
def zSo(t0 t1:Value)(H:Heap)(K:VH):Prop:=
zNb (zBa t0) H fun t2 H1=>
zec (fun J=>
opP (zfa 0 t2) fun t7=>
opW (zca t7 H1) fun t8 H5=>
opW (lenSl t8 H5) fun t9 H7=>
opP ((zna P .gtr 3 true).f t9 (.int .i64 200)) fun t10=>
wIf t10 (
opP (zga t10 (.bool true) undef) fun t17=>
opP (zga t17 (.bool true) undef) fun t22=>
wIf t22 (
K (.bool true) H7) (
J [t1,(.bool false)] H7)) (
opP (zfa 1 t2) fun t12=>
opP (zfa 0 t12) fun t13=>
opW (zca t13 H7) fun t14 H14=>
opW (zIo t14 H14) fun t15 H16=>
opP ((zna P .gtr 3 true).f t15 (.int .i64 200)) fun t16=>
opP (zga t10 (.bool true) t16) fun t17_1=>
wIf t17_1 (
opP (zga t17_1 (.bool true) undef) fun t22_1=>
wIf t22_1 (
K (.bool true) H16) (
J [t1,(.bool false)] H16)) (
opW (lenSl t1 H16) fun t20 H21=>
opP ((zna P .gtr 3 true).f t20 (.int .i64 80)) fun t21=>
opP (zga t17_1 (.bool true) t21) fun t22_2=>
wIf t22_2 (
K (.bool true) H21) (
J [t1,(.bool false)] H21)))) (fun l H25=>
opW (lenSl (nth l 0) H25) fun t24 H27=>
ztb P true 35 zmk 16 [(nth l 1),(nth l 0),t24,(.int .i64 0)] H27 (fun id l_1 H29=>
cond (Nat.beq id 0) (
K (.bool false) H29) (
False)) (fun l_1 H29=>
K (nth l_1 0) H29))
theorem zRp{t0 t1:Value}{H:Heap}{K:VH}(h:zSo t0 t1 H K):wCall P zFf [t0,t1] H K:=zea rfl (Eq.mpr (by kernel_rfl) h)
def zHg(t0:Value)(H:Heap)(K:VH):Prop:=
opW (zBe H (zSB [t0,(.int .i64 16)])) fun t4 H1=>
opW (zBe H1 (zQD [(.int .i64 1),t4])) fun t5 H3=>
opW ((zVc P 78).f t5 t5 H3) fun t6 H5=>
opP ((zDa P 89).f [(0,t6)]) fun t7=>
zNb (zBa t7) H5 fun t8 H8=>
K t8 H8
theorem zVi{t0:Value}{H:Heap}{K:VH}(h:zHg t0 H K):wCall P znb [t0] H K:=zea rfl (Eq.mpr (by kernel_rfl) h)
def zmh(t0:Value)(H:Heap)(K:VH):Prop:=
opW (zBe H (zSB [t0,(.int .i64 16)])) fun t4 H1=>
opW (zBe H1 (zQD [(.int .i64 1),t4])) fun t5 H3=>
opW ((zVc P 90).f t5 t5 H3) fun t6 H5=>
opP ((zDa P 92).f [(0,t6)]) fun t7=>
zNb (zBa t7) H5 fun t8 H8=>
K t8 H8
theorem zUj{t0:Value}{H:Heap}{K:VH}(h:zmh t0 H K):wCall P zNa [t0] H K:=zea rfl (Eq.mpr (by kernel_rfl) h)
def zmt(t0 t1 t2 t3 t4:Value)(H:Heap)(K:VH):Prop:=
zNb (zBa t1) H fun t6 H1=>
wCall P zUb [t0] H1 fun t12 H3=>
opW (zma 3 t6 H3) fun t13 H5=>
zmb (zkb H1 H3) (zJa [t6])∧(opP ((zDa P 96).f [(0,t12),(1,t13),(2,t2),(3,t3),(4,t4)]) fun t17=>
zNb (zBa t17) H5 fun t18 H8=>
K t18 H8)
theorem znt{t0 t1 t2 t3 t4:Value}{H:Heap}{K:VH}(h:zmt t0 t1 t2 t3 t4 H K):wCall P zPd [t0,t1,t2,t3,t4] H K:=zea rfl (Eq.mpr (by kernel_rfl) h)
def zXd(t0 t1:Value)(H:Heap)(K:VH):Prop:=
zNb (zBa t1) H fun t3 H1=>
wCall P zic [t0] H1 fun t6 H3=>
opP ((zna P .eql 3 true).f t6 (.int .i64 0)) fun t7=>
wIf t7 (
K (.bool false) H3) (
opP (zha t0) fun t9=>
opP (zfa 0 t9) fun t10=>
opW (zca t10 H3) fun t11 H8=>
opP (zha t0) fun t14=>
opP (zfa 2 t14) fun t15=>
opW (zca t15 H8) fun t16 H12=>
wCall P zCb [t0,t16] H12 fun t17 H14=>
zmb (zkb H12 H14) (zJa [t10])∧(opW (zma 2 t3 H14) fun t18 H16=>
zmb (zkb H12 H14) (zJa [t3])∧(opP (zYc 2 t11 t17) fun t19=>
opW (zla 2 t19 t18 H16) fun u H19=>
opP (zha t0) fun t21=>
opP (zfa 2 t21) fun t22=>
opW (zca t22 H19) fun t23 H23=>
opP ((zna P .add 3 true).f t23 (.int .i64 1)) fun t24=>
opP (zha t0) fun t25=>
opP (zfa 2 t25) fun t26=>
opW (zla 1 t26 t24 H23) fun u_1 H28=>
K (.bool true) H28)))
theorem zZf{t0 t1:Value}{H:Heap}{K:VH}(h:zXd t0 t1 H K):wCall P zsa [t0,t1] H K:=zea rfl (Eq.mpr (by kernel_rfl) h)
def zIg(t0:Value)(H:Heap)(K:VH):Prop:=
wCall P zGa [t0] H fun t7 H1=>
zec (fun J=>
opP (zha t0) fun t33=>
opP (zfa 46 t33) fun t34=>
opW (zca t34 H1) fun t35 H6=>
opP ((zna P .neq 67 true).f t35 (.int .i64 0)) fun t36=>
wIf t36 (
opP (zga t36 (.bool true) undef) fun t42=>
J [t0,t7,t42] H6) (
opP (zha t0) fun t39=>
opP (zfa 45 t39) fun t40=>
opW (zca t40 H6) fun t41 H12=>
opP (zga t36 (.bool true) t41) fun t42_1=>
J [t0,t7,t42_1] H12)) (fun l H15=>
wIf (nth l 2) (
K (.bool false) H15) (
opP ((zna P .eql 3 true).f (nth l 1) (.int .i64 (-2))) fun t45=>
wIf t45 (
wCall P zLc [(nth l 0)] H15 fun t47 H18=>
K t47 H18) (
zec (fun J_1=>
opP (zha (nth l 0)) fun t50=>
opP (zfa 4 t50) fun t51=>
opW (zca t51 H15) fun t52 H23=>
wCall P ztc [t52] H23 fun t53 H25=>
opP ((zna P .eql 3 true).f t53 (.int .i64 0)) fun t54=>
wIf t54 (
opP (zga t54 (.bool true) undef) fun t62=>
opP (zga t62 (.bool true) undef) fun t70=>
J_1 [(nth l 0),(nth l 1),t70] H25) (
opP (zha (nth l 0)) fun t57=>
opP (zfa 5 t57) fun t58=>
opW (zca t58 H25) fun t59 H32=>
wCall P zcb [t59] H32 fun t60 H34=>
opP ((zna P .eql 3 true).f t60 (.int .i64 0)) fun t61=>
opP (zga t54 (.bool true) t61) fun t62_1=>
wIf t62_1 (
opP (zga t62_1 (.bool true) undef) fun t70_1=>
J_1 [(nth l 0),(nth l 1),t70_1] H34) (
opP (zha (nth l 0)) fun t65=>
opP (zfa 6 t65) fun t66=>
opW (zca t66 H34) fun t67 H41=>
wCall P zcb [t67] H41 fun t68 H43=>
opP ((zna P .eql 3 true).f t68 (.int .i64 0)) fun t69=>
opP (zga t62_1 (.bool true) t69) fun t70_2=>
J_1 [(nth l 0),(nth l 1),t70_2] H43))) (fun l_1 H47=>
wIf (nth l_1 2) (
K (.bool false) H47) (
opP (zha (nth l_1 0)) fun t10=>
opP (zfa 4 t10) fun t11=>
opW (zca t11 H47) fun t12 H51=>
wCall P zjc [t12] H51 fun t13 H53=>
opP (zFc 0 t13) fun t14=>
opP (zFc 1 t13) fun t15=>
zNb (zc P 35) H53 fun t4 H57=>
opW (zla 2 t4 t14 H57) fun u H59=>
opP (zfa 0 t4) fun t20=>
opW (zca t20 H59) fun t21 H62=>
opP ((zna P .neq 3 false).f t21 (nth l_1 1)) fun t23=>
wIf t23 (
K (.bool true) H62) (
opP ((zna P .eql 3 true).f (nth l_1 1) (.int .i64 (-1))) fun t26=>
wIf t26 (
opP (zfa 1 t4) fun t28=>
opW (zca t28 H62) fun t29 H67=>
wCall P zyc [(nth l_1 0),t29] H67 fun t30 H69=>
K (.bool true) H69) (
opW (zma 2 t4 H62) fun t17 H71=>
wCall P zzc [(nth l_1 0),t17] H71 fun t18 H73=>
K (.bool true) H73)))))))
theorem zWi{t0:Value}{H:Heap}{K:VH}(h:zIg t0 H K):wCall P zua [t0] H K:=zea rfl (Eq.mpr (by kernel_rfl) h)
def zEe(t0:Value)(H:Heap)(K:VH):Prop:=
opP (zha t0) fun t4=>
opP (zfa 2 t4) fun t5=>
opW (zca t5 H) fun t6 H3=>
K t6 H3
theorem zYg{t0:Value}{H:Heap}{K:VH}(h:zEe t0 H K):wCall P zya [t0] H K:=zea rfl (Eq.mpr (by kernel_rfl) h)
def zTo(t0:Value)(H:Heap)(K:VH):Prop:=
zNb (zc P 54) H fun t2 H1=>
wCall P zPa [t0] H1 fun t12 H3=>
opP (zFc 0 t12) fun t13=>
opP (zFc 1 t12) fun t14=>
opP (unA .not t14) fun t16=>
wIf t16 (
opP ((zDa P 54).f []) fun t17=>
opW (zla 41 t2 t17 H3) fun u H9=>
opW (zma 41 t2 H9) fun r _=>
K (.tuple [r,(.bool false)].toArray) H9) (
opP (znc 103 (ztd P 103) t13) fun t19=>
opP (zFc 1 t19) fun t20=>
opP (zFc 0 t19) fun t21=>
wIf t20 (
zNb (zc P 103) H3 fun t6 H15=>
opW (zla 1 t6 t21 H15) fun u_1 H17=>
opP (zfa 0 t6) fun t22=>
opW (zca t22 H17) fun t23 H20=>
opP ((zDa P 54).f [(0,(.int .i64 1)),(1,t23)]) fun t24=>
opW (zla 41 t2 t24 H20) fun u_2 H23=>
opW (zma 41 t2 H23) fun r_1 _=>
K (.tuple [r_1,(.bool true)].toArray) H23) (
opP (znc 105 (ztd P 105) t13) fun t25=>
opP (zFc 1 t25) fun t26=>
opP (zFc 0 t25) fun t27=>
wIf t26 (
zNb (zc P 105) H3 fun t7 H29=>
opW (zla 38 t7 t27 H29) fun u_3 H31=>
opP (zfa 0 t7) fun t28=>
opW (zca t28 H31) fun t29 H34=>
opP (zfa 1 t7) fun t30=>
opW (zma 37 t30 H34) fun t31 H37=>
opP ((zDa P 54).f [(0,(.int .i64 2)),(2,t29),(3,t31)]) fun t32=>
opW (zla 41 t2 t32 H37) fun u_4 H40=>
opW (zma 41 t2 H40) fun r_2 _=>
K (.tuple [r_2,(.bool true)].toArray) H40) (
opP (znc 106 (ztd P 106) t13) fun t33=>
opP (zFc 1 t33) fun t34=>
opP (zFc 0 t33) fun t35=>
wIf t34 (
zNb (zc P 106) H3 fun t8 H46=>
opW (zla 2 t8 t35 H46) fun u_5 H48=>
opP (zfa 0 t8) fun t36=>
opW (zca t36 H48) fun t37 H51=>
opP (zfa 1 t8) fun t38=>
opW (zca t38 H51) fun t39 H54=>
opP ((zDa P 54).f [(0,(.int .i64 3)),(1,t37),(4,t39)]) fun t40=>
opW (zla 41 t2 t40 H54) fun u_6 H57=>
opW (zma 41 t2 H57) fun r_3 _=>
K (.tuple [r_3,(.bool true)].toArray) H57) (
opP (znc 108 (ztd P 108) t13) fun t41=>
opP (zFc 1 t41) fun t42=>
opP (zFc 0 t41) fun t43=>
wIf t42 (
zNb (zc P 108) H3 fun t9 H63=>
opW (zla 0 t9 t43 H63) fun u_7 H65=>
opP ((zDa P 54).f [(0,(.int .i64 4))]) fun t44=>
opW (zla 41 t2 t44 H65) fun u_8 H68=>
opW (zma 41 t2 H68) fun r_4 _=>
K (.tuple [r_4,(.bool true)].toArray) H68) (
opP ((zDa P 54).f []) fun t45=>
opW (zla 41 t2 t45 H3) fun u_9 H72=>
opW (zma 41 t2 H72) fun r_5 _=>
K (.tuple [r_5,(.bool true)].toArray) H72)))))
theorem zSp{t0:Value}{H:Heap}{K:VH}(h:zTo t0 H K):wCall P zTa [t0] H K:=zea rfl (Eq.mpr (by kernel_rfl) h)
def zte(t0:Value)(H:Heap)(K:VH):Prop:=
wCall P zuc [t0] H fun t9 H1=>
opP (zFc 0 t9) fun t10=>
opP (zFc 1 t9) fun t11=>
wIf t11 (
opP (zha t0) fun t14=>
opP (zfa 0 t14) fun t15=>
opW (zca t15 H1) fun t16 H7=>
opP (zha t0) fun t18=>
opP (zfa 1 t18) fun t19=>
opW (zca t19 H7) fun t20 H11=>
opP (zYc 1 t16 t20) fun t22=>
opW (zla 1 t22 .nilIface H11) fun u H14=>
wCall P zIb [t0,(.int .i64 1)] H14 fun t25 H16=>
opP (zha t0) fun t26=>
opP (zfa 1 t26) fun t27=>
opW (zla 1 t27 t25 H16) fun u_1 H20=>
opP (zha t0) fun t29=>
opP (zfa 2 t29) fun t30=>
opW (zca t30 H20) fun t31 H24=>
opP ((zna P .sub 3 true).f t31 (.int .i64 1)) fun t32=>
opP (zha t0) fun t33=>
opP (zfa 2 t33) fun t34=>
opW (zla 1 t34 t32 H24) fun u_2 H29=>
K (.tuple [t10,t11].toArray) H29) (
K (.tuple [t10,t11].toArray) H1)
theorem zlg{t0:Value}{H:Heap}{K:VH}(h:zte t0 H K):wCall P zPa [t0] H K:=zea rfl (Eq.mpr (by kernel_rfl) h)
def zEq(t0 t1:Value)(H:Heap)(K:VH):Prop:=
zNb (zBa t1) H fun t3 H1=>
opW (zma 37 t3 H1) fun t7 H3=>
wCall P zMc [t7] H3 fun t8 H5=>
opP (unA .not t8) fun t9=>
wIf t9 (
K (.tuple [(.slice none 0 0),(.int .i64 131)].toArray) H5) (
opW (zma 37 t3 H5) fun t10 H8=>
wCall P zHf [t10] H8 fun t11 H10=>
opW ((zia P 22 2).f [(0,(.int .u8 66)),(1,(.int .u8 85))] H10) fun t13 H12=>
opW (zSf t13 H12) fun t14 H14=>
opW (lenSl t11 H14) fun t16 H16=>
opW (zbc .u64 t16 H16) fun t17 H18=>
wCall P zqc [t17,(.int .i64 2)] H18 fun t18 H20=>
opW (zqa 1 1 t14 t18 H20) fun t19 H22=>
opW (zqa 1 1 t19 t11 H22) fun t21 H24=>
wCall P zUg [t0,t21] H24 fun t22 H26=>
K (.tuple [t22,(.int .i64 0)].toArray) H26)
theorem zOr{t0 t1:Value}{H:Heap}{K:VH}(h:zEq t0 t1 H K):wCall P zod [t0,t1] H K:=zea rfl (Eq.mpr (by kernel_rfl) h)
def zUo(t0 t1:Value)(H:Heap)(K:VH):Prop:=
zNb (zBa t0) H fun t2 H1=>
zNb (zBa t1) H1 fun t3 H3=>
opW (zma 37 t2 H3) fun t5 H5=>
wCall P zMc [t5] H5 fun t6 H7=>
opP (unA .not t6) fun t7=>
wIf t7 (
K (.int .i64 131) H7) (
opP (zfa 0 t2) fun t8=>
opW (zca t8 H7) fun t9 H11=>
wCall P zef [t9] H11 fun t10 H13=>
opP (zfa 0 t3) fun t11=>
opW (zca t11 H13) fun t12 H16=>
zmb (zkb H11 H13) (zJa [t11])∧(wCall P zef [t12] H16 fun t13 H18=>
opP ((zna P .neq 9 false).f t10 t13) fun t14=>
wIf t14 (
K (.int .i64 143) H18) (
opP (zfa 1 t2) fun t15=>
opW (zca t15 H18) fun t16 H22=>
opP (zfa 1 t3) fun t17=>
opW (zca t17 H22) fun t18 H25=>
opP ((zna P .lss 23 false).f t16 t18) fun t19=>
wIf t19 (
K (.int .i64 144) H25) (
opP (zfa 2 t2) fun t20=>
opW (zca t20 H25) fun t21 H29=>
opP (zfa 2 t3) fun t22=>
opW (zca t22 H29) fun t23 H32=>
opP ((zna P .gtr 3 false).f t21 t23) fun t24=>
wIf t24 (
K (.int .i64 145) H32) (
K (.int .i64 0) H32)))))
theorem zTp{t0 t1:Value}{H:Heap}{K:VH}(h:zUo t0 t1 H K):wCall P zGf [t0,t1] H K:=zea rfl (Eq.mpr (by kernel_rfl) h)
noncomputable abbrev zXi:Code:=zEb P zib 0
noncomputable abbrev zYi:Code:=zEb P zib 1
noncomputable abbrev zZi:Code:=zEb P zib 2
noncomputable abbrev zaj:Code:=zEb P zib 3
noncomputable abbrev zbj:Code:=zEb P zib 4
noncomputable abbrev zcj:Code:=zEb P zib 5
noncomputable abbrev zdj:Code:=zEb P zib 6
noncomputable abbrev zej:Code:=zEb P zib 7
def zYm(l:List Value)(H:Heap)(N:LN)(Qx:LX)(Qr:LN):Prop:=
opW (lenSl (nth l 2) H) fun t31 H1=>
opP ((zna P .rem 3 true).f t31 (.int .i64 64)) fun t32=>
opP ((zna P .neq 3 true).f t32 (.int .i64 56)) fun t33=>
wIf t33 (
opW ((zia P 22 1).f [(0,(.int .u8 0))] H1) fun t35 H5=>
opW (zqa 1 1 (nth l 2) t35 H5) fun t36 H7=>
N [(nth l 0),(nth l 1),t36] H7) (
Qx 0 [(nth l 0),(nth l 1),(nth l 2)] H1)
theorem zun:LpI P 252 zXi 13 zYm:=.mk (by kernel_rfl) fun l H N Qx Qr=>by kernel_rfl
def zZm(l:List Value)(H:Heap)(N:LN)(Qx:LX)(Qr:LN):Prop:=
opP ((zna P .lss 3 true).f (nth l 4) (.int .i64 8)) fun t42=>
wIf t42 (
opP ((zna P .quo 23 false).f (nth l 2) (nth l 3)) fun t48=>
opP ((zna P .rem 23 true).f t48 (.int .u64 256)) fun t49=>
opW (zbc .u8 t49 H) fun t50 H4=>
opW ((zia P 22 1).f [(0,t50)] H4) fun t51 H6=>
opW (zqa 1 1 (nth l 1) t51 H6) fun t52 H8=>
opP ((zna P .quo 23 true).f (nth l 3) (.int .u64 256)) fun t54=>
opP ((zna P .add 3 true).f (nth l 4) (.int .i64 1)) fun t44=>
N [(nth l 0),t52,(nth l 2),t54,t44] H8) (
Qx 2 [(nth l 0),(nth l 1)] H)
theorem zvn:LpI P 252 zYi 12 zZm:=.mk (by kernel_rfl) fun l H N Qx Qr=>by kernel_rfl
def zan(l:List Value)(H:Heap)(N:LN)(Qx:LX)(Qr:LN):Prop:=
opW (lenSl (nth l 1) H) fun t59 H1=>
opP ((zna P .lss 3 false).f (nth l 4) t59) fun t60=>
wIf t60 (
opP ((zDa P 116).f []) fun t63=>
zNb (zc P 116) H1 fun t10 H5=>
opW (zla 64 t10 t63 H5) fun u H7=>
ztb P true 252 zaj 1932 [(nth l 0),(nth l 1),(nth l 2),(nth l 3),(nth l 4),t10,(.int .i64 0)] H7 (fun id l_1 H9=>
cond (Nat.beq id 6) (
opW (zma 8 (nth l_1 2) H9) fun t129 H11=>
zNb (zc P 114) H11 fun t15 H13=>
opW (zla 8 t15 t129 H13) fun u_1 H15=>
ztb P true 252 zcj 33676 [(nth l_1 0),(nth l_1 1),(nth l_1 2),(nth l_1 3),(nth l_1 4),(nth l_1 5),t15,(.int .i64 0)] H15 (fun id l_2 H17=>
cond (Nat.beq id 10) (
ztb P true 252 zdj 908 [(nth l_2 0),(nth l_2 1),(nth l_2 2),(nth l_2 3),(nth l_2 4),(nth l_2 5),(.int .i64 0)] H17 (fun id l_3 H19=>
cond (Nat.beq id 12) (
opP ((zna P .add 3 true).f (nth l_3 4) (.int .i64 64)) fun t62=>
N [(nth l_3 0),(nth l_3 1),(nth l_3 2),(nth l_3 3),t62] H19) (
cond (Nat.beq id 5) (
opP ((zna P .add 3 true).f (nth l_3 4) (.int .i64 64)) fun t62_1=>
N [(nth l_3 0),(nth l_3 1),(nth l_3 2),(nth l_3 3),t62_1] H19) (
Qx id [(nth l_3 0),(nth l_3 2)] H19))) (fun l_3 H19=>
Qr [(nth l_3 0),(nth l_3 2)] H19)) (
cond (Nat.beq id 5) (
opP ((zna P .add 3 true).f (nth l_2 4) (.int .i64 64)) fun t62_2=>
N [(nth l_2 0),(nth l_2 1),(nth l_2 2),(nth l_2 3),t62_2] H17) (
Qx id [(nth l_2 0),(nth l_2 2)] H17))) (fun l_2 H17=>
Qr [(nth l_2 0),(nth l_2 2)] H17)) (
cond (Nat.beq id 5) (
opP ((zna P .add 3 true).f (nth l_1 4) (.int .i64 64)) fun t62_3=>
N [(nth l_1 0),(nth l_1 1),(nth l_1 2),(nth l_1 3),t62_3] H9) (
Qx id [(nth l_1 0),(nth l_1 2)] H9))) (fun l_1 H9=>
Qr [(nth l_1 0),(nth l_1 2)] H9)) (
Qx 4 [(nth l 0),(nth l 2)] H1)
theorem zwn:LpI P 252 zZi 132 zan:=.mk (by kernel_rfl) fun l H N Qx Qr=>by kernel_rfl
def zbn(l:List Value)(H:Heap)(N:LN)(Qx:LX)(Qr:LN):Prop:=
opP ((zna P .lss 3 true).f (nth l 3) (.int .i64 32)) fun t235=>
wIf t235 (
opP ((zna P .quo 3 true).f (nth l 3) (.int .i64 4)) fun t239=>
opP (zKa 8 1 (nth l 1) t239) fun t240=>
opW (zca t240 H) fun t241 H4=>
opP ((zna P .rem 3 true).f (nth l 3) (.int .i64 4)) fun t243=>
opP ((zna P .mul 3 true).f (.int .i64 8) t243) fun t244=>
opP ((zna P .sub 3 true).f (.int .i64 24) t244) fun t245=>
opP ((zna P .shr 23 false).f t241 t245) fun t246=>
opP ((zna P .rem 23 true).f t246 (.int .u64 256)) fun t247=>
opW (zbc .u8 t247 H4) fun t248 H11=>
opP (zKa 32 1 (nth l 2) (nth l 3)) fun t249=>
opW (zla 1 t249 t248 H11) fun u H14=>
opP ((zna P .add 3 true).f (nth l 3) (.int .i64 1)) fun t250=>
N [(nth l 0),(nth l 1),(nth l 2),t250] H14) (
Qx 14 [(nth l 0),(nth l 2)] H)
theorem zxn:LpI P 252 zej 8388612 zbn:=.mk (by kernel_rfl) fun l H N Qx Qr=>by kernel_rfl
def zcn(l:List Value)(H:Heap)(N:LN)(Qx:LX)(Qr:LN):Prop:=
opP ((zna P .lss 3 true).f (nth l 6) (.int .i64 64)) fun t65=>
wIf t65 (
opP ((zna P .lss 3 true).f (nth l 6) (.int .i64 16)) fun t69=>
wIf t69 (
ztb P true 252 zbj 3980 [(nth l 0),(nth l 1),(nth l 2),(nth l 3),(nth l 4),(nth l 5),(nth l 6),(.int .i64 0)] H (fun id l_1 H3=>
cond (Nat.beq id 8) (
opP ((zna P .add 3 true).f (nth l_1 6) (.int .i64 1)) fun t67=>
N [(nth l_1 0),(nth l_1 1),(nth l_1 2),(nth l_1 3),(nth l_1 4),(nth l_1 5),t67] H3) (
cond (Nat.beq id 7) (
opP ((zna P .add 3 true).f (nth l_1 6) (.int .i64 1)) fun t67_1=>
N [(nth l_1 0),(nth l_1 1),(nth l_1 2),(nth l_1 3),(nth l_1 4),(nth l_1 5),t67_1] H3) (
Qx id [(nth l_1 0),(nth l_1 1),(nth l_1 2),(nth l_1 3),(nth l_1 4),(nth l_1 5)] H3))) (fun l_1 H3=>
Qr [(nth l_1 0),(nth l_1 1),(nth l_1 2),(nth l_1 3),(nth l_1 4),(nth l_1 5)] H3)) (
opP ((zna P .sub 3 true).f (nth l 6) (.int .i64 15)) fun t92=>
opP (zKa 64 1 (nth l 5) t92) fun t93=>
opW (zca t93 H) fun t94 H9=>
opP ((zna P .sub 3 true).f (nth l 6) (.int .i64 2)) fun t96=>
opP (zKa 64 1 (nth l 5) t96) fun t97=>
opW (zca t97 H9) fun t98 H13=>
opP ((zna P .sub 3 true).f (nth l 6) (.int .i64 16)) fun t101=>
opP (zKa 64 1 (nth l 5) t101) fun t102=>
opW (zca t102 H13) fun t103 H17=>
wCall P zvb [t94,(.int .u64 7)] H17 fun t105 H19=>
zmb (zkb H17 H19) (zJa [t102])∧(wCall P zvb [t94,(.int .u64 18)] H19 fun t107 H21=>
zmb (zkb H19 H21) (zJa [t102])∧(opP ((zna P .xor 23 false).f t105 t107) fun t108=>
opP ((zna P .shr 23 true).f t94 (.int .u64 3)) fun t110=>
opP ((zna P .xor 23 false).f t108 t110) fun t111=>
opP ((zna P .add 23 false).f t103 t111) fun t112=>
opP ((zna P .sub 3 true).f (nth l 6) (.int .i64 7)) fun t114=>
opP (zKa 64 1 (nth l 5) t114) fun t115=>
opW (zca t115 H21) fun t116 H29=>
zmb (zkb H19 H21) (zJa [t115])∧(zmb (zkb H17 H19) (zJa [t115])∧(opP ((zna P .add 23 false).f t112 t116) fun t117=>
wCall P zvb [t98,(.int .u64 17)] H29 fun t119 H32=>
zmb (zkb H29 H32) (zJa [t115])∧(zmb (zkb H29 H32) (zJa [t102])∧(wCall P zvb [t98,(.int .u64 19)] H32 fun t121 H34=>
zmb (zkb H32 H34) (zJa [t115])∧(zmb (zkb H32 H34) (zJa [t102])∧(opP ((zna P .xor 23 false).f t119 t121) fun t122=>
opP ((zna P .shr 23 true).f t98 (.int .u64 10)) fun t124=>
opP ((zna P .xor 23 false).f t122 t124) fun t125=>
opP ((zna P .add 23 false).f t117 t125) fun t126=>
opP ((zna P .rem 23 true).f t126 (.int .u64 4294967296)) fun t127=>
opP (zKa 64 1 (nth l 5) (nth l 6)) fun t128=>
opW (zla 1 t128 t127 H34) fun u H42=>
opP ((zna P .add 3 true).f (nth l 6) (.int .i64 1)) fun t67_2=>
N [(nth l 0),(nth l 1),(nth l 2),(nth l 3),(nth l 4),(nth l 5),t67_2] H42)))))))))) (
Qx 6 [(nth l 0),(nth l 1),(nth l 2),(nth l 3),(nth l 4),(nth l 5)] H)
theorem zyn:LpI P 252 zaj 1932 zcn:=.mk (by kernel_rfl) fun l H N Qx Qr=>by kernel_rfl
def zdn(l:List Value)(H:Heap)(N:LN)(Qx:LX)(Qr:LN):Prop:=
opP ((zna P .lss 3 true).f (nth l 7) (.int .i64 64)) fun t131=>
wIf t131 (
opP (zKa 8 1 (nth l 6) (.int .i64 4)) fun t134=>
opW (zca t134 H) fun t135 H3=>
opP (zKa 8 1 (nth l 6) (.int .i64 5)) fun t137=>
opW (zca t137 H3) fun t138 H6=>
opP ((zna P .and 23 false).f t135 t138) fun t139=>
opP ((zna P .sub 23 true).f (.int .u64 4294967295) t135) fun t141=>
opP (zKa 8 1 (nth l 6) (.int .i64 6)) fun t142=>
opW (zca t142 H6) fun t143 H11=>
opP ((zna P .and 23 false).f t141 t143) fun t144=>
opP ((zna P .xor 23 false).f t139 t144) fun t145=>
opP (zKa 8 1 (nth l 6) (.int .i64 7)) fun t146=>
opW (zca t146 H11) fun t147 H16=>
wCall P zvb [t135,(.int .u64 6)] H16 fun t149 H18=>
zmb (zkb H16 H18) (zJa [t146])∧(wCall P zvb [t135,(.int .u64 11)] H18 fun t151 H20=>
zmb (zkb H18 H20) (zJa [t146])∧(opP ((zna P .xor 23 false).f t149 t151) fun t152=>
wCall P zvb [t135,(.int .u64 25)] H20 fun t154 H23=>
zmb (zkb H20 H23) (zJa [t146])∧(opP ((zna P .xor 23 false).f t152 t154) fun t155=>
opP ((zna P .add 23 false).f t147 t155) fun t156=>
opP ((zna P .add 23 false).f t156 t145) fun t158=>
opP (zKa 64 1 (nth l 3) (nth l 7)) fun t160=>
opW (zca t160 H23) fun t161 H29=>
zmb (zkb H20 H23) (zJa [t160])∧(zmb (zkb H18 H20) (zJa [t160])∧(zmb (zkb H16 H18) (zJa [t160])∧(opP ((zna P .add 23 false).f t158 t161) fun t162=>
opP (zKa 64 1 (nth l 5) (nth l 7)) fun t164=>
opW (zca t164 H29) fun t165 H33=>
zmb (zkb H20 H23) (zJa [t164])∧(zmb (zkb H18 H20) (zJa [t164])∧(zmb (zkb H16 H18) (zJa [t164])∧(opP ((zna P .add 23 false).f t162 t165) fun t166=>
opP (zKa 8 1 (nth l 6) (.int .i64 0)) fun t167=>
opW (zca t167 H33) fun t168 H37=>
opP (zKa 8 1 (nth l 6) (.int .i64 1)) fun t169=>
opW (zca t169 H37) fun t170 H40=>
opP ((zna P .and 23 false).f t168 t170) fun t171=>
opP (zKa 8 1 (nth l 6) (.int .i64 0)) fun t172=>
opW (zca t172 H40) fun t173 H44=>
opP (zKa 8 1 (nth l 6) (.int .i64 2)) fun t174=>
opW (zca t174 H44) fun t175 H47=>
opP ((zna P .and 23 false).f t173 t175) fun t176=>
opP ((zna P .xor 23 false).f t171 t176) fun t177=>
opP (zKa 8 1 (nth l 6) (.int .i64 1)) fun t178=>
opW (zca t178 H47) fun t179 H52=>
opP (zKa 8 1 (nth l 6) (.int .i64 2)) fun t180=>
opW (zca t180 H52) fun t181 H55=>
opP ((zna P .and 23 false).f t179 t181) fun t182=>
opP ((zna P .xor 23 false).f t177 t182) fun t183=>
opP (zKa 8 1 (nth l 6) (.int .i64 0)) fun t184=>
opW (zca t184 H55) fun t185 H60=>
wCall P zvb [t185,(.int .u64 2)] H60 fun t186 H62=>
opP (zKa 8 1 (nth l 6) (.int .i64 0)) fun t187=>
opW (zca t187 H62) fun t188 H65=>
zmb (zkb H60 H62) (zJa [t187])∧(wCall P zvb [t188,(.int .u64 13)] H65 fun t189 H67=>
opP ((zna P .xor 23 false).f t186 t189) fun t190=>
opP (zKa 8 1 (nth l 6) (.int .i64 0)) fun t191=>
opW (zca t191 H67) fun t192 H71=>
zmb (zkb H65 H67) (zJa [t191])∧(zmb (zkb H60 H62) (zJa [t191])∧(wCall P zvb [t192,(.int .u64 22)] H71 fun t193 H73=>
opP ((zna P .xor 23 false).f t190 t193) fun t194=>
opP ((zna P .add 23 false).f t194 t183) fun t196=>
opP ((zna P .add 23 false).f t166 t196) fun t199=>
opP ((zna P .rem 23 true).f t199 (.int .u64 4294967296)) fun t200=>
opP (zKa 8 1 (nth l 6) (.int .i64 0)) fun t201=>
opW (zca t201 H73) fun t202 H80=>
opP (zKa 8 1 (nth l 6) (.int .i64 1)) fun t203=>
opW (zca t203 H80) fun t204 H83=>
opP (zKa 8 1 (nth l 6) (.int .i64 2)) fun t205=>
opW (zca t205 H83) fun t206 H86=>
opP (zKa 8 1 (nth l 6) (.int .i64 3)) fun t207=>
opW (zca t207 H86) fun t208 H89=>
opP ((zna P .add 23 false).f t208 t166) fun t210=>
opP ((zna P .rem 23 true).f t210 (.int .u64 4294967296)) fun t211=>
opP (zKa 8 1 (nth l 6) (.int .i64 4)) fun t212=>
opW (zca t212 H89) fun t213 H94=>
opP (zKa 8 1 (nth l 6) (.int .i64 5)) fun t214=>
opW (zca t214 H94) fun t215 H97=>
opP (zKa 8 1 (nth l 6) (.int .i64 6)) fun t216=>
opW (zca t216 H97) fun t217 H100=>
opP ((zDa P 114).f [(0,t200),(1,t202),(2,t204),(3,t206),(4,t211),(5,t213),(6,t215),(7,t217)]) fun t218=>
opW (zla 8 (nth l 6) t218 H100) fun u H103=>
opP ((zna P .add 3 true).f (nth l 7) (.int .i64 1)) fun t133=>
N [(nth l 0),(nth l 1),(nth l 2),(nth l 3),(nth l 4),(nth l 5),(nth l 6),t133] H103))))))))))))) (
Qx 10 [(nth l 0),(nth l 1),(nth l 2),(nth l 3),(nth l 4),(nth l 6)] H)
theorem zzn:LpI P 252 zcj 33676 zdn:=.mk (by kernel_rfl) fun l H N Qx Qr=>by kernel_rfl
def zen(l:List Value)(H:Heap)(N:LN)(Qx:LX)(Qr:LN):Prop:=
opP ((zna P .lss 3 true).f (nth l 6) (.int .i64 8)) fun t220=>
wIf t220 (
opP (zKa 8 1 (nth l 2) (nth l 6)) fun t224=>
opW (zca t224 H) fun t225 H3=>
opP (zKa 8 1 (nth l 5) (nth l 6)) fun t227=>
opW (zca t227 H3) fun t228 H6=>
opP ((zna P .add 23 false).f t225 t228) fun t229=>
opP ((zna P .rem 23 true).f t229 (.int .u64 4294967296)) fun t230=>
opP (zKa 8 1 (nth l 2) (nth l 6)) fun t231=>
opW (zla 1 t231 t230 H6) fun u H11=>
opP ((zna P .add 3 true).f (nth l 6) (.int .i64 1)) fun t232=>
N [(nth l 0),(nth l 1),(nth l 2),(nth l 3),(nth l 4),(nth l 5),t232] H11) (
Qx 12 [(nth l 0),(nth l 1),(nth l 2),(nth l 3),(nth l 4)] H)
theorem zAn:LpI P 252 zdj 908 zen:=.mk (by kernel_rfl) fun l H N Qx Qr=>by kernel_rfl
def zfn(l:List Value)(H:Heap)(N:LN)(Qx:LX)(Qr:LN):Prop:=
opP ((zna P .lss 3 true).f (nth l 7) (.int .i64 4)) fun t71=>
wIf t71 (
opP (zKa 64 1 (nth l 5) (nth l 6)) fun t76=>
opW (zca t76 H) fun t77 H3=>
opP ((zna P .mul 23 true).f (.int .u64 256) t77) fun t78=>
opP ((zna P .mul 3 true).f (.int .i64 4) (nth l 6)) fun t82=>
opP ((zna P .add 3 false).f (nth l 4) t82) fun t83=>
opP ((zna P .add 3 false).f t83 (nth l 7)) fun t85=>
opP (zYc 1 (nth l 1) t85) fun t86=>
opW (zca t86 H3) fun t87 H10=>
opW (zbc .u64 t87 H10) fun t88 H12=>
opP ((zna P .add 23 false).f t78 t88) fun t89=>
opP (zKa 64 1 (nth l 5) (nth l 6)) fun t90=>
opW (zla 1 t90 t89 H12) fun u H16=>
opP ((zna P .add 3 true).f (nth l 7) (.int .i64 1)) fun t73=>
N [(nth l 0),(nth l 1),(nth l 2),(nth l 3),(nth l 4),(nth l 5),(nth l 6),t73] H16) (
Qx 8 [(nth l 0),(nth l 1),(nth l 2),(nth l 3),(nth l 4),(nth l 5),(nth l 6)] H)
theorem zBn:LpI P 252 zbj 3980 zfn:=.mk (by kernel_rfl) fun l H N Qx Qr=>by kernel_rfl
def zot(t0:Value)(H:Heap)(K:VH):Prop:=
zNb (zc P 49) H fun t2 H1=>
opW ((zia P 22 0).f [] H1) fun t25 H3=>
opW (zqa 1 1 t25 t0 H3) fun t27 H5=>
opW ((zia P 22 1).f [(0,(.int .u8 128))] H5) fun t28 H7=>
opW (zqa 1 1 t27 t28 H7) fun t29 H9=>
ztb P true 252 zXi 13 [t0,t2,t29] H9 (fun id l H11=>
cond (Nat.beq id 0) (
opW (lenSl (nth l 0) H11) fun t38 H13=>
opW (zbc .u64 t38 H13) fun t39 H15=>
opP ((zna P .mul 23 true).f t39 (.int .u64 8)) fun t40=>
ztb P true 252 zYi 12 [(nth l 1),(nth l 2),t40,(.int .u64 72057594037927936),(.int .i64 0)] H15 (fun id l_1 H18=>
cond (Nat.beq id 2) (
wCall P zQh [] H18 fun t55 H20=>
wCall P zVg [] H20 fun t56 H22=>
zNb (zc P 114) H22 fun t7 H24=>
zNb (zc P 116) H24 fun t8 H26=>
opW (zla 8 t7 t55 H26) fun u H28=>
opW (zla 64 t8 t56 H28) fun u_1 H30=>
ztb P true 252 zZi 132 [(nth l_1 0),(nth l_1 1),t7,t8,(.int .i64 0)] H30 (fun id l_2 H32=>
cond (Nat.beq id 4) (
opP ((zDa P 49).f []) fun t233=>
zNb (zc P 49) H32 fun t23 H35=>
opW (zla 32 t23 t233 H35) fun u_2 H37=>
ztb P true 252 zej 8388612 [(nth l_2 0),(nth l_2 1),t23,(.int .i64 0)] H37 (fun id l_3 H39=>
cond (Nat.beq id 14) (
opW (zma 32 (nth l_3 1) H39) fun t251 H41=>
opW (zla 32 (nth l_3 0) t251 H41) fun u_3 H43=>
opW (zma 32 (nth l_3 0) H43) fun r _=>
K r H43) (
False)) (fun l_3 H39=>
opW (zma 32 (nth l_3 0) H39) fun r_1 _=>
K r_1 H39)) (
False)) (fun l_2 H32=>
opW (zma 32 (nth l_2 0) H32) fun r_2 _=>
K r_2 H32)) (
False)) (fun l_1 H18=>
opW (zma 32 (nth l_1 0) H18) fun r_3 _=>
K r_3 H18)) (
False)) (fun l H11=>
opW (zma 32 (nth l 1) H11) fun r_4 _=>
K r_4 H11)
theorem zpt{t0:Value}{H:Heap}{K:VH}(h:zot t0 H K):wCall P zib [t0] H K:=zea rfl (Eq.mpr (by kernel_rfl) h)
noncomputable abbrev zrl:Code:=zEb P zWd 0
def zsl(l:List Value)(H:Heap)(N:LN)(Qx:LX)(Qr:LN):Prop:=
opP ((zna P .lss 3 false).f (nth l 6) (nth l 5)) fun t32=>
wIf t32 (
opP ((zna P .mul 3 false).f (nth l 6) (nth l 0)) fun t37=>
opW (lenSl (nth l 1) H) fun t39 H3=>
zec (fun J=>
opP ((zna P .sub 3 true).f (nth l 5) (.int .i64 1)) fun t42=>
opP ((zna P .lss 3 false).f (nth l 6) t42) fun t43=>
wIf t43 (
opP ((zna P .add 3 false).f t37 (nth l 0)) fun t46=>
J [(nth l 0),(nth l 1),(nth l 2),(nth l 3),(nth l 4),(nth l 5),(nth l 6),t37,t46] H3) (
J [(nth l 0),(nth l 1),(nth l 2),(nth l 3),(nth l 4),(nth l 5),(nth l 6),t37,t39] H3)) (fun l_1 H9=>
opP (zfa 36 (nth l_1 4)) fun t47=>
opW (zca t47 H9) fun t48 H12=>
opP (zVa 1 (nth l_1 1) (some (nth l_1 7)) (some (nth l_1 8)) none) fun t52=>
wCall P zib [t52] H12 fun t53 H15=>
zmb (zkb H12 H15) (zJa [t47])∧(opW ((zia P 50 1).f [(0,t53)] H15) fun t54 H17=>
opW (zqa 32 32 t48 t54 H17) fun t55 H19=>
opP (zfa 36 (nth l_1 4)) fun t56=>
opW (zla 1 t56 t55 H19) fun u H22=>
opP ((zna P .add 3 true).f (nth l_1 6) (.int .i64 1)) fun t34=>
N [(nth l_1 0),(nth l_1 1),(nth l_1 2),(nth l_1 3),(nth l_1 4),(nth l_1 5),t34] H22))) (
Qx 0 [(nth l 2),(nth l 3),(nth l 4)] H)
theorem zwm:LpI P 62 zrl 1792 zsl:=.mk (by kernel_rfl) fun l H N Qx Qr=>by kernel_rfl
def zFq(t0 t1 t2 t3:Value)(H:Heap)(K:VH):Prop:=
zNb (zc P 52) H fun t8 H1=>
opW (lenSl t3 H1) fun t18 H3=>
wCall P zib [t3] H3 fun t21 H5=>
opP ((zDa P 52).f [(0,t0),(1,t1),(2,t18),(3,t2),(4,t21)]) fun t22=>
zNb (zc P 52) H5 fun t10 H8=>
opW (zla 37 t10 t22 H8) fun u H10=>
opW (lenSl t3 H10) fun t24 H12=>
wCall P zIf [t24,t2] H12 fun t26 H14=>
opP ((zna P .gtr 3 true).f t26 (.int .i64 64)) fun t28=>
wIf t28 (
opP ((zDa P 52).f []) fun t29=>
opW (zla 37 t8 t29 H14) fun u_1 H18=>
opW (zma 37 t8 H18) fun r _=>
K (.tuple [r,(.int .i64 131)].toArray) H18) (
ztb P true 62 zrl 1792 [t2,t3,t8,(.int .i64 0),t10,t26,(.int .i64 0)] H14 (fun id l H21=>
cond (Nat.beq id 0) (
opW (zma 37 (nth l 2) H21) fun t57 H23=>
wCall P zMc [t57] H23 fun t58 H25=>
opP (unA .not t58) fun t59=>
wIf t59 (
opP ((zDa P 52).f []) fun t60=>
opW (zla 37 (nth l 0) t60 H25) fun u_2 H29=>
opW (zma 37 (nth l 0) H29) fun r_1 _=>
K (.tuple [r_1,(.int .i64 131)].toArray) H29) (
opW (zma 37 (nth l 2) H25) fun t61 H32=>
opW (zla 37 (nth l 0) t61 H32) fun u_3 H34=>
opW (zma 37 (nth l 0) H34) fun r_2 _=>
K (.tuple [r_2,(.int .i64 0)].toArray) H34)) (
False)) (fun l H21=>
opW (zma 37 (nth l 0) H21) fun r_3 _=>
K (.tuple [r_3,(nth l 1)].toArray) H21))
theorem zPr{t0 t1 t2 t3:Value}{H:Heap}{K:VH}(h:zFq t0 t1 t2 t3 H K):wCall P zWd [t0,t1,t2,t3] H K:=zea rfl (Eq.mpr (by kernel_rfl) h)
def zGq(t0 t1:Value)(H:Heap)(K:VH):Prop:=
zNb (zBa t0) H fun t2 H1=>
zec (fun J=>
opW (zma 37 t2 H1) fun t6 H4=>
wCall P zMc [t6] H4 fun t7 H6=>
opP (unA .not t7) fun t8=>
wIf t8 (
opP (zga t8 (.bool true) undef) fun t12=>
opP (zga t12 (.bool true) undef) fun t19=>
J [t1,t2,t19] H6) (
opP ((zna P .lss 3 true).f t1 (.int .i64 0)) fun t11=>
opP (zga t8 (.bool true) t11) fun t12_1=>
wIf t12_1 (
opP (zga t12_1 (.bool true) undef) fun t19_1=>
J [t1,t2,t19_1] H6) (
opP (zfa 36 t2) fun t15=>
opW (zca t15 H6) fun t16 H15=>
opW (lenSl t16 H15) fun t17 H17=>
opP ((zna P .geq 3 false).f t1 t17) fun t18=>
opP (zga t12_1 (.bool true) t18) fun t19_2=>
J [t1,t2,t19_2] H17))) (fun l H21=>
wIf (nth l 2) (
K (.tuple [(.int .i64 0),(.int .i64 0)].toArray) H21) (
opP (zfa 36 (nth l 1)) fun t21=>
opW (zca t21 H21) fun t22 H24=>
opW (lenSl t22 H24) fun t23 H26=>
opP ((zna P .sub 3 true).f t23 (.int .i64 1)) fun t24=>
opP ((zna P .eql 3 false).f (nth l 0) t24) fun t25=>
wIf t25 (
opP (zfa 3 (nth l 1)) fun t27=>
opW (zca t27 H26) fun t28 H31=>
opP ((zna P .mul 3 false).f (nth l 0) t28) fun t29=>
opP (zfa 2 (nth l 1)) fun t30=>
opW (zca t30 H31) fun t31 H35=>
opP (zfa 3 (nth l 1)) fun t33=>
opW (zca t33 H35) fun t34 H38=>
opP ((zna P .mul 3 false).f (nth l 0) t34) fun t35=>
opP ((zna P .sub 3 false).f t31 t35) fun t36=>
K (.tuple [t29,t36].toArray) H38) (
opP (zfa 3 (nth l 1)) fun t38=>
opW (zca t38 H26) fun t39 H43=>
opP ((zna P .mul 3 false).f (nth l 0) t39) fun t40=>
opP (zfa 3 (nth l 1)) fun t41=>
opW (zca t41 H43) fun t42 H47=>
K (.tuple [t40,t42].toArray) H47)))
theorem zQr{t0 t1:Value}{H:Heap}{K:VH}(h:zGq t0 t1 H K):wCall P zNi [t0,t1] H K:=zea rfl (Eq.mpr (by kernel_rfl) h)
def zTd(t0:Value)(H:Heap)(K:VH):Prop:=
opP (zha t0) fun t5=>
opP (zfa 44 t5) fun t6=>
opW (zca t6 H) fun t7 H3=>
opP ((zna P .eql 94 true).f t7 (.pointer none)) fun t8=>
wIf t8 (
K (.int .i64 (-1)) H3) (
opP (zha t0) fun t11=>
opP (zfa 44 t11) fun t12=>
opW (zca t12 H3) fun t13 H8=>
wCall P zgc [t13] H8 fun t14 H10=>
wIf t14 (
K (.int .i64 (-2)) H10) (
opP (zha t0) fun t16=>
opP (zfa 44 t16) fun t17=>
opW (zca t17 H10) fun t18 H14=>
wCall P zQd [t18] H14 fun t19 H16=>
K t19 H16))
theorem zFe{t0:Value}{H:Heap}{K:VH}(h:zTd t0 H K):wCall P zGa [t0] H K:=zea rfl (Eq.mpr (by kernel_rfl) h)
def zJg(t0:Value)(H:Heap)(K:VH):Prop:=
opP (zha t0) fun t4=>
opP (zfa 45 t4) fun t5=>
opW (zca t5 H) fun t6 H3=>
K t6 H3
theorem zfj{t0:Value}{H:Heap}{K:VH}(h:zJg t0 H K):wCall P zob [t0] H K:=zea rfl (Eq.mpr (by kernel_rfl) h)
def znh(t0:Value)(H:Heap)(K:VH):Prop:=
opP (zha t0) fun t4=>
opP (zfa 46 t4) fun t5=>
opW (zca t5 H) fun t6 H3=>
K t6 H3
theorem zVj{t0:Value}{H:Heap}{K:VH}(h:znh t0 H K):wCall P zfc [t0] H K:=zea rfl (Eq.mpr (by kernel_rfl) h)
def zGe(t0:Value)(H:Heap)(K:VH):Prop:=
zNb (zc P 52) H fun t2 H1=>
opP (zha t0) fun t6=>
opP (zfa 7 t6) fun t7=>
opW (zma 37 t7 H1) fun t8 H5=>
zNb (zc P 52) H5 fun t4 H7=>
opW (zla 37 t4 t8 H7) fun u H9=>
opP (zfa 36 t4) fun t9=>
opW (zca t9 H9) fun t10 H12=>
wCall P zgb [t10] H12 fun t11 H14=>
opP (zfa 36 t4) fun t12=>
opW (zla 1 t12 t11 H14) fun u_1 H17=>
opW (zma 37 t4 H17) fun t13 H19=>
opP (zha t0) fun t15=>
opP (zfa 44 t15) fun t16=>
opW (zca t16 H19) fun t17 H23=>
opP ((zna P .neq 94 true).f t17 (.pointer none)) fun t18=>
opW (zla 37 t2 t13 H23) fun u_2 H26=>
zlk (zJa [t16]) (zJa [t2,t13])∧(opW (zma 37 t2 H26) fun r _=>
K (.tuple [r,t18].toArray) H26)
theorem zZg{t0:Value}{H:Heap}{K:VH}(h:zGe t0 H K):wCall P zTb [t0] H K:=zea rfl (Eq.mpr (by kernel_rfl) h)
def zue(t0:Value)(H:Heap)(K:VH):Prop:=
opP (zha t0) fun t4=>
opP (zfa 2 t4) fun t5=>
opW (zca t5 H) fun t6 H3=>
K t6 H3
theorem zmg{t0:Value}{H:Heap}{K:VH}(h:zue t0 H K):wCall P ztc [t0] H K:=zea rfl (Eq.mpr (by kernel_rfl) h)
def zHe(t0:Value)(H:Heap)(K:VH):Prop:=
opP ((zna P .eql 22 true).f t0 (.slice none 0 0)) fun t4=>
wIf t4 (
K (.slice none 0 0) H) (
opW ((zia P 22 0).f [] H) fun t5 H2=>
opW (zqa 1 1 t5 t0 H2) fun t7 H4=>
K t7 H4)
theorem zah{t0:Value}{H:Heap}{K:VH}(h:zHe t0 H K):wCall P zUb [t0] H K:=zea rfl (Eq.mpr (by kernel_rfl) h)
def zYd(t0:Value)(H:Heap)(K:VH):Prop:=
opP (zha t0) fun t4=>
opP (zfa 3 t4) fun t5=>
opW (zca t5 H) fun t6 H3=>
wIf t6 (
K (.int .i64 0) H3) (
opP (zha t0) fun t8=>
opP (zfa 0 t8) fun t9=>
opW (zca t9 H3) fun t10 H7=>
opW (lenSl t10 H7) fun t11 H9=>
opP (zha t0) fun t13=>
opP (zfa 2 t13) fun t14=>
opW (zca t14 H9) fun t15 H13=>
opP ((zna P .sub 3 false).f t11 t15) fun t16=>
K t16 H13)
theorem zag{t0:Value}{H:Heap}{K:VH}(h:zYd t0 H K):wCall P zic [t0] H K:=zea rfl (Eq.mpr (by kernel_rfl) h)
def zId(t0 t1:Value)(H:Heap)(K:VH):Prop:=
opP (zha t0) fun t6=>
opP (zfa 1 t6) fun t7=>
opW (zca t7 H) fun t8 H3=>
opP ((zna P .add 3 false).f t8 t1) fun t10=>
opP (zha t0) fun t12=>
opP (zfa 0 t12) fun t13=>
opW (zca t13 H3) fun t14 H8=>
opW (lenSl t14 H8) fun t15 H10=>
opP ((zna P .rem 3 false).f t10 t15) fun t16=>
K t16 H10
theorem zJf{t0 t1:Value}{H:Heap}{K:VH}(h:zId t0 t1 H K):wCall P zCb [t0,t1] H K:=zea rfl (Eq.mpr (by kernel_rfl) h)
def zoh(t0:Value)(H:Heap)(K:VH):Prop:=
opP (zha t0) fun t4=>
opP (zfa 6 t4) fun t5=>
opW (zca t5 H) fun t6 H3=>
wCall P zcb [t6] H3 fun t7 H5=>
opP ((zna P .eql 3 true).f t7 (.int .i64 0)) fun t8=>
wIf t8 (
K (.bool false) H5) (
opP (zha t0) fun t10=>
opP (zfa 44 t10) fun t11=>
opW (zca t11 H5) fun t12 H10=>
wCall P zzd [t12] H10 fun t13 H12=>
opP (unA .not t13) fun t14=>
wIf t14 (
opP (zha t0) fun t16=>
opP (zfa 46 t16) fun t17=>
opW (zla 1 t17 (.int .i64 153) H12) fun u H17=>
K (.bool true) H17) (
opP (zha t0) fun t19=>
opP (zfa 6 t19) fun t20=>
opW (zca t20 H12) fun t21 H21=>
opP ((zDa P 108).f []) fun t22=>
wCall P zQa [t21,(.iface 108 t22)] H21 fun t24 H24=>
opP (zha t0) fun t26=>
opP (zfa 45 t26) fun t27=>
opW (zla 1 t27 (.bool true) H24) fun u_1 H28=>
K (.bool true) H28))
theorem zWj{t0:Value}{H:Heap}{K:VH}(h:zoh t0 H K):wCall P zLc [t0] H K:=zea rfl (Eq.mpr (by kernel_rfl) h)
def zve(t0:Value)(H:Heap)(K:VH):Prop:=
opP (zha t0) fun t4=>
opP (zfa 3 t4) fun t5=>
opW (zca t5 H) fun t6 H3=>
wIf t6 (
K (.int .i64 0) H3) (
opP (zha t0) fun t8=>
opP (zfa 0 t8) fun t9=>
opW (zca t9 H3) fun t10 H7=>
opW (lenSl t10 H7) fun t11 H9=>
opP (zha t0) fun t13=>
opP (zfa 2 t13) fun t14=>
opW (zca t14 H9) fun t15 H13=>
opP ((zna P .sub 3 false).f t11 t15) fun t16=>
K t16 H13)
theorem zng{t0:Value}{H:Heap}{K:VH}(h:zve t0 H K):wCall P zcb [t0] H K:=zea rfl (Eq.mpr (by kernel_rfl) h)
end
end J
set_option maxRecDepth 100000
namespace J
open Go Go.Ab
noncomputable section
def zZd(t0:Value)(H:Heap)(K:VH):Prop:=
zNb (zc P 35) H fun t2 H1=>
wCall P zkc [t0] H1 fun t9 H3=>
opP (zFc 0 t9) fun t10=>
opP (zFc 1 t9) fun t11=>
zNb (zc P 35) H3 fun t4 H7=>
opW (zla 2 t4 t10 H7) fun u H9=>
wIf t11 (
zNb (zc P 35) H9 fun t6 H11=>
opP (zha t0) fun t14=>
opP (zfa 0 t14) fun t15=>
opW (zca t15 H11) fun t16 H15=>
opP (zha t0) fun t18=>
opP (zfa 1 t18) fun t19=>
opW (zca t19 H15) fun t20 H19=>
opW (zma 2 t6 H19) fun t21 H21=>
opP (zYc 2 t16 t20) fun t22=>
opW (zla 2 t22 t21 H21) fun u_1 H24=>
wCall P zCb [t0,(.int .i64 1)] H24 fun t25 H26=>
opP (zha t0) fun t26=>
opP (zfa 1 t26) fun t27=>
opW (zla 1 t27 t25 H26) fun u_2 H30=>
opP (zha t0) fun t29=>
opP (zfa 2 t29) fun t30=>
opW (zca t30 H30) fun t31 H34=>
opP ((zna P .sub 3 true).f t31 (.int .i64 1)) fun t32=>
opP (zha t0) fun t33=>
opP (zfa 2 t33) fun t34=>
opW (zla 1 t34 t32 H34) fun u_3 H39=>
opW (zma 2 t4 H39) fun t35 H41=>
opW (zla 2 t2 t35 H41) fun u_4 H43=>
opW (zma 2 t2 H43) fun r _=>
K (.tuple [r,t11].toArray) H43) (
opW (zma 2 t4 H9) fun t35_1 H46=>
opW (zla 2 t2 t35_1 H46) fun u_5 H48=>
opW (zma 2 t2 H48) fun r_1 _=>
K (.tuple [r_1,t11].toArray) H48)
theorem zbg{t0:Value}{H:Heap}{K:VH}(h:zZd t0 H K):wCall P zjc [t0] H K:=zea rfl (Eq.mpr (by kernel_rfl) h)
def zKg(t0 t1:Value)(H:Heap)(K:VH):Prop:=
opP (zha t0) fun t10=>
opP (zfa 0 t10) fun t11=>
opW (zca t11 H) fun t12 H3=>
wCall P zJk [t12,t1] H3 fun t14 H5=>
opP (zFc 0 t14) fun t15=>
opP (zFc 1 t14) fun t16=>
opP (zFc 2 t14) fun t17=>
zNb (zc P 52) H5 fun t4 H10=>
opW (zla 37 t4 t15 H10) fun u H12=>
opP ((zna P .neq 67 true).f t17 (.int .i64 0)) fun t19=>
wIf t19 (
opP (zha t0) fun t21=>
opP (zfa 5 t21) fun t22=>
opW (zca t22 H12) fun t23 H17=>
opP ((zDa P 103).f [(0,(.int .i64 (-1)))]) fun t24=>
wCall P zQa [t23,(.iface 103 t24)] H17 fun t26 H20=>
K (.tuple [].toArray) H20) (
opW (zma 37 t4 H12) fun t27 H22=>
opP (zha t0) fun t29=>
opP (zfa 1 t29) fun t30=>
opW (zma 3 t30 H22) fun t31 H26=>
wCall P zOi [t27,t31] H26 fun t32 H28=>
opP ((zna P .neq 67 true).f t32 (.int .i64 0)) fun t34=>
wIf t34 (
opP (zha t0) fun t37=>
opP (zfa 46 t37) fun t38=>
opW (zla 1 t38 t32 H28) fun u_1 H33=>
K (.tuple [].toArray) H33) (
opW (zma 37 t4 H28) fun t40 H35=>
opP (zha t0) fun t41=>
opP (zfa 7 t41) fun t42=>
opW (zla 37 t42 t40 H35) fun u_2 H39=>
opW (zma 37 t4 H39) fun t45 H41=>
wCall P zKk [t45] H41 fun t46 H43=>
opP (zFc 0 t46) fun t47=>
opP (zFc 1 t46) fun t48=>
opP (zha t0) fun t49=>
opP (zfa 44 t49) fun t50=>
opW (zla 1 t50 t47 H43) fun u_3 H49=>
opP (zha t0) fun t52=>
opP (zfa 5 t52) fun t53=>
opW (zca t53 H49) fun t54 H53=>
opW (zma 37 t4 H53) fun t56 H55=>
opP ((zDa P 105).f [(0,t16),(1,t56)]) fun t57=>
wCall P zQa [t54,(.iface 105 t57)] H55 fun t59 H58=>
opP (zha t0) fun t61=>
opP (zfa 6 t61) fun t62=>
opW (zca t62 H58) fun t63 H62=>
opW (zma 37 t4 H62) fun t65 H64=>
opP ((zDa P 105).f [(0,t16),(1,t65)]) fun t66=>
wCall P zQa [t63,(.iface 105 t66)] H64 fun t68 H67=>
K (.tuple [].toArray) H67))
theorem zgj{t0 t1:Value}{H:Heap}{K:VH}(h:zKg t0 t1 H K):wCall P zyc [t0,t1] H K:=zea rfl (Eq.mpr (by kernel_rfl) h)
def zLg(t0 t1:Value)(H:Heap)(K:VH):Prop:=
zNb (zBa t1) H fun t3 H1=>
opP (zha t0) fun t5=>
opP (zfa 44 t5) fun t6=>
opW (zca t6 H1) fun t7 H5=>
opP (zfa 0 t3) fun t8=>
opW (zca t8 H5) fun t9 H8=>
opP (zfa 1 t3) fun t10=>
opW (zca t10 H8) fun t11 H11=>
wCall P zRd [t7,t9,t11] H11 fun t12 H13=>
opP ((zna P .neq 67 true).f t12 (.int .i64 0)) fun t13=>
wIf t13 (
opP (zha t0) fun t15=>
opP (zfa 5 t15) fun t16=>
opW (zca t16 H13) fun t17 H18=>
opP (zfa 0 t3) fun t18=>
opW (zca t18 H18) fun t19 H21=>
opP ((zDa P 103).f [(0,t19)]) fun t20=>
wCall P zQa [t17,(.iface 103 t20)] H21 fun t22 H24=>
K (.tuple [].toArray) H24) (
opP (zha t0) fun t24=>
opP (zfa 6 t24) fun t25=>
opW (zca t25 H13) fun t26 H28=>
opP (zfa 0 t3) fun t27=>
opW (zca t27 H28) fun t28 H31=>
opP (zfa 1 t3) fun t29=>
opW (zca t29 H31) fun t30 H34=>
opP ((zDa P 106).f [(0,t28),(1,t30)]) fun t31=>
wCall P zQa [t26,(.iface 106 t31)] H34 fun t33 H37=>
K (.tuple [].toArray) H37)
theorem zhj{t0 t1:Value}{H:Heap}{K:VH}(h:zLg t0 t1 H K):wCall P zzc [t0,t1] H K:=zea rfl (Eq.mpr (by kernel_rfl) h)
def zwe(t0:Value)(H:Heap)(K:VH):Prop:=
opP (zha t0) fun t6=>
opP (zfa 2 t6) fun t7=>
opW (zca t7 H) fun t8 H3=>
opP ((zna P .eql 3 true).f t8 (.int .i64 0)) fun t9=>
wIf t9 (
K (.tuple [.nilIface,(.bool false)].toArray) H3) (
opP (zha t0) fun t12=>
opP (zfa 0 t12) fun t13=>
opW (zca t13 H3) fun t14 H8=>
opP (zha t0) fun t16=>
opP (zfa 1 t16) fun t17=>
opW (zca t17 H8) fun t18 H12=>
opP (zYc 1 t14 t18) fun t19=>
opW (zca t19 H12) fun t20 H15=>
K (.tuple [t20,(.bool true)].toArray) H15)
theorem zog{t0:Value}{H:Heap}{K:VH}(h:zwe t0 H K):wCall P zuc [t0] H K:=zea rfl (Eq.mpr (by kernel_rfl) h)
def zae(t0 t1:Value)(H:Heap)(K:VH):Prop:=
opP (zha t0) fun t6=>
opP (zfa 1 t6) fun t7=>
opW (zca t7 H) fun t8 H3=>
opP ((zna P .add 3 false).f t8 t1) fun t10=>
opP (zha t0) fun t12=>
opP (zfa 0 t12) fun t13=>
opW (zca t13 H3) fun t14 H8=>
opW (lenSl t14 H8) fun t15 H10=>
opP ((zna P .rem 3 false).f t10 t15) fun t16=>
K t16 H10
theorem zcg{t0 t1:Value}{H:Heap}{K:VH}(h:zae t0 t1 H K):wCall P zIb [t0,t1] H K:=zea rfl (Eq.mpr (by kernel_rfl) h)
def zVo(t0:Value)(H:Heap)(K:VH):Prop:=
zNb (zBa t0) H fun t1 H1=>
zec (fun J=>
opP (zfa 0 t1) fun t3=>
opW (zca t3 H1) fun t4 H5=>
wCall P zff [t4] H5 fun t5 H7=>
opP ((zna P .neq 3 true).f t5 (.int .i64 0)) fun t6=>
wIf t6 (
opP (zga t6 (.bool true) undef) fun t11=>
opP (zga t11 (.bool true) undef) fun t16=>
opP (zga t16 (.bool true) undef) fun t21=>
opP (zga t21 (.bool true) undef) fun t26=>
wIf t26 (
K (.bool false) H7) (
J [t1] H7)) (
opP (zfa 1 t1) fun t8=>
opW (zca t8 H7) fun t9 H15=>
opP ((zna P .lss 23 true).f t9 (.int .u64 1)) fun t10=>
opP (zga t6 (.bool true) t10) fun t11_1=>
wIf t11_1 (
opP (zga t11_1 (.bool true) undef) fun t16_1=>
opP (zga t16_1 (.bool true) undef) fun t21_1=>
opP (zga t21_1 (.bool true) undef) fun t26_1=>
wIf t26_1 (
K (.bool false) H15) (
J [t1] H15)) (
opP (zfa 1 t1) fun t13=>
opW (zca t13 H15) fun t14 H23=>
opP ((zna P .gtr 23 true).f t14 (.int .u64 281474976710656)) fun t15=>
opP (zga t11_1 (.bool true) t15) fun t16_2=>
wIf t16_2 (
opP (zga t16_2 (.bool true) undef) fun t21_2=>
opP (zga t21_2 (.bool true) undef) fun t26_2=>
wIf t26_2 (
K (.bool false) H23) (
J [t1] H23)) (
opP (zfa 2 t1) fun t18=>
opW (zca t18 H23) fun t19 H30=>
opP ((zna P .lss 3 true).f t19 (.int .i64 1)) fun t20=>
opP (zga t16_2 (.bool true) t20) fun t21_3=>
wIf t21_3 (
opP (zga t21_3 (.bool true) undef) fun t26_3=>
wIf t26_3 (
K (.bool false) H30) (
J [t1] H30)) (
opP (zfa 2 t1) fun t23=>
opW (zca t23 H30) fun t24 H36=>
opP ((zna P .gtr 3 true).f t24 (.int .i64 65536)) fun t25=>
opP (zga t21_3 (.bool true) t25) fun t26_4=>
wIf t26_4 (
K (.bool false) H36) (
J [t1] H36)))))) (fun l H40=>
zec (fun J_1=>
opP (zfa 3 (nth l 0)) fun t27=>
opW (zca t27 H40) fun t28 H44=>
opP ((zna P .lss 3 true).f t28 (.int .i64 64)) fun t29=>
wIf t29 (
opP (zga t29 (.bool true) undef) fun t34=>
opP (zga t34 (.bool true) undef) fun t40=>
wIf t40 (
K (.bool false) H44) (
J_1 [(nth l 0)] H44)) (
opP (zfa 3 (nth l 0)) fun t31=>
opW (zca t31 H44) fun t32 H50=>
opP ((zna P .gtr 3 true).f t32 (.int .i64 1024)) fun t33=>
opP (zga t29 (.bool true) t33) fun t34_1=>
wIf t34_1 (
opP (zga t34_1 (.bool true) undef) fun t40_1=>
wIf t40_1 (
K (.bool false) H50) (
J_1 [(nth l 0)] H50)) (
opP (zfa 3 (nth l 0)) fun t36=>
opW (zca t36 H50) fun t37 H56=>
opP ((zna P .rem 3 true).f t37 (.int .i64 64)) fun t38=>
opP ((zna P .neq 3 true).f t38 (.int .i64 0)) fun t39=>
opP (zga t34_1 (.bool true) t39) fun t40_2=>
wIf t40_2 (
K (.bool false) H56) (
J_1 [(nth l 0)] H56)))) (fun l_1 H61=>
opP (zfa 36 (nth l_1 0)) fun t41=>
opW (zca t41 H61) fun t42 H64=>
opW (lenSl t42 H64) fun t43 H66=>
opP ((zna P .leq 3 true).f t43 (.int .i64 64)) fun t44=>
wIf t44 (
opP (zfa 36 (nth l_1 0)) fun t46=>
opW (zca t46 H66) fun t47 H70=>
opW (lenSl t47 H70) fun t48 H72=>
opP (zfa 2 (nth l_1 0)) fun t49=>
opW (zca t49 H72) fun t50 H75=>
opP (zfa 3 (nth l_1 0)) fun t51=>
opW (zca t51 H75) fun t52 H78=>
wCall P zIf [t50,t52] H78 fun t53 H80=>
zmb (zkb H78 H80) (zJa [t46])∧(opP ((zna P .eql 3 false).f t48 t53) fun t54=>
opP (zga t44 t54 (.bool false)) fun t55=>
K t55 H80)) (
opP (zga t44 undef (.bool false)) fun t55_1=>
K t55_1 H66)))
theorem zUp{t0:Value}{H:Heap}{K:VH}(h:zVo t0 H K):wCall P zMc [t0] H K:=zea rfl (Eq.mpr (by kernel_rfl) h)
noncomputable abbrev zok:Code:=zEb P zHf 0
def zpk(l:List Value)(H:Heap)(N:LN)(Qx:LX)(Qr:LN):Prop:=
opP ((zna P .lss 3 false).f (nth l 4) (nth l 3)) fun t41=>
wIf t41 (
opP (zYc 32 (nth l 2) (nth l 4)) fun t42=>
opW (zma 32 t42 H) fun t43 H3=>
zNb (zc P 49) H3 fun t5 H5=>
opW (zla 32 t5 t43 H5) fun u H7=>
opP (zGb 32 1 t5 none none none H7) fun t45=>
opW (zqa 1 1 (nth l 1) t45 H7) fun t46 H10=>
opP ((zna P .add 3 true).f (nth l 4) (.int .i64 1)) fun t47=>
N [(nth l 0),t46,(nth l 2),(nth l 3),t47] H10) (
Qx 0 [(nth l 0),(nth l 1)] H)
theorem ztl:LpI P 49 zok 12 zpk:=.mk (by kernel_rfl) fun l H N Qx Qr=>by kernel_rfl
def zWo(t0:Value)(H:Heap)(K:VH):Prop:=
zNb (zBa t0) H fun t1 H1=>
opW ((zia P 22 0).f [] H1) fun t6 H3=>
opW (zma 37 t1 H3) fun t7 H5=>
wCall P zMc [t7] H5 fun t8 H7=>
opP (unA .not t8) fun t9=>
wIf t9 (
K t6 H7) (
opP (zfa 0 t1) fun t12=>
opW (zca t12 H7) fun t13 H11=>
wCall P zPi [t13] H11 fun t14 H13=>
opW (zqa 1 1 t6 t14 H13) fun t15 H15=>
opP (zfa 1 t1) fun t17=>
opW (zca t17 H15) fun t18 H18=>
wCall P zqc [t18,(.int .i64 8)] H18 fun t19 H20=>
opW (zqa 1 1 t15 t19 H20) fun t20 H22=>
opP (zfa 2 t1) fun t22=>
opW (zca t22 H22) fun t23 H25=>
opW (zbc .u64 t23 H25) fun t24 H27=>
wCall P zqc [t24,(.int .i64 4)] H27 fun t25 H29=>
opW (zqa 1 1 t20 t25 H29) fun t26 H31=>
opP (zfa 3 t1) fun t28=>
opW (zca t28 H31) fun t29 H34=>
opW (zbc .u64 t29 H34) fun t30 H36=>
wCall P zqc [t30,(.int .i64 2)] H36 fun t31 H38=>
opW (zqa 1 1 t26 t31 H38) fun t32 H40=>
opP (zfa 4 t1) fun t34=>
opP (zGb 32 1 t34 none none none H40) fun t35=>
opW (zqa 1 1 t32 t35 H40) fun t36 H44=>
opP (zfa 36 t1) fun t37=>
opW (zca t37 H44) fun t38 H47=>
opW (lenSl t38 H47) fun t39 H49=>
ztb P true 49 zok 12 [(.slice none 0 0),t36,t38,t39,(.int .i64 0)] H49 (fun id l H51=>
cond (Nat.beq id 0) (
K (nth l 1) H51) (
False)) (fun l H51=>
K (nth l 0) H51))
theorem zVp{t0:Value}{H:Heap}{K:VH}(h:zWo t0 H K):wCall P zHf [t0] H K:=zea rfl (Eq.mpr (by kernel_rfl) h)
def zgn(t0 t1:Value)(H:Heap)(K:VH):Prop:=
wCall P zRh [t0,t1] H fun t8 H1=>
zNb (zc P 49) H1 fun t5 H3=>
opW (zla 32 t5 t8 H3) fun u H5=>
opW ((zia P 22 0).f [] H5) fun t9 H7=>
opW (zqa 1 1 t9 t1 H7) fun t11 H9=>
opP (zGb 32 1 t5 none none none H9) fun t12=>
zlk (zJa [t9,t1]) (zJa [t5])∧zsq (zJa [t5]) H7.next H9.next∧(zsq (zJa [t5]) H5.next H7.next∧(opW (zqa 1 1 t11 t12 H9) fun t13 H12=>
K t13 H12))
theorem zXo{t0 t1:Value}{H:Heap}{K:VH}(h:zgn t0 t1 H K):wCall P zUg [t0,t1] H K:=zea rfl (Eq.mpr (by kernel_rfl) h)
noncomputable abbrev zqk:Code:=zEb P zqc 0
def zrk(l:List Value)(H:Heap)(N:LN)(Qx:LX)(Qr:LN):Prop:=
wCall P zQi [(nth l 1)] H fun t10 H1=>
opP ((zna P .lss 3 false).f (nth l 4) t10) fun t11=>
wIf t11 (
opP ((zna P .rem 23 true).f (nth l 0) (.int .u64 256)) fun t16=>
opW (zbc .u8 t16 H1) fun t17 H5=>
opW ((zia P 22 1).f [(0,t17)] H5) fun t18 H7=>
opW (zqa 1 1 (nth l 3) t18 H7) fun t19 H9=>
opP ((zna P .quo 23 true).f (nth l 0) (.int .u64 256)) fun t21=>
opP ((zna P .add 3 true).f (nth l 4) (.int .i64 1)) fun t13=>
N [t21,(nth l 1),(nth l 2),t19,t13] H9) (
Qx 0 [(nth l 2),(nth l 3)] H1)
theorem zul:LpI P 23 zqk 48 zrk:=.mk (by kernel_rfl) fun l H N Qx Qr=>by kernel_rfl
def zYo(t0 t1:Value)(H:Heap)(K:VH):Prop:=
opW ((zia P 22 0).f [] H) fun t7 H1=>
ztb P true 23 zqk 48 [t0,t1,(.slice none 0 0),t7,(.int .i64 0)] H1 (fun id l H3=>
cond (Nat.beq id 0) (
K (nth l 1) H3) (
False)) (fun l H3=>
K (nth l 0) H3)
theorem zWp{t0 t1:Value}{H:Heap}{K:VH}(h:zYo t0 t1 H K):wCall P zqc [t0,t1] H K:=zea rfl (Eq.mpr (by kernel_rfl) h)
noncomputable abbrev zvl:Code:=zEb P zef 0
def zwl(l:List Value)(H:Heap)(N:LN)(Qx:LX)(Qr:LN):Prop:=
opP ((zna P .lss 3 false).f (nth l 4) (nth l 3)) fun t10=>
wIf t10 (
opP (zYc 3 (nth l 2) (nth l 4)) fun t11=>
opW (zma 3 t11 H) fun t12 H3=>
zNb (zc P 139) H3 fun t5 H5=>
opW (zla 3 t5 t12 H5) fun u H7=>
opP (zfa 2 t5) fun t13=>
opW (zca t13 H7) fun t14 H10=>
wIf t14 (
opP (zfa 1 t5) fun t16=>
opW (zca t16 H10) fun t17 H13=>
opP ((zna P .add 9 false).f (nth l 1) t17) fun t18=>
opP ((zna P .add 3 true).f (nth l 4) (.int .i64 1)) fun t27=>
N [(nth l 0),t18,(nth l 2),(nth l 3),t27] H13) (
opP (zfa 0 t5) fun t20=>
opW (zca t20 H10) fun t21 H18=>
opW (zbc .i32 t21 H18) fun t22 H20=>
wCall P zkh [t22] H20 fun t23 H22=>
opW (zbc .i64 t23 H22) fun t24 H24=>
wCall P zLk [t24] H24 fun t25 H26=>
opP ((zna P .add 9 false).f (nth l 1) t25) fun t26=>
opP ((zna P .add 3 true).f (nth l 4) (.int .i64 1)) fun t27_1=>
N [(nth l 0),t26,(nth l 2),(nth l 3),t27_1] H26)) (
Qx 0 [(nth l 0),(nth l 1)] H)
theorem zxm:LpI P 29 zvl 12 zwl:=.mk (by kernel_rfl) fun l H N Qx Qr=>by kernel_rfl
def zHq(t0:Value)(H:Heap)(K:VH):Prop:=
wCall P zoe [t0] H fun t7 H1=>
opW (lenSl t7 H1) fun t8 H3=>
ztb P true 29 zvl 12 [(.string ⟨#[]⟩),(.string ⟨#[]⟩),t7,t8,(.int .i64 0)] H3 (fun id l H5=>
cond (Nat.beq id 0) (
K (nth l 1) H5) (
False)) (fun l H5=>
K (nth l 0) H5)
theorem zRr{t0:Value}{H:Heap}{K:VH}(h:zHq t0 H K):wCall P zef [t0] H K:=zea rfl (Eq.mpr (by kernel_rfl) h)
def zZo(H:Heap)(K:VH):Prop:=
zNb (zc P 114) H fun t0 H1=>
opP ((zDa P 114).f [(0,(.int .u64 1779033703)),(1,(.int .u64 3144134277)),(2,(.int .u64 1013904242)),(3,(.int .u64 2773480762)),(4,(.int .u64 1359893119)),(5,(.int .u64 2600822924)),(6,(.int .u64 528734635)),(7,(.int .u64 1541459225))]) fun t1=>
opW (zla 8 t0 t1 H1) fun u H4=>
opW (zma 8 t0 H4) fun r _=>
K r H4
theorem zXp{H:Heap}{K:VH}(h:zZo  H K):wCall P zQh [] H K:=zea rfl (Eq.mpr (by kernel_rfl) h)
def zhn(H:Heap)(K:VH):Prop:=
zNb (zc P 116) H fun t0 H1=>
opP ((zDa P 116).f [(0,(.int .u64 1116352408)),(1,(.int .u64 1899447441)),(2,(.int .u64 3049323471)),(3,(.int .u64 3921009573)),(4,(.int .u64 961987163)),(5,(.int .u64 1508970993)),(6,(.int .u64 2453635748)),(7,(.int .u64 2870763221)),(8,(.int .u64 3624381080)),(9,(.int .u64 310598401)),(10,(.int .u64 607225278)),(11,(.int .u64 1426881987)),(12,(.int .u64 1925078388)),(13,(.int .u64 2162078206)),(14,(.int .u64 2614888103)),(15,(.int .u64 3248222580)),(16,(.int .u64 3835390401)),(17,(.int .u64 4022224774)),(18,(.int .u64 264347078)),(19,(.int .u64 604807628)),(20,(.int .u64 770255983)),(21,(.int .u64 1249150122)),(22,(.int .u64 1555081692)),(23,(.int .u64 1996064986)),(24,(.int .u64 2554220882)),(25,(.int .u64 2821834349)),(26,(.int .u64 2952996808)),(27,(.int .u64 3210313671)),(28,(.int .u64 3336571891)),(29,(.int .u64 3584528711)),(30,(.int .u64 113926993)),(31,(.int .u64 338241895)),(32,(.int .u64 666307205)),(33,(.int .u64 773529912)),(34,(.int .u64 1294757372)),(35,(.int .u64 1396182291)),(36,(.int .u64 1695183700)),(37,(.int .u64 1986661051)),(38,(.int .u64 2177026350)),(39,(.int .u64 2456956037)),(40,(.int .u64 2730485921)),(41,(.int .u64 2820302411)),(42,(.int .u64 3259730800)),(43,(.int .u64 3345764771)),(44,(.int .u64 3516065817)),(45,(.int .u64 3600352804)),(46,(.int .u64 4094571909)),(47,(.int .u64 275423344)),(48,(.int .u64 430227734)),(49,(.int .u64 506948616)),(50,(.int .u64 659060556)),(51,(.int .u64 883997877)),(52,(.int .u64 958139571)),(53,(.int .u64 1322822218)),(54,(.int .u64 1537002063)),(55,(.int .u64 1747873779)),(56,(.int .u64 1955562222)),(57,(.int .u64 2024104815)),(58,(.int .u64 2227730452)),(59,(.int .u64 2361852424)),(60,(.int .u64 2428436474)),(61,(.int .u64 2756734187)),(62,(.int .u64 3204031479)),(63,(.int .u64 3329325298))]) fun t1=>
opW (zla 64 t0 t1 H1) fun u H4=>
opW (zma 64 t0 H4) fun r _=>
K r H4
theorem zap{H:Heap}{K:VH}(h:zhn  H K):wCall P zVg [] H K:=zea rfl (Eq.mpr (by kernel_rfl) h)
def zbp(t0 t1:Value)(H:Heap)(K:VH):Prop:=
opP ((zna P .shr 23 false).f t0 t1) fun t7=>
opP ((zna P .sub 23 true).f (.int .u64 32) t1) fun t10=>
opP ((zna P .shl 23 false).f t0 t10) fun t11=>
opP ((zna P .or 23 false).f t7 t11) fun t12=>
opP ((zna P .rem 23 true).f t12 (.int .u64 4294967296)) fun t13=>
K t13 H
theorem zYp{t0 t1:Value}{H:Heap}{K:VH}(h:zbp t0 t1 H K):wCall P zvb [t0,t1] H K:=zea rfl (Eq.mpr (by kernel_rfl) h)
def zcp(t0 t1:Value)(H:Heap)(K:VH):Prop:=
zec (fun J=>
opP ((zna P .lss 3 true).f t0 (.int .i64 1)) fun t7=>
wIf t7 (
opP (zga t7 (.bool true) undef) fun t11=>
wIf t11 (
K (.int .i64 0) H) (
J [t0,t1] H)) (
opP ((zna P .lss 3 true).f t1 (.int .i64 1)) fun t10=>
opP (zga t7 (.bool true) t10) fun t11_1=>
wIf t11_1 (
K (.int .i64 0) H) (
J [t0,t1] H))) (fun l H6=>
opP ((zna P .quo 3 false).f (nth l 0) (nth l 1)) fun t14=>
opP ((zna P .rem 3 false).f (nth l 0) (nth l 1)) fun t17=>
opP ((zna P .gtr 3 true).f t17 (.int .i64 0)) fun t18=>
wIf t18 (
opP ((zna P .add 3 true).f t14 (.int .i64 1)) fun t20=>
K t20 H6) (
K t14 H6))
theorem zZp{t0 t1:Value}{H:Heap}{K:VH}(h:zcp t0 t1 H K):wCall P zIf [t0,t1] H K:=zea rfl (Eq.mpr (by kernel_rfl) h)
def zph(t0:Value)(H:Heap)(K:VH):Prop:=
opP (zha t0) fun t4=>
opP (zfa 38 t4) fun t5=>
opW (zca t5 H) fun t6 H3=>
opP (zha t0) fun t8=>
opP (zfa 0 t8) fun t9=>
opP (zfa 36 t9) fun t10=>
opW (zca t10 H3) fun t11 H8=>
opW (lenSl t11 H8) fun t12 H10=>
opP ((zna P .eql 3 false).f t6 t12) fun t13=>
K t13 H10
theorem zXj{t0:Value}{H:Heap}{K:VH}(h:zph t0 H K):wCall P zgc [t0] H K:=zea rfl (Eq.mpr (by kernel_rfl) h)
def zqh(t0:Value)(H:Heap)(K:VH):Prop:=
opP (zha t0) fun t4=>
opP (zfa 38 t4) fun t5=>
opW (zca t5 H) fun t6 H3=>
K t6 H3
theorem zYj{t0:Value}{H:Heap}{K:VH}(h:zqh t0 H K):wCall P zQd [t0] H K:=zea rfl (Eq.mpr (by kernel_rfl) h)
def zGc(t0:Value)(H:Heap)(K:VH):Prop:=
opP ((zna P .eql 50 true).f t0 (.slice none 0 0)) fun t4=>
wIf t4 (
K (.slice none 0 0) H) (
opW ((zia P 50 0).f [] H) fun t5 H2=>
opW (zqa 32 32 t5 t0 H2) fun t7 H4=>
K t7 H4)
theorem zxe{t0:Value}{H:Heap}{K:VH}(h:zGc t0 H K):wCall P zgb [t0] H K:=zea rfl (Eq.mpr (by kernel_rfl) h)
def zMg(t0:Value)(H:Heap)(K:VH):Prop:=
wCall P zgc [t0] H fun t4 H1=>
wIf t4 (
opP (zha t0) fun t7=>
opP (zfa 37 t7) fun t8=>
opW (zca t8 H1) fun t9 H5=>
wCall P zWa [t9] H5 fun t10 H7=>
opP (zha t0) fun t12=>
opP (zfa 0 t12) fun t13=>
opP (zfa 4 t13) fun t14=>
opW (zma 32 t14 H7) fun t15 H12=>
zmb (zkb H5 H7) (zJa [t14])∧(opP ((zna P .eql 49 false).f t10 t15) fun t16=>
opP (zga t4 t16 (.bool false)) fun t17=>
K t17 H12)) (
opP (zga t4 undef (.bool false)) fun t17_1=>
K t17_1 H1)
theorem zij{t0:Value}{H:Heap}{K:VH}(h:zMg t0 H K):wCall P zzd [t0] H K:=zea rfl (Eq.mpr (by kernel_rfl) h)
def zye(t0 t1:Value)(H:Heap)(K:VH):Prop:=
wCall P zcb [t0] H fun t6 H1=>
opP ((zna P .eql 3 true).f t6 (.int .i64 0)) fun t7=>
wIf t7 (
K (.bool false) H1) (
opP (zha t0) fun t9=>
opP (zfa 0 t9) fun t10=>
opW (zca t10 H1) fun t11 H6=>
opP (zha t0) fun t14=>
opP (zfa 2 t14) fun t15=>
opW (zca t15 H6) fun t16 H10=>
wCall P zIb [t0,t16] H10 fun t17 H12=>
zmb (zkb H10 H12) (zJa [t10])∧(opP (zYc 1 t11 t17) fun t19=>
opW (zla 1 t19 t1 H12) fun u H15=>
opP (zha t0) fun t21=>
opP (zfa 2 t21) fun t22=>
opW (zca t22 H15) fun t23 H19=>
opP ((zna P .add 3 true).f t23 (.int .i64 1)) fun t24=>
opP (zha t0) fun t25=>
opP (zfa 2 t25) fun t26=>
opW (zla 1 t26 t24 H19) fun u_1 H24=>
K (.bool true) H24))
theorem zpg{t0 t1:Value}{H:Heap}{K:VH}(h:zye t0 t1 H K):wCall P zQa [t0,t1] H K:=zea rfl (Eq.mpr (by kernel_rfl) h)
def zbe(t0:Value)(H:Heap)(K:VH):Prop:=
zNb (zc P 35) H fun t2 H1=>
zNb (zc P 35) H1 fun t4 H3=>
opP (zha t0) fun t6=>
opP (zfa 2 t6) fun t7=>
opW (zca t7 H3) fun t8 H7=>
opP ((zna P .eql 3 true).f t8 (.int .i64 0)) fun t9=>
wIf t9 (
opW (zma 2 t4 H7) fun t10 H10=>
opW (zla 2 t2 t10 H10) fun u H12=>
opW (zma 2 t2 H12) fun r _=>
K (.tuple [r,(.bool false)].toArray) H12) (
opP (zha t0) fun t12=>
opP (zfa 0 t12) fun t13=>
opW (zca t13 H7) fun t14 H17=>
opP (zha t0) fun t16=>
opP (zfa 1 t16) fun t17=>
opW (zca t17 H17) fun t18 H21=>
opP (zYc 2 t14 t18) fun t19=>
opW (zma 2 t19 H21) fun t20 H24=>
opW (zla 2 t2 t20 H24) fun u_1 H26=>
opW (zma 2 t2 H26) fun r_1 _=>
K (.tuple [r_1,(.bool true)].toArray) H26)
theorem zdg{t0:Value}{H:Heap}{K:VH}(h:zbe t0 H K):wCall P zkc [t0] H K:=zea rfl (Eq.mpr (by kernel_rfl) h)
def zqt(t0 t1:Value)(H:Heap)(K:VH):Prop:=
zNb (zc P 52) H fun t4 H1=>
wCall P zSh [t1] H1 fun t15 H3=>
opP (zFc 0 t15) fun t16=>
opP (zFc 1 t15) fun t17=>
zec (fun J=>
opP ((zna P .neq 67 true).f t17 (.int .i64 0)) fun t19=>
wIf t19 (
opP (zga t19 (.bool true) undef) fun t25=>
J [t0,t1,t4,t16,t25] H3) (
opW (lenSl t1 H3) fun t22 H10=>
opP ((zna P .lss 3 false).f t22 t16) fun t24=>
opP (zga t19 (.bool true) t24) fun t25_1=>
J [t0,t1,t4,t16,t25_1] H10)) (fun l H14=>
wIf (nth l 4) (
opP ((zDa P 52).f []) fun t26=>
opW (zla 37 (nth l 2) t26 H14) fun u H17=>
opW (zma 37 (nth l 2) H17) fun r _=>
K (.tuple [r,(.int .i64 0),(.int .i64 141)].toArray) H17) (
opP ((zna P .sub 3 true).f (nth l 3) (.int .i64 32)) fun t29=>
opP (zVa 1 (nth l 1) none (some t29) none) fun t30=>
opP ((zna P .sub 3 true).f (nth l 3) (.int .i64 32)) fun t33=>
opP (zVa 1 (nth l 1) (some t33) (some (nth l 3)) none) fun t35=>
zNb (zc P 49) H14 fun t11 H24=>
opP (zGb 32 1 t11 none none none H24) fun t36=>
opW (zji 1 t36 t35 H24) fun t38 H27=>
opW ((zia P 171 1).f [(0,t30)] H27) fun t41 H29=>
wCall P zol [(nth l 0),t41] H29 fun t42 H31=>
opW (zma 32 t11 H31) fun t43 H33=>
zmb (zkb H29 H31) (zJa [t11])∧(zsq (zJa [t11]) H27.next H29.next∧(wCall P zTh [t42,t43] H33 fun t44 H35=>
opP (unA .not t44) fun t45=>
wIf t45 (
opP ((zDa P 52).f []) fun t46=>
opW (zla 37 (nth l 2) t46 H35) fun u_1 H39=>
opW (zma 37 (nth l 2) H39) fun r_1 _=>
K (.tuple [r_1,(.int .i64 0),(.int .i64 142)].toArray) H39) (
opP (zVa 1 t30 (some (.int .i64 4)) none none) fun t49=>
wCall P zMd [t49] H35 fun t50 H43=>
opP (zFc 0 t50) fun t51=>
opP (zFc 1 t50) fun t52=>
zNb (zc P 52) H43 fun t12 H47=>
opW (zla 37 t12 t51 H47) fun u_2 H49=>
opP ((zna P .neq 67 true).f t52 (.int .i64 0)) fun t54=>
wIf t54 (
opP ((zDa P 52).f []) fun t55=>
opW (zla 37 (nth l 2) t55 H49) fun u_3 H53=>
opW (zma 37 (nth l 2) H53) fun r_2 _=>
K (.tuple [r_2,(.int .i64 0),t52].toArray) H53) (
opW (zma 37 t12 H49) fun t57 H56=>
opW (zla 37 (nth l 2) t57 H56) fun u_4 H58=>
opW (zma 37 (nth l 2) H58) fun r_3 _=>
K (.tuple [r_3,(nth l 3),(.int .i64 0)].toArray) H58))))))
theorem zrt{t0 t1:Value}{H:Heap}{K:VH}(h:zqt t0 t1 H K):wCall P zJk [t0,t1] H K:=zea rfl (Eq.mpr (by kernel_rfl) h)
def zIq(t0 t1:Value)(H:Heap)(K:VH):Prop:=
zNb (zBa t0) H fun t2 H1=>
zNb (zBa t1) H1 fun t3 H3=>
opW (zma 37 t2 H3) fun t6 H5=>
wCall P zmc [t6] H5 fun t7 H7=>
opP (unA .not t7) fun t8=>
wIf t8 (
K (.int .i64 131) H7) (
opP (zfa 0 t2) fun t10=>
opW (zca t10 H7) fun t11 H11=>
opP (zfa 0 t3) fun t12=>
opW (zca t12 H11) fun t13 H14=>
wCall P zRi [t11,t13] H14 fun t14 H16=>
opP (unA .not t14) fun t15=>
wIf t15 (
K (.int .i64 143) H16) (
opP (zfa 1 t2) fun t17=>
opW (zca t17 H16) fun t18 H20=>
opP (zfa 1 t3) fun t19=>
opW (zca t19 H20) fun t20 H23=>
opP ((zna P .lss 23 false).f t18 t20) fun t21=>
wIf t21 (
K (.int .i64 144) H23) (
opP (zfa 2 t2) fun t23=>
opW (zca t23 H23) fun t24 H27=>
opP (zfa 2 t3) fun t25=>
opW (zca t25 H27) fun t26 H30=>
opP ((zna P .gtr 3 false).f t24 t26) fun t27=>
wIf t27 (
K (.int .i64 145) H30) (
K (.int .i64 0) H30))))
theorem zSr{t0 t1:Value}{H:Heap}{K:VH}(h:zIq t0 t1 H K):wCall P zOi [t0,t1] H K:=zea rfl (Eq.mpr (by kernel_rfl) h)
def zst(t0:Value)(H:Heap)(K:VH):Prop:=
zNb (zBa t0) H fun t1 H1=>
opW (zma 37 t1 H1) fun t4 H3=>
wCall P zmc [t4] H3 fun t5 H5=>
opP (unA .not t5) fun t6=>
wIf t6 (
K (.tuple [(.pointer none),(.int .i64 131)].toArray) H5) (
opP (zfa 36 t1) fun t7=>
opW (zca t7 H5) fun t8 H9=>
wCall P zgb [t8] H9 fun t9 H11=>
opP (zfa 36 t1) fun t10=>
opW (zla 1 t10 t9 H11) fun u H14=>
opW (zma 37 t1 H14) fun t11 H16=>
wCall P zgf [] H16 fun t12 H18=>
zmb (zkb H16 H18) (zJa [t1])∧(opP ((zDa P 144).f [(0,t11),(1,t12)]) fun t13=>
zNb (zBa t13) H18 fun t14 H21=>
K (.tuple [t14,(.int .i64 0)].toArray) H21))
theorem ztt{t0:Value}{H:Heap}{K:VH}(h:zst t0 H K):wCall P zKk [t0] H K:=zea rfl (Eq.mpr (by kernel_rfl) h)
def zrh(t0 t1 t2:Value)(H:Heap)(K:VH):Prop:=
zec (fun J=>
wCall P zgc [t0] H fun t10 H2=>
wIf t10 (
opP (zga t10 (.bool true) undef) fun t18=>
wIf t18 (
K (.int .i64 151) H2) (
J [t0,t1,t2] H2)) (
opP (zha t0) fun t14=>
opP (zfa 38 t14) fun t15=>
opW (zca t15 H2) fun t16 H7=>
opP ((zna P .neq 3 false).f t1 t16) fun t17=>
opP (zga t10 (.bool true) t17) fun t18_1=>
wIf t18_1 (
K (.int .i64 151) H7) (
J [t0,t1,t2] H7))) (fun l H11=>
zec (fun J_1=>
opP (zha (nth l 0)) fun t21=>
opP (zfa 0 t21) fun t22=>
opW (zma 37 t22 H11) fun t23 H16=>
wCall P zWf [t23,(nth l 1)] H16 fun t25 H18=>
opP (zFc 0 t25) fun t26=>
opP (zFc 1 t25) fun t27=>
opW (lenSl (nth l 2) H18) fun t29 H22=>
opP ((zna P .neq 3 false).f t29 t27) fun t31=>
wIf t31 (
opP (zga t31 (.bool true) undef) fun t45=>
wIf t45 (
K (.int .i64 152) H22) (
J_1 [(nth l 0),(nth l 2)] H22)) (
opW ((zia P 171 1).f [(0,(nth l 2))] H22) fun t34 H26=>
wCall P zpd [t34] H26 fun t35 H28=>
opP (zha (nth l 0)) fun t37=>
opP (zfa 0 t37) fun t38=>
opP (zfa 36 t38) fun t39=>
opW (zca t39 H28) fun t40 H33=>
zmb (zkb H26 H28) (zJa [t39])∧(zsq (zJa [t39]) H22.next H26.next∧(opP (zYc 32 t40 (nth l 1)) fun t42=>
opW (zma 32 t42 H33) fun t43 H36=>
zmb (zkb H26 H28) (zJa [t42])∧(zsq (zJa [t42]) H22.next H26.next∧(opP ((zna P .neq 49 false).f t35 t43) fun t44=>
opP (zga t31 (.bool true) t44) fun t45_1=>
wIf t45_1 (
K (.int .i64 152) H36) (
J_1 [(nth l 0),(nth l 2)] H36))))))) (fun l_1 H40=>
opP (zha (nth l_1 0)) fun t47=>
opP (zfa 37 t47) fun t48=>
opW (zca t48 H40) fun t49 H44=>
wCall P zLa [t49,(nth l_1 1)] H44 fun t51 H46=>
opP (zha (nth l_1 0)) fun t53=>
opP (zfa 38 t53) fun t54=>
opW (zca t54 H46) fun t55 H50=>
opP ((zna P .add 3 true).f t55 (.int .i64 1)) fun t56=>
opP (zha (nth l_1 0)) fun t57=>
opP (zfa 38 t57) fun t58=>
opW (zla 1 t58 t56 H50) fun u H55=>
K (.int .i64 0) H55))
theorem zZj{t0 t1 t2:Value}{H:Heap}{K:VH}(h:zrh t0 t1 t2 H K):wCall P zRd [t0,t1,t2] H K:=zea rfl (Eq.mpr (by kernel_rfl) h)
noncomputable abbrev zZh:Code:=zEb P zff 0
def zxl(l:List Value)(H:Heap)(N:LN)(Qx:LX)(Qr:LN):Prop:=
opP ((zna P .lss 3 false).f (nth l 3) (nth l 2)) fun t21=>
wIf t21 (
opP (zYc 3 (nth l 1) (nth l 3)) fun t23=>
opW (zma 3 t23 H) fun t24 H3=>
zNb (zc P 139) H3 fun t5 H5=>
opW (zla 3 t5 t24 H5) fun u H7=>
opP (zfa 0 t5) fun t25=>
opW (zca t25 H7) fun t26 H10=>
opW (zbc .i32 t26 H10) fun t27 H12=>
zec (fun J=>
opP (zfa 2 t5) fun t28=>
opW (zca t28 H12) fun t29 H16=>
opP (unA .not t29) fun t30=>
wIf t30 (
wCall P zBg [t27] H16 fun t33 H19=>
opP (zga t30 t33 (.bool false)) fun t34=>
J [(nth l 0),(nth l 3),t5,t27,t34,(nth l 1),(nth l 2),(nth l 3)] H19) (
opP (zga t30 undef (.bool false)) fun t34_1=>
J [(nth l 0),(nth l 3),t5,t27,t34_1,(nth l 1),(nth l 2),(nth l 3)] H16)) (fun l_1 H23=>
zec (fun J_1=>
opP ((zna P .gtr 3 true).f (nth l_1 1) (.int .i64 0)) fun t36=>
wIf t36 (
opP (zfa 2 (nth l_1 2)) fun t38=>
opW (zca t38 H23) fun t39 H28=>
opP (unA .not t39) fun t40=>
opP (zga t36 t40 (.bool false)) fun t41=>
wIf t41 (
wCall P zlh [(nth l_1 3)] H28 fun t44 H32=>
wIf t44 (
opP (zga t44 (.bool true) undef) fun t49=>
opP (zga t49 (.bool true) undef) fun t54=>
opP (zga t54 (.bool true) undef) fun t59=>
opP (zga t41 t59 (.bool false)) fun t60=>
wIf t60 (
J_1 [(nth l_1 0),(.bool true),(nth l_1 5),(nth l_1 6),(nth l_1 7)] H32) (
J_1 [(nth l_1 0),(nth l_1 4),(nth l_1 5),(nth l_1 6),(nth l_1 7)] H32)) (
opP (zfa 1 (nth l_1 2)) fun t46=>
opW (zca t46 H32) fun t47 H39=>
opP ((zna P .eql 9 true).f t47 (.string ⟨#[45]⟩)) fun t48=>
opP (zga t44 (.bool true) t48) fun t49_1=>
wIf t49_1 (
opP (zga t49_1 (.bool true) undef) fun t54_1=>
opP (zga t54_1 (.bool true) undef) fun t59_1=>
opP (zga t41 t59_1 (.bool false)) fun t60_1=>
wIf t60_1 (
J_1 [(nth l_1 0),(.bool true),(nth l_1 5),(nth l_1 6),(nth l_1 7)] H39) (
J_1 [(nth l_1 0),(nth l_1 4),(nth l_1 5),(nth l_1 6),(nth l_1 7)] H39)) (
opP (zfa 1 (nth l_1 2)) fun t51=>
opW (zca t51 H39) fun t52 H47=>
opP ((zna P .eql 9 true).f t52 (.string ⟨#[95]⟩)) fun t53=>
opP (zga t49_1 (.bool true) t53) fun t54_2=>
wIf t54_2 (
opP (zga t54_2 (.bool true) undef) fun t59_2=>
opP (zga t41 t59_2 (.bool false)) fun t60_2=>
wIf t60_2 (
J_1 [(nth l_1 0),(.bool true),(nth l_1 5),(nth l_1 6),(nth l_1 7)] H47) (
J_1 [(nth l_1 0),(nth l_1 4),(nth l_1 5),(nth l_1 6),(nth l_1 7)] H47)) (
opP (zfa 1 (nth l_1 2)) fun t56=>
opW (zca t56 H47) fun t57 H54=>
opP ((zna P .eql 9 true).f t57 (.string ⟨#[46]⟩)) fun t58=>
opP (zga t54_2 (.bool true) t58) fun t59_3=>
opP (zga t41 t59_3 (.bool false)) fun t60_3=>
wIf t60_3 (
J_1 [(nth l_1 0),(.bool true),(nth l_1 5),(nth l_1 6),(nth l_1 7)] H54) (
J_1 [(nth l_1 0),(nth l_1 4),(nth l_1 5),(nth l_1 6),(nth l_1 7)] H54))))) (
opP (zga t41 undef (.bool false)) fun t60_4=>
wIf t60_4 (
J_1 [(nth l_1 0),(.bool true),(nth l_1 5),(nth l_1 6),(nth l_1 7)] H28) (
J_1 [(nth l_1 0),(nth l_1 4),(nth l_1 5),(nth l_1 6),(nth l_1 7)] H28))) (
opP (zga t36 undef (.bool false)) fun t41_1=>
opP (zga t41_1 undef (.bool false)) fun t60_5=>
wIf t60_5 (
J_1 [(nth l_1 0),(.bool true),(nth l_1 5),(nth l_1 6),(nth l_1 7)] H23) (
J_1 [(nth l_1 0),(nth l_1 4),(nth l_1 5),(nth l_1 6),(nth l_1 7)] H23))) (fun l_2 H62=>
opP (unA .not (nth l_2 1)) fun t62=>
wIf t62 (
Qr [(.int .i64 41)] H62) (
opP ((zna P .add 3 true).f (nth l_2 4) (.int .i64 1)) fun t63=>
N [(nth l_2 0),(nth l_2 2),(nth l_2 3),t63] H62)))) (
Qx 0 [(nth l 0)] H)
theorem zym:LpI P 64 zZh 4 zxl:=.mk (by kernel_rfl) fun l H N Qx Qr=>by kernel_rfl
def zJq(t0:Value)(H:Heap)(K:VH):Prop:=
wCall P zoe [t0] H fun t9 H1=>
zec (fun J=>
opW (lenSl t9 H1) fun t11 H4=>
opP ((zna P .eql 3 true).f t11 (.int .i64 0)) fun t12=>
wIf t12 (
opP (zga t12 (.bool true) undef) fun t17=>
wIf t17 (
K (.int .i64 41) H4) (
J [(.int .i64 0),t9] H4)) (
opW (lenSl t9 H4) fun t15 H8=>
opP ((zna P .gtr 3 true).f t15 (.int .i64 24)) fun t16=>
opP (zga t12 (.bool true) t16) fun t17_1=>
wIf t17_1 (
K (.int .i64 41) H8) (
J [(.int .i64 0),t9] H8))) (fun l H12=>
opW (lenSl (nth l 1) H12) fun t19 H14=>
ztb P true 64 zZh 4 [(nth l 0),(nth l 1),t19,(.int .i64 0)] H14 (fun id l_1 H16=>
cond (Nat.beq id 0) (
K (.int .i64 0) H16) (
False)) (fun l_1 H16=>
K (nth l_1 0) H16))
theorem zTr{t0:Value}{H:Heap}{K:VH}(h:zJq t0 H K):wCall P zff [t0] H K:=zea rfl (Eq.mpr (by kernel_rfl) h)
def zKq(t0:Value)(H:Heap)(K:VH):Prop:=
opW (zIo t0 H) fun t4 H1=>
opW (zbc .u64 t4 H1) fun t5 H3=>
wCall P zqc [t5,(.int .i64 2)] H3 fun t6 H5=>
opW (zLe t0 H5) fun t8 H7=>
opW (zqa 1 1 t6 t8 H7) fun t9 H9=>
K t9 H9
theorem zUr{t0:Value}{H:Heap}{K:VH}(h:zKq t0 H K):wCall P zPi [t0] H K:=zea rfl (Eq.mpr (by kernel_rfl) h)
noncomputable abbrev zin:Code:=zEb P zRh 0
def zjn(l:List Value)(H:Heap)(N:LN)(Qx:LX)(Qr:LN):Prop:=
opP ((zna P .lss 3 true).f (nth l 5) (.int .i64 64)) fun t20=>
wIf t20 (
zec (fun J=>
opW (lenSl (nth l 0) H) fun t25 H3=>
opP ((zna P .lss 3 false).f (nth l 5) t25) fun t26=>
wIf t26 (
opP (zYc 1 (nth l 0) (nth l 5)) fun t29=>
opW (zca t29 H3) fun t30 H7=>
J [(nth l 0),(nth l 1),(nth l 2),(nth l 3),(nth l 4),(nth l 5),t30] H7) (
J [(nth l 0),(nth l 1),(nth l 2),(nth l 3),(nth l 4),(nth l 5),(.int .u8 0)] H3)) (fun l_1 H9=>
opP ((zna P .xor 5 true).f (nth l_1 6) (.int .u8 54)) fun t33=>
opW ((zia P 22 1).f [(0,t33)] H9) fun t34 H12=>
opW (zqa 1 1 (nth l_1 3) t34 H12) fun t35 H14=>
opP ((zna P .xor 5 true).f (nth l_1 6) (.int .u8 92)) fun t38=>
opW ((zia P 22 1).f [(0,t38)] H14) fun t39 H17=>
opW (zqa 1 1 (nth l_1 4) t39 H17) fun t40 H19=>
opP ((zna P .add 3 true).f (nth l_1 5) (.int .i64 1)) fun t22=>
N [(nth l_1 0),(nth l_1 1),(nth l_1 2),t35,t40,t22] H19)) (
Qx 0 [(nth l 1),(nth l 2),(nth l 3),(nth l 4)] H)
theorem zCn:LpI P 49 zin 210 zjn:=.mk (by kernel_rfl) fun l H N Qx Qr=>by kernel_rfl
def zut(t0 t1:Value)(H:Heap)(K:VH):Prop:=
zNb (zc P 49) H fun t4 H1=>
zec (fun J=>
opW (lenSl t0 H1) fun t12 H4=>
opP ((zna P .gtr 3 true).f t12 (.int .i64 64)) fun t13=>
wIf t13 (
wCall P zib [t0] H4 fun t15 H7=>
zNb (zc P 49) H7 fun t5 H9=>
opW (zla 32 t5 t15 H9) fun u H11=>
opP (zGb 32 1 t5 none none none H11) fun t16=>
J [t16,t1,t4] H11) (
J [t0,t1,t4] H4)) (fun l H14=>
opW ((zia P 22 0).f [] H14) fun t17 H16=>
opW ((zia P 22 0).f [] H16) fun t18 H18=>
ztb P true 49 zin 210 [(nth l 0),(nth l 1),(nth l 2),t17,t18,(.int .i64 0)] H18 (fun id l_1 H20=>
cond (Nat.beq id 0) (
opW (zqa 1 1 (nth l_1 2) (nth l_1 0) H20) fun t43 H22=>
wCall P zib [t43] H22 fun t44 H24=>
zNb (zc P 49) H24 fun t10 H26=>
opW (zla 32 t10 t44 H26) fun u_1 H28=>
opP (zGb 32 1 t10 none none none H28) fun t46=>
opW (zqa 1 1 (nth l_1 3) t46 H28) fun t47 H31=>
wCall P zib [t47] H31 fun t48 H33=>
opW (zla 32 (nth l_1 1) t48 H33) fun u_2 H35=>
opW (zma 32 (nth l_1 1) H35) fun r _=>
K r H35) (
False)) (fun l_1 H20=>
opW (zma 32 (nth l_1 1) H20) fun r_1 _=>
K r_1 H20))
theorem zvt{t0 t1:Value}{H:Heap}{K:VH}(h:zut t0 t1 H K):wCall P zRh [t0,t1] H K:=zea rfl (Eq.mpr (by kernel_rfl) h)
def zLq(t0:Value)(H:Heap)(K:VH):Prop:=
opP ((zna P .lss 3 true).f t0 (.int .i64 0)) fun t4=>
wIf t4 (
K (.int .i64 0) H) (
opP ((zna P .gtr 3 true).f t0 (.int .i64 8)) fun t6=>
wIf t6 (
K (.int .i64 8) H) (
K t0 H))
theorem zVr{t0:Value}{H:Heap}{K:VH}(h:zLq t0 H K):wCall P zQi [t0] H K:=zea rfl (Eq.mpr (by kernel_rfl) h)
noncomputable abbrev zsk:Code:=zEb P zoe 0
def ztk(l:List Value)(H:Heap)(N:LN)(Qx:LX)(Qr:LN):Prop:=
opP ((zna P .neq 9 true).f (nth l 0) (.string ⟨#[]⟩)) fun t7=>
wIf t7 (
wCall P zUh [(nth l 0)] H fun t9 H2=>
zNb (zc P 139) H2 fun t4 H4=>
opW (zla 3 t4 t9 H4) fun u H6=>
opW (zma 3 t4 H6) fun t11 H8=>
opW ((zia P 136 1).f [(0,t11)] H8) fun t12 H10=>
opW (zqa 3 32 (nth l 2) t12 H10) fun t13 H12=>
opP (zfa 1 t4) fun t15=>
opW (zca t15 H12) fun t16 H15=>
opW (zIo t16 H15) fun t17 H17=>
opP (zbf (nth l 0) (some t17) none none) fun t18=>
N [t18,(nth l 1),t13] H17) (
Qx 0 [(nth l 1),(nth l 2)] H)
theorem zyl:LpI P 20 zsk 12 ztk:=.mk (by kernel_rfl) fun l H N Qx Qr=>by kernel_rfl
def zdp(t0:Value)(H:Heap)(K:VH):Prop:=
opW ((zia P 136 0).f [] H) fun t5 H1=>
ztb P true 20 zsk 12 [t0,(.slice none 0 0),t5] H1 (fun id l H3=>
cond (Nat.beq id 0) (
K (nth l 1) H3) (
False)) (fun l H3=>
K (nth l 0) H3)
theorem zaq{t0:Value}{H:Heap}{K:VH}(h:zdp t0 H K):wCall P zoe [t0] H K:=zea rfl (Eq.mpr (by kernel_rfl) h)
def zwt(t0:Value)(H:Heap)(K:VH):Prop:=
opW ((zia P 22 0).f [] H) fun t4 H1=>
opP ((zna P .lss 3 true).f t0 (.int .i64 128)) fun t28=>
wIf t28 (
opW (zbc .u8 t0 H1) fun t31 H4=>
opW ((zia P 22 1).f [(0,t31)] H4) fun t32 H6=>
opW (zqa 1 1 t4 t32 H6) fun t33 H8=>
opW (zfb t33 H8) fun t68 H10=>
K t68 H10) (
opP ((zna P .lss 3 true).f t0 (.int .i64 2048)) fun t36=>
wIf t36 (
opP ((zna P .quo 3 true).f t0 (.int .i64 64)) fun t39=>
opP ((zna P .add 3 true).f (.int .i64 192) t39) fun t40=>
opW (zbc .u8 t40 H1) fun t41 H15=>
opP ((zna P .rem 3 true).f t0 (.int .i64 64)) fun t43=>
opP ((zna P .add 3 true).f (.int .i64 128) t43) fun t44=>
opW (zbc .u8 t44 H15) fun t45 H19=>
opW ((zia P 22 2).f [(0,t41),(1,t45)] H19) fun t46 H21=>
opW (zqa 1 1 t4 t46 H21) fun t47 H23=>
opW (zfb t47 H23) fun t68_1 H25=>
K t68_1 H25) (
opP ((zna P .lss 3 true).f t0 (.int .i64 65536)) fun t50=>
wIf t50 (
opP ((zna P .quo 3 true).f t0 (.int .i64 4096)) fun t53=>
opP ((zna P .add 3 true).f (.int .i64 224) t53) fun t54=>
opW (zbc .u8 t54 H1) fun t55 H30=>
opP ((zna P .quo 3 true).f t0 (.int .i64 64)) fun t57=>
opP ((zna P .rem 3 true).f t57 (.int .i64 64)) fun t58=>
opP ((zna P .add 3 true).f (.int .i64 128) t58) fun t59=>
opW (zbc .u8 t59 H30) fun t60 H35=>
opP ((zna P .rem 3 true).f t0 (.int .i64 64)) fun t62=>
opP ((zna P .add 3 true).f (.int .i64 128) t62) fun t63=>
opW (zbc .u8 t63 H35) fun t64 H39=>
opW ((zia P 22 3).f [(0,t55),(1,t60),(2,t64)] H39) fun t65 H41=>
opW (zqa 1 1 t4 t65 H41) fun t66 H43=>
opW (zfb t66 H43) fun t68_2 H45=>
K t68_2 H45) (
opP ((zna P .quo 3 true).f t0 (.int .i64 262144)) fun t7=>
opP ((zna P .add 3 true).f (.int .i64 240) t7) fun t8=>
opW (zbc .u8 t8 H1) fun t9 H49=>
opP ((zna P .quo 3 true).f t0 (.int .i64 4096)) fun t11=>
opP ((zna P .rem 3 true).f t11 (.int .i64 64)) fun t12=>
opP ((zna P .add 3 true).f (.int .i64 128) t12) fun t13=>
opW (zbc .u8 t13 H49) fun t14 H54=>
opP ((zna P .quo 3 true).f t0 (.int .i64 64)) fun t16=>
opP ((zna P .rem 3 true).f t16 (.int .i64 64)) fun t17=>
opP ((zna P .add 3 true).f (.int .i64 128) t17) fun t18=>
opW (zbc .u8 t18 H54) fun t19 H59=>
opP ((zna P .rem 3 true).f t0 (.int .i64 64)) fun t21=>
opP ((zna P .add 3 true).f (.int .i64 128) t21) fun t22=>
opW (zbc .u8 t22 H59) fun t23 H63=>
opW ((zia P 22 4).f [(0,t9),(1,t14),(2,t19),(3,t23)] H63) fun t24 H65=>
opW (zqa 1 1 t4 t24 H65) fun t25 H67=>
opW (zfb t25 H67) fun t68_3 H69=>
K t68_3 H69)))
theorem zxt{t0:Value}{H:Heap}{K:VH}(h:zwt t0 H K):wCall P zLk [t0] H K:=zea rfl (Eq.mpr (by kernel_rfl) h)
noncomputable abbrev zBd:Code:=zEb P zWa 0
noncomputable abbrev zCd:Code:=zEb P zWa 1
noncomputable abbrev zDd:Code:=zEb P zWa 2
noncomputable abbrev zEd:Code:=zEb P zWa 3
def zuf(l:List Value)(H:Heap)(N:LN)(Qx:LX)(Qr:LN):Prop:=
opP (zha (nth l 1)) fun t21=>
opP (zfa 8 t21) fun t22=>
opW (zca t22 H) fun t23 H3=>
opW (lenSl t23 H3) fun t24 H5=>
opP ((zna P .neq 3 true).f t24 (.int .i64 56)) fun t25=>
wIf t25 (
opW ((zia P 22 1).f [(0,(.int .u8 0))] H5) fun t27 H8=>
wCall P zLa [(nth l 1),t27] H8 fun t28 H10=>
N [(nth l 0),(nth l 1),(nth l 2)] H10) (
Qx 0 [(nth l 0),(nth l 1),(nth l 2)] H5)
theorem zsh:LpI P 67 zBd 28 zuf:=.mk (by kernel_rfl) fun l H N Qx Qr=>by kernel_rfl
def zvf(l:List Value)(H:Heap)(N:LN)(Qx:LX)(Qr:LN):Prop:=
opP ((zna P .lss 3 true).f (nth l 3) (.int .i64 8)) fun t30=>
wIf t30 (
opP ((zna P .mul 3 true).f (.int .i64 8) (nth l 3)) fun t35=>
opP ((zna P .sub 3 true).f (.int .i64 56) t35) fun t36=>
opP ((zna P .shr 23 false).f (nth l 2) t36) fun t37=>
opW (zbc .u8 t37 H) fun t38 H5=>
opW ((zia P 22 1).f [(0,t38)] H5) fun t39 H7=>
wCall P zLa [(nth l 1),t39] H7 fun t40 H9=>
opP ((zna P .add 3 true).f (nth l 3) (.int .i64 1)) fun t41=>
N [(nth l 0),(nth l 1),(nth l 2),t41] H9) (
Qx 2 [(nth l 0),(nth l 1)] H)
theorem zth:LpI P 67 zCd 12 zvf:=.mk (by kernel_rfl) fun l H N Qx Qr=>by kernel_rfl
def zwf(l:List Value)(H:Heap)(N:LN)(Qx:LX)(Qr:LN):Prop:=
opP ((zna P .lss 3 true).f (nth l 3) (.int .i64 8)) fun t47=>
wIf t47 (
opP (zki 8 1 (zYk P 162).f (nth l 2) (nth l 3)) fun t49=>
ztb P true 67 zEd 105553116266564 [(nth l 0),(nth l 1),(nth l 3),t49,(nth l 2),(nth l 3),(.int .i64 0)] H (fun id l_1 H3=>
cond (Nat.beq id 6) (
opP ((zna P .add 3 true).f (nth l_1 3) (.int .i64 1)) fun t65=>
N [(nth l_1 0),(nth l_1 1),(nth l_1 2),t65] H3) (
cond (Nat.beq id 5) (
opP ((zna P .add 3 true).f (nth l_1 3) (.int .i64 1)) fun t65_1=>
N [(nth l_1 0),(nth l_1 1),(nth l_1 2),t65_1] H3) (
Qx id [(nth l_1 0),(nth l_1 1)] H3))) (fun l_1 H3=>
Qr [(nth l_1 0),(nth l_1 1)] H3)) (
Qx 4 [(nth l 0),(nth l 1)] H)
theorem zuh:LpI P 67 zDd 68 zwf:=.mk (by kernel_rfl) fun l H N Qx Qr=>by kernel_rfl
def zxf(l:List Value)(H:Heap)(N:LN)(Qx:LX)(Qr:LN):Prop:=
opP ((zna P .lss 3 true).f (nth l 6) (.int .i64 4)) fun t51=>
wIf t51 (
opP ((zna P .mul 3 true).f (.int .i64 4) (nth l 2)) fun t54=>
opP ((zna P .add 3 false).f t54 (nth l 6)) fun t56=>
opP ((zna P .mul 3 true).f (.int .i64 8) (nth l 6)) fun t59=>
opP ((zna P .sub 3 true).f (.int .i64 24) t59) fun t60=>
opP ((zna P .shr 162 false).f (nth l 3) t60) fun t61=>
opW (zbc .u8 t61 H) fun t62 H7=>
opP (zKa 32 1 (nth l 1) t56) fun t63=>
opW (zla 1 t63 t62 H7) fun u H10=>
opP ((zna P .add 3 true).f (nth l 6) (.int .i64 1)) fun t64=>
N [(nth l 0),(nth l 1),(nth l 2),(nth l 3),(nth l 4),(nth l 5),t64] H10) (
Qx 6 [(nth l 0),(nth l 1),(nth l 4),(nth l 5)] H)
theorem zvh:LpI P 67 zEd 105553116266564 zxf:=.mk (by kernel_rfl) fun l H N Qx Qr=>by kernel_rfl
def zwh(t0:Value)(H:Heap)(K:VH):Prop:=
zNb (zc P 49) H fun t2 H1=>
wCall P zAd [t0] H1 fun t11 H3=>
opP (zha t11) fun t13=>
opP (zfa 9 t13) fun t14=>
opW (zca t14 H3) fun t15 H7=>
opP ((zna P .mul 23 true).f t15 (.int .u64 8)) fun t16=>
opW ((zia P 22 1).f [(0,(.int .u8 128))] H7) fun t18 H10=>
wCall P zLa [t11,t18] H10 fun t19 H12=>
ztb P true 67 zBd 28 [t2,t11,t16] H12 (fun id l H14=>
cond (Nat.beq id 0) (
ztb P true 67 zCd 12 [(nth l 0),(nth l 1),(nth l 2),(.int .i64 0)] H14 (fun id l_1 H16=>
cond (Nat.beq id 2) (
zNb (zc P 49) H16 fun t6 H18=>
opP (zha (nth l_1 1)) fun t43=>
opP (zfa 0 t43) fun t44=>
opW (zma 8 t44 H18) fun t45 H22=>
ztb P true 67 zDd 68 [(nth l_1 0),t6,t45,(.int .i64 0)] H22 (fun id l_2 H24=>
cond (Nat.beq id 4) (
opW (zma 32 (nth l_2 1) H24) fun t66 H26=>
opW (zla 32 (nth l_2 0) t66 H26) fun u H28=>
opW (zma 32 (nth l_2 0) H28) fun r _=>
K r H28) (
False)) (fun l_2 H24=>
opW (zma 32 (nth l_2 0) H24) fun r_1 _=>
K r_1 H24)) (
False)) (fun l_1 H16=>
opW (zma 32 (nth l_1 0) H16) fun r_2 _=>
K r_2 H16)) (
False)) (fun l H14=>
opW (zma 32 (nth l 0) H14) fun r_3 _=>
K r_3 H14)
theorem zak{t0:Value}{H:Heap}{K:VH}(h:zwh t0 H K):wCall P zWa [t0] H K:=zea rfl (Eq.mpr (by kernel_rfl) h)
def zep(t0:Value)(H:Heap)(K:VH):Prop:=
zec (fun J=>
opW (lenSl t0 H) fun t6 H2=>
opP ((zna P .lss 3 true).f t6 (.int .i64 4)) fun t7=>
wIf t7 (
opP (zga t7 (.bool true) undef) fun t14=>
J [t0,t14] H2) (
opW ((zia P 22 2).f [(0,(.int .u8 66)),(1,(.int .u8 85))] H2) fun t10 H6=>
opW (zSf t10 H6) fun t11 H8=>
wCall P zVe [t0,t11] H8 fun t12 H10=>
opP (unA .not t12) fun t13=>
opP (zga t7 (.bool true) t13) fun t14_1=>
J [t0,t14_1] H10)) (fun l H14=>
wIf (nth l 1) (
K (.tuple [(.int .i64 0),(.int .i64 141)].toArray) H14) (
opP (zVa 1 (nth l 0) (some (.int .i64 2)) (some (.int .i64 4)) none) fun t16=>
wCall P zGj [t16] H14 fun t17 H17=>
wCall P zjb [t17,(.int .i64 2)] H17 fun t18 H19=>
opW (zbc .i64 t18 H19) fun t19 H21=>
opP ((zna P .add 3 true).f t19 (.int .i64 36)) fun t20=>
opP ((zna P .gtr 3 true).f t20 (.int .i64 2304)) fun t22=>
wIf t22 (
K (.tuple [(.int .i64 0),(.int .i64 141)].toArray) H21) (
K (.tuple [t20,(.int .i64 0)].toArray) H21)))
theorem zbq{t0:Value}{H:Heap}{K:VH}(h:zep t0 H K):wCall P zSh [t0] H K:=zea rfl (Eq.mpr (by kernel_rfl) h)
noncomputable abbrev zkn:Code:=zEb P zTh 0
def zln(l:List Value)(H:Heap)(N:LN)(Qx:LX)(Qr:LN):Prop:=
opP ((zna P .lss 3 true).f (nth l 4) (.int .i64 32)) fun t8=>
wIf t8 (
opP (zKa 32 1 (nth l 0) (nth l 4)) fun t12=>
opW (zca t12 H) fun t13 H3=>
opP (zKa 32 1 (nth l 1) (nth l 4)) fun t15=>
opW (zca t15 H3) fun t16 H6=>
opP ((zna P .xor 5 false).f t13 t16) fun t17=>
opP ((zna P .or 5 false).f (nth l 3) t17) fun t18=>
opP ((zna P .add 3 true).f (nth l 4) (.int .i64 1)) fun t19=>
N [(nth l 0),(nth l 1),(nth l 2),t18,t19] H6) (
Qx 0 [(nth l 2),(nth l 3)] H)
theorem zDn:LpI P 22 zkn 48 zln:=.mk (by kernel_rfl) fun l H N Qx Qr=>by kernel_rfl
def zyt(t0 t1:Value)(H:Heap)(K:VH):Prop:=
zNb (zBa t0) H fun t2 H1=>
zNb (zBa t1) H1 fun t3 H3=>
ztb P true 22 zkn 48 [t2,t3,(.bool false),(.int .u8 0),(.int .i64 0)] H3 (fun id l H5=>
cond (Nat.beq id 0) (
opP ((zna P .eql 5 true).f (nth l 1) (.int .u8 0)) fun t21=>
K t21 H5) (
False)) (fun l H5=>
K (nth l 0) H5)
theorem zzt{t0 t1:Value}{H:Heap}{K:VH}(h:zyt t0 t1 H K):wCall P zTh [t0,t1] H K:=zea rfl (Eq.mpr (by kernel_rfl) h)
noncomputable abbrev zMq:Code:=zEb P zol 0
def zNq(l:List Value)(H:Heap)(N:LN)(Qx:LX)(Qr:LN):Prop:=
opP ((zna P .lss 3 false).f (nth l 5) (nth l 4)) fun t17=>
wIf t17 (
opP (zYc 1 (nth l 3) (nth l 5)) fun t18=>
opW (zca t18 H) fun t19 H3=>
wCall P zLa [(nth l 2),t19] H3 fun t22 H5=>
opP ((zna P .add 3 true).f (nth l 5) (.int .i64 1)) fun t23=>
N [(nth l 0),(nth l 1),(nth l 2),(nth l 3),(nth l 4),t23] H5) (
Qx 0 [(nth l 0),(nth l 1),(nth l 2)] H)
theorem zcq:LpI P 31 zMq 49 zNq:=.mk (by kernel_rfl) fun l H N Qx Qr=>by kernel_rfl
def zyA(t0 t1:Value)(H:Heap)(K:VH):Prop:=
zNb (zc P 49) H fun t4 H1=>
wCall P zgf [] H1 fun t9 H3=>
wCall P zhf [t0,(.int .u8 54)] H3 fun t12 H5=>
wCall P zLa [t9,t12] H5 fun t13 H7=>
opW (lenSl t1 H7) fun t15 H9=>
ztb P true 31 zMq 49 [t0,t4,t9,t1,t15,(.int .i64 0)] H9 (fun id l H11=>
cond (Nat.beq id 0) (
wCall P zWa [(nth l 2)] H11 fun t25 H13=>
zNb (zc P 49) H13 fun t8 H15=>
opW (zla 32 t8 t25 H15) fun u H17=>
wCall P zhf [(nth l 0),(.int .u8 92)] H17 fun t27 H19=>
opP (zGb 32 1 t8 none none none H19) fun t28=>
zmb (zkb H17 H19) (zJa [t8])∧(opW ((zia P 171 2).f [(0,t27),(1,t28)] H19) fun t29 H22=>
wCall P zpd [t29] H22 fun t30 H24=>
opW (zla 32 (nth l 1) t30 H24) fun u_1 H26=>
opW (zma 32 (nth l 1) H26) fun r _=>
K r H26)) (
False)) (fun l H11=>
opW (zma 32 (nth l 1) H11) fun r_1 _=>
K r_1 H11)
theorem zUx{t0 t1:Value}{H:Heap}{K:VH}(h:zyA t0 t1 H K):wCall P zol [t0,t1] H K:=zea rfl (Eq.mpr (by kernel_rfl) h)
noncomputable abbrev zxh:Code:=zEb P zMd 0
def zyh(l:List Value)(H:Heap)(N:LN)(Qx:LX)(Qr:LN):Prop:=
opP ((zna P .lss 3 false).f (nth l 5) (nth l 4)) fun t29=>
wIf t29 (
opP (zfa 36 (nth l 3)) fun t30=>
opW (zca t30 H) fun t31 H3=>
wCall P zqe [(nth l 2)] H3 fun t33 H5=>
zmb (zkb H3 H5) (zJa [t30])∧(opW ((zia P 50 1).f [(0,t33)] H5) fun t34 H7=>
opW (zqa 32 32 t31 t34 H7) fun t35 H9=>
opP (zfa 36 (nth l 3)) fun t36=>
opW (zla 1 t36 t35 H9) fun u H12=>
opP ((zna P .add 3 true).f (nth l 5) (.int .i64 1)) fun t37=>
N [(nth l 0),(nth l 1),(nth l 2),(nth l 3),(nth l 4),t37] H12)) (
Qx 0 [(nth l 0),(nth l 1),(nth l 2),(nth l 3)] H)
theorem zjj:LpI P 48 zxh 60 zyh:=.mk (by kernel_rfl) fun l H N Qx Qr=>by kernel_rfl
def zuk(t0:Value)(H:Heap)(K:VH):Prop:=
zNb (zc P 52) H fun t2 H1=>
wCall P zGj [t0] H1 fun t7 H3=>
wCall P zpe [t7,(.int .i64 96)] H3 fun t9 H5=>
wCall P zjb [t7,(.int .i64 8)] H5 fun t11 H7=>
wCall P zjb [t7,(.int .i64 4)] H7 fun t13 H9=>
opW (zbc .i64 t13 H9) fun t14 H11=>
wCall P zjb [t7,(.int .i64 2)] H11 fun t16 H13=>
opW (zbc .i64 t16 H13) fun t17 H15=>
opP ((zDa P 52).f [(0,t9),(1,t11),(2,t14),(3,t17)]) fun t18=>
zNb (zc P 52) H15 fun t5 H18=>
opW (zla 37 t5 t18 H18) fun u H20=>
wCall P zqe [t7] H20 fun t20 H22=>
opP (zfa 4 t5) fun t21=>
opW (zla 32 t21 t20 H22) fun u_1 H25=>
opP (zfa 2 t5) fun t22=>
opW (zca t22 H25) fun t23 H28=>
opP (zfa 3 t5) fun t24=>
opW (zca t24 H28) fun t25 H31=>
wCall P zNd [t23,t25] H31 fun t26 H33=>
opW (zBe H33 (zSB [t26,(.int .i64 65)])) fun t27 H35=>
ztb P true 48 zxh 60 [t2,(.int .i64 0),t7,t5,t27,(.int .i64 0)] H35 (fun id l H37=>
cond (Nat.beq id 0) (
zec (fun J=>
wCall P zWe [(nth l 2)] H37 fun t39 H40=>
opP ((zna P .neq 67 true).f t39 (.int .i64 0)) fun t40=>
wIf t40 (
opP (zga t40 (.bool true) undef) fun t45=>
J [(nth l 0),(nth l 3),t45] H40) (
opW (zma 37 (nth l 3) H40) fun t42 H44=>
wCall P zmc [t42] H44 fun t43 H46=>
opP (unA .not t43) fun t44=>
opP (zga t40 (.bool true) t44) fun t45_1=>
J [(nth l 0),(nth l 3),t45_1] H46)) (fun l_1 H50=>
wIf (nth l_1 2) (
opP ((zDa P 52).f []) fun t46=>
opW (zla 37 (nth l_1 0) t46 H50) fun u_2 H53=>
opW (zma 37 (nth l_1 0) H53) fun r _=>
K (.tuple [r,(.int .i64 131)].toArray) H53) (
opW (zma 37 (nth l_1 1) H50) fun t47 H56=>
opW (zla 37 (nth l_1 0) t47 H56) fun u_3 H58=>
opW (zma 37 (nth l_1 0) H58) fun r_1 _=>
K (.tuple [r_1,(.int .i64 0)].toArray) H58))) (
False)) (fun l H37=>
opW (zma 37 (nth l 0) H37) fun r_2 _=>
K (.tuple [r_2,(nth l 1)].toArray) H37)
theorem zzm{t0:Value}{H:Heap}{K:VH}(h:zuk t0 H K):wCall P zMd [t0] H K:=zea rfl (Eq.mpr (by kernel_rfl) h)
def zvk(t0:Value)(H:Heap)(K:VH):Prop:=
zNb (zBa t0) H fun t1 H1=>
zec (fun J=>
zec (fun J_1=>
opP (zfa 0 t1) fun t4=>
opW (zca t4 H1) fun t5 H6=>
wCall P zSi [t5] H6 fun t6 H8=>
opP ((zna P .neq 67 true).f t6 (.int .i64 0)) fun t7=>
wIf t7 (
J_1 [t1,t7] H8) (
opP (zfa 1 t1) fun t8=>
opW (zca t8 H8) fun t9 H12=>
opP ((zna P .lss 23 true).f t9 (.int .u64 1)) fun t10=>
wIf t10 (
J_1 [t1,t10] H12) (
opP (zfa 1 t1) fun t11=>
opW (zca t11 H12) fun t12 H16=>
opP ((zna P .gtr 23 true).f t12 (.int .u64 281474976710656)) fun t13=>
J_1 [t1,t13] H16))) (fun l H19=>
wIf (nth l 1) (
K (.bool false) H19) (
zec (fun J_2=>
opP (zfa 2 (nth l 0)) fun t15=>
opW (zca t15 H19) fun t16 H23=>
opP ((zna P .lss 3 true).f t16 (.int .i64 1)) fun t17=>
wIf t17 (
opP (zga t17 (.bool true) undef) fun t22=>
J_2 [(nth l 0),t22] H23) (
opP (zfa 2 (nth l 0)) fun t19=>
opW (zca t19 H23) fun t20 H28=>
opP ((zna P .gtr 3 true).f t20 (.int .i64 65536)) fun t21=>
opP (zga t17 (.bool true) t21) fun t22_1=>
J_2 [(nth l 0),t22_1] H28)) (fun l_1 H32=>
wIf (nth l_1 1) (
K (.bool false) H32) (
opP (zfa 3 (nth l_1 0)) fun t24=>
opW (zca t24 H32) fun t25 H35=>
opP ((zna P .lss 3 true).f t25 (.int .i64 64)) fun t26=>
wIf t26 (
opP (zga t26 (.bool true) undef) fun t31=>
opP (zga t31 (.bool true) undef) fun t37=>
wIf t37 (
K (.bool false) H35) (
J [(nth l_1 0)] H35)) (
opP (zfa 3 (nth l_1 0)) fun t28=>
opW (zca t28 H35) fun t29 H41=>
opP ((zna P .gtr 3 true).f t29 (.int .i64 1024)) fun t30=>
opP (zga t26 (.bool true) t30) fun t31_1=>
wIf t31_1 (
opP (zga t31_1 (.bool true) undef) fun t37_1=>
wIf t37_1 (
K (.bool false) H41) (
J [(nth l_1 0)] H41)) (
opP (zfa 3 (nth l_1 0)) fun t33=>
opW (zca t33 H41) fun t34 H47=>
opP ((zna P .rem 3 true).f t34 (.int .i64 64)) fun t35=>
opP ((zna P .neq 3 true).f t35 (.int .i64 0)) fun t36=>
opP (zga t31_1 (.bool true) t36) fun t37_2=>
wIf t37_2 (
K (.bool false) H47) (
J [(nth l_1 0)] H47)))))))) (fun l_2 H52=>
opP (zfa 36 (nth l_2 0)) fun t38=>
opW (zca t38 H52) fun t39 H55=>
opW (lenSl t39 H55) fun t40 H57=>
opP (zfa 2 (nth l_2 0)) fun t41=>
opW (zca t41 H57) fun t42 H60=>
opP (zfa 3 (nth l_2 0)) fun t43=>
opW (zca t43 H60) fun t44 H63=>
wCall P zNd [t42,t44] H63 fun t45 H65=>
zmb (zkb H63 H65) (zJa [t38])∧(opP ((zna P .eql 3 false).f t40 t45) fun t46=>
wIf t46 (
opP (zfa 36 (nth l_2 0)) fun t48=>
opW (zca t48 H65) fun t49 H69=>
opW (lenSl t49 H69) fun t50 H71=>
opP ((zna P .leq 3 true).f t50 (.int .i64 64)) fun t51=>
opP (zga t46 t51 (.bool false)) fun t52=>
K t52 H71) (
opP (zga t46 undef (.bool false)) fun t52_1=>
K t52_1 H65)))
theorem zAm{t0:Value}{H:Heap}{K:VH}(h:zvk t0 H K):wCall P zmc [t0] H K:=zea rfl (Eq.mpr (by kernel_rfl) h)
def zOq(t0 t1:Value)(H:Heap)(K:VH):Prop:=
wCall P zCg [t0] H fun t6 H1=>
wCall P zCg [t1] H1 fun t8 H3=>
opP ((zna P .eql 9 false).f t6 t8) fun t9=>
K t9 H3
theorem zWr{t0 t1:Value}{H:Heap}{K:VH}(h:zOq t0 t1 H K):wCall P zRi [t0,t1] H K:=zea rfl (Eq.mpr (by kernel_rfl) h)
def zPq(H:Heap)(K:VH):Prop:=
wCall P zWg [] H fun t1 H1=>
opP ((zDa P 166).f [(0,t1)]) fun t2=>
zNb (zBa t2) H1 fun t3 H4=>
K t3 H4
theorem zXr{H:Heap}{K:VH}(h:zPq  H K):wCall P zgf [] H K:=zea rfl (Eq.mpr (by kernel_rfl) h)
def zzl(t0 t1:Value)(H:Heap)(K:VH):Prop:=
zNb (zBa t0) H fun t2 H1=>
zec (fun J=>
opW (zma 37 t2 H1) fun t7 H4=>
wCall P zmc [t7] H4 fun t8 H6=>
opP (unA .not t8) fun t9=>
wIf t9 (
opP (zga t9 (.bool true) undef) fun t13=>
opP (zga t13 (.bool true) undef) fun t20=>
J [t1,t2,t20] H6) (
opP ((zna P .lss 3 true).f t1 (.int .i64 0)) fun t12=>
opP (zga t9 (.bool true) t12) fun t13_1=>
wIf t13_1 (
opP (zga t13_1 (.bool true) undef) fun t20_1=>
J [t1,t2,t20_1] H6) (
opP (zfa 36 t2) fun t16=>
opW (zca t16 H6) fun t17 H15=>
opW (lenSl t17 H15) fun t18 H17=>
opP ((zna P .geq 3 false).f t1 t18) fun t19=>
opP (zga t13_1 (.bool true) t19) fun t20_2=>
J [t1,t2,t20_2] H17))) (fun l H21=>
wIf (nth l 2) (
K (.tuple [(.int .i64 0),(.int .i64 0)].toArray) H21) (
opP (zfa 3 (nth l 1)) fun t22=>
opW (zca t22 H21) fun t23 H24=>
opP ((zna P .mul 3 false).f (nth l 0) t23) fun t24=>
opP (zfa 3 (nth l 1)) fun t26=>
opW (zca t26 H24) fun t27 H28=>
opP (zfa 2 (nth l 1)) fun t28=>
opW (zca t28 H28) fun t29 H31=>
opP ((zna P .sub 3 false).f t29 t24) fun t31=>
opW (zBe H31 (zSB [t27,t31])) fun t32 H34=>
K (.tuple [t24,t32].toArray) H34))
theorem zEn{t0 t1:Value}{H:Heap}{K:VH}(h:zzl t0 t1 H K):wCall P zWf [t0,t1] H K:=zea rfl (Eq.mpr (by kernel_rfl) h)
noncomputable abbrev zAl:Code:=zEb P zpd 0
def zai(l:List Value)(H:Heap)(N:LN)(Qx:LX)(Qr:LN):Prop:=
opP ((zna P .lss 3 false).f (nth l 4) (nth l 3)) fun t10=>
wIf t10 (
opP (zYc 1 (nth l 2) (nth l 4)) fun t11=>
opW (zca t11 H) fun t12 H3=>
wCall P zLa [(nth l 1),t12] H3 fun t15 H5=>
opP ((zna P .add 3 true).f (nth l 4) (.int .i64 1)) fun t16=>
N [(nth l 0),(nth l 1),(nth l 2),(nth l 3),t16] H5) (
Qx 0 [(nth l 0),(nth l 1)] H)
theorem zzh:LpI P 19 zAl 12 zai:=.mk (by kernel_rfl) fun l H N Qx Qr=>by kernel_rfl
def zBm(t0:Value)(H:Heap)(K:VH):Prop:=
zNb (zc P 49) H fun t2 H1=>
wCall P zgf [] H1 fun t6 H3=>
opW (lenSl t0 H3) fun t8 H5=>
ztb P true 19 zAl 12 [t2,t6,t0,t8,(.int .i64 0)] H5 (fun id l H7=>
cond (Nat.beq id 0) (
wCall P zWa [(nth l 1)] H7 fun t18 H9=>
opW (zla 32 (nth l 0) t18 H9) fun u H11=>
opW (zma 32 (nth l 0) H11) fun r _=>
K r H11) (
False)) (fun l H7=>
opW (zma 32 (nth l 0) H7) fun r_1 _=>
K r_1 H7)
theorem zBl{t0:Value}{H:Heap}{K:VH}(h:zBm t0 H K):wCall P zpd [t0] H K:=zea rfl (Eq.mpr (by kernel_rfl) h)
noncomputable abbrev zIe:Code:=zEb P zLa 0
def zJe(l:List Value)(H:Heap)(N:LN)(Qx:LX)(Qr:LN):Prop:=
opP (zha (nth l 0)) fun t24=>
opP (zfa 8 t24) fun t25=>
opW (zca t25 H) fun t26 H3=>
opW (lenSl t26 H3) fun t27 H5=>
opP ((zna P .geq 3 true).f t27 (.int .i64 64)) fun t28=>
wIf t28 (
opP (zha (nth l 0)) fun t31=>
opP (zfa 0 t31) fun t32=>
opW (zma 8 t32 H5) fun t33 H10=>
opP (zha (nth l 0)) fun t35=>
opP (zfa 8 t35) fun t36=>
opW (zca t36 H10) fun t37 H14=>
opP (zVa 1 t37 none (some (.int .i64 64)) none) fun t38=>
wCall P zrc [t33,t38] H14 fun t39 H17=>
opP (zha (nth l 0)) fun t40=>
opP (zfa 0 t40) fun t41=>
opW (zla 8 t41 t39 H17) fun u H21=>
opP (zha (nth l 0)) fun t44=>
opP (zfa 8 t44) fun t45=>
opW (zca t45 H21) fun t46 H25=>
opP (zVa 1 t46 (some (.int .i64 64)) none none) fun t47=>
opP (zha (nth l 0)) fun t48=>
opP (zfa 8 t48) fun t49=>
opW (zla 1 t49 t47 H25) fun u_1 H30=>
N [(nth l 0)] H30) (
Qx 0 [] H5)
theorem zqg:LpI P 50 zIe 0 zJe:=.mk (by kernel_rfl) fun l H N Qx Qr=>by kernel_rfl
def zeg(t0 t1:Value)(H:Heap)(K:VH):Prop:=
opP (zha t0) fun t5=>
opP (zfa 9 t5) fun t6=>
opW (zca t6 H) fun t7 H3=>
opW (lenSl t1 H3) fun t9 H5=>
opW (zbc .u64 t9 H5) fun t10 H7=>
opP ((zna P .add 23 false).f t7 t10) fun t11=>
opP (zha t0) fun t12=>
opP (zfa 9 t12) fun t13=>
opW (zla 1 t13 t11 H7) fun u H12=>
opP (zha t0) fun t16=>
opP (zfa 8 t16) fun t17=>
opW (zca t17 H12) fun t18 H16=>
opW (zqa 1 1 t18 t1 H16) fun t20 H18=>
opP (zha t0) fun t21=>
opP (zfa 8 t21) fun t22=>
opW (zla 1 t22 t20 H18) fun u_1 H22=>
ztb P true 50 zIe 0 [t0] H22 (fun id l H24=>
cond (Nat.beq id 0) (
K (.tuple [].toArray) H24) (
False)) (fun l H24=>
K (.tuple [].toArray) H24)
theorem zzi{t0 t1:Value}{H:Heap}{K:VH}(h:zeg t0 t1 H K):wCall P zLa [t0,t1] H K:=zea rfl (Eq.mpr (by kernel_rfl) h)
noncomputable abbrev zkj:Code:=zEb P zUh 0
def zmn(l:List Value)(H:Heap)(N:LN)(Qx:LX)(Qr:LN):Prop:=
opP ((zna P .lss 3 false).f (nth l 6) (nth l 3)) fun t58=>
wIf t58 (
opP (zAs (nth l 0) (nth l 6)) fun t63=>
opW (zbc .i64 t63 H) fun t64 H3=>
zec (fun J=>
opP ((zna P .lss 3 true).f t64 (.int .i64 128)) fun t66=>
wIf t66 (
opP (zga t66 (.bool true) undef) fun t70=>
J [(nth l 0),(nth l 1),(nth l 2),(nth l 3),(nth l 4),(nth l 5),(nth l 6),t64,t70] H3) (
opP ((zna P .gtr 3 true).f t64 (.int .i64 191)) fun t69=>
opP (zga t66 (.bool true) t69) fun t70_1=>
J [(nth l 0),(nth l 1),(nth l 2),(nth l 3),(nth l 4),(nth l 5),(nth l 6),t64,t70_1] H3)) (fun l_1 H10=>
wIf (nth l_1 8) (
opW (zma 3 (nth l_1 2) H10) fun t71 H12=>
opW (zla 3 (nth l_1 1) t71 H12) fun u H14=>
Qr [(nth l_1 0),(nth l_1 1),(nth l_1 2),(nth l_1 3),(nth l_1 4),(nth l_1 5)] H14) (
opP ((zna P .mul 3 true).f (.int .i64 64) (nth l_1 4)) fun t73=>
opP ((zna P .add 3 false).f t73 (nth l_1 7)) fun t75=>
opP ((zna P .sub 3 true).f t75 (.int .i64 128)) fun t76=>
opP ((zna P .add 3 true).f (nth l_1 6) (.int .i64 1)) fun t60=>
N [(nth l_1 0),(nth l_1 1),(nth l_1 2),(nth l_1 3),t76,(nth l_1 5),t60] H10))) (
Qx 1 [(nth l 0),(nth l 1),(nth l 2),(nth l 3),(nth l 4),(nth l 5)] H)
theorem zFn:LpI P 98 zkj 245 zmn:=.mk (by kernel_rfl) fun l H N Qx Qr=>by kernel_rfl
def zAt(t0:Value)(H:Heap)(K:VH):Prop:=
zNb (zc P 139) H fun t2 H1=>
opP (zAs t0 (.int .i64 0)) fun t11=>
opW (zbc .i64 t11 H1) fun t12 H4=>
opP (zbf t0 none (some (.int .i64 1)) none) fun t15=>
opP ((zDa P 139).f [(0,t12),(1,t15),(2,(.bool true))]) fun t16=>
zNb (zc P 139) H4 fun t4 H8=>
opW (zla 3 t4 t16 H8) fun u H10=>
opP ((zna P .lss 3 true).f t12 (.int .i64 128)) fun t18=>
wIf t18 (
opP (zbf t0 none (some (.int .i64 1)) none) fun t21=>
opP ((zDa P 139).f [(0,t12),(1,t21),(2,(.bool false))]) fun t22=>
opW (zla 3 t2 t22 H10) fun u_1 H15=>
opW (zma 3 t2 H15) fun r _=>
K r H15) (
zec (fun J=>
zec (fun J_1=>
opP ((zna P .geq 3 true).f t12 (.int .i64 194)) fun t26=>
wIf t26 (
opP ((zna P .lss 3 true).f t12 (.int .i64 224)) fun t29=>
opP (zga t26 t29 (.bool false)) fun t30=>
J_1 [t0,t2,t12,t4,(.int .i64 0),(.int .i64 0),(.int .i64 0),t30] H10) (
opP (zga t26 undef (.bool false)) fun t30_1=>
J_1 [t0,t2,t12,t4,(.int .i64 0),(.int .i64 0),(.int .i64 0),t30_1] H10)) (fun l H24=>
wIf (nth l 7) (
opP ((zna P .sub 3 true).f (nth l 2) (.int .i64 192)) fun t32=>
J [(nth l 0),(nth l 1),(nth l 3),(.int .i64 2),t32,(.int .i64 128)] H24) (
zec (fun J_2=>
opP ((zna P .geq 3 true).f (nth l 2) (.int .i64 224)) fun t35=>
wIf t35 (
opP ((zna P .lss 3 true).f (nth l 2) (.int .i64 240)) fun t38=>
opP (zga t35 t38 (.bool false)) fun t39=>
J_2 [(nth l 0),(nth l 1),(nth l 2),(nth l 3),(nth l 4),(nth l 5),(nth l 6),t39] H24) (
opP (zga t35 undef (.bool false)) fun t39_1=>
J_2 [(nth l 0),(nth l 1),(nth l 2),(nth l 3),(nth l 4),(nth l 5),(nth l 6),t39_1] H24)) (fun l_1 H32=>
wIf (nth l_1 7) (
opP ((zna P .sub 3 true).f (nth l_1 2) (.int .i64 224)) fun t41=>
J [(nth l_1 0),(nth l_1 1),(nth l_1 3),(.int .i64 3),t41,(.int .i64 2048)] H32) (
zec (fun J_3=>
opP ((zna P .geq 3 true).f (nth l_1 2) (.int .i64 240)) fun t44=>
wIf t44 (
opP ((zna P .lss 3 true).f (nth l_1 2) (.int .i64 245)) fun t47=>
opP (zga t44 t47 (.bool false)) fun t48=>
J_3 [(nth l_1 0),(nth l_1 1),(nth l_1 2),(nth l_1 3),(nth l_1 4),(nth l_1 5),(nth l_1 6),t48] H32) (
opP (zga t44 undef (.bool false)) fun t48_1=>
J_3 [(nth l_1 0),(nth l_1 1),(nth l_1 2),(nth l_1 3),(nth l_1 4),(nth l_1 5),(nth l_1 6),t48_1] H32)) (fun l_2 H40=>
wIf (nth l_2 7) (
opP ((zna P .sub 3 true).f (nth l_2 2) (.int .i64 240)) fun t50=>
J [(nth l_2 0),(nth l_2 1),(nth l_2 3),(.int .i64 4),t50,(.int .i64 65536)] H40) (
opW (zma 3 (nth l_2 3) H40) fun t23 H43=>
opW (zla 3 (nth l_2 1) t23 H43) fun u_2 H45=>
opW (zma 3 (nth l_2 1) H45) fun r_1 _=>
K r_1 H45))))))) (fun l_3 H48=>
opW (zIo (nth l_3 0) H48) fun t52 H50=>
opP ((zna P .lss 3 false).f t52 (nth l_3 3)) fun t54=>
wIf t54 (
opW (zma 3 (nth l_3 2) H50) fun t55 H53=>
opW (zla 3 (nth l_3 1) t55 H53) fun u_3 H55=>
opW (zma 3 (nth l_3 1) H55) fun r_2 _=>
K r_2 H55) (
ztb P true 98 zkj 245 [(nth l_3 0),(nth l_3 1),(nth l_3 2),(nth l_3 3),(nth l_3 4),(nth l_3 5),(.int .i64 1)] H50 (fun id l_4 H58=>
cond (Nat.beq id 1) (
zec (fun J_4=>
opP ((zna P .lss 3 false).f (nth l_4 4) (nth l_4 5)) fun t79=>
wIf t79 (
opP (zga t79 (.bool true) undef) fun t83=>
opP (zga t83 (.bool true) undef) fun t91=>
J_4 [(nth l_4 0),(nth l_4 1),(nth l_4 2),(nth l_4 3),(nth l_4 4),t91] H58) (
opP ((zna P .gtr 3 true).f (nth l_4 4) (.int .i64 1114111)) fun t82=>
opP (zga t79 (.bool true) t82) fun t83_1=>
wIf t83_1 (
opP (zga t83_1 (.bool true) undef) fun t91_1=>
J_4 [(nth l_4 0),(nth l_4 1),(nth l_4 2),(nth l_4 3),(nth l_4 4),t91_1] H58) (
opP ((zna P .geq 3 true).f (nth l_4 4) (.int .i64 55296)) fun t86=>
wIf t86 (
opP ((zna P .leq 3 true).f (nth l_4 4) (.int .i64 57343)) fun t89=>
opP (zga t86 t89 (.bool false)) fun t90=>
opP (zga t83_1 (.bool true) t90) fun t91_2=>
J_4 [(nth l_4 0),(nth l_4 1),(nth l_4 2),(nth l_4 3),(nth l_4 4),t91_2] H58) (
opP (zga t86 undef (.bool false)) fun t90_1=>
opP (zga t83_1 (.bool true) t90_1) fun t91_3=>
J_4 [(nth l_4 0),(nth l_4 1),(nth l_4 2),(nth l_4 3),(nth l_4 4),t91_3] H58)))) (fun l_5 H73=>
wIf (nth l_5 5) (
opW (zma 3 (nth l_5 2) H73) fun t92 H75=>
opW (zla 3 (nth l_5 1) t92 H75) fun u_4 H77=>
opW (zma 3 (nth l_5 1) H77) fun r_3 _=>
K r_3 H77) (
opP (zbf (nth l_5 0) none (some (nth l_5 3)) none) fun t96=>
opP ((zDa P 139).f [(0,(nth l_5 4)),(1,t96),(2,(.bool false))]) fun t97=>
opW (zla 3 (nth l_5 1) t97 H73) fun u_5 H82=>
opW (zma 3 (nth l_5 1) H82) fun r_4 _=>
K r_4 H82))) (
False)) (fun l_4 H58=>
opW (zma 3 (nth l_4 1) H58) fun r_5 _=>
K r_5 H58))))
theorem zBt{t0:Value}{H:Heap}{K:VH}(h:zAt t0 H K):wCall P zUh [t0] H K:=zea rfl (Eq.mpr (by kernel_rfl) h)
def zNg(t0:Value)(H:Heap)(K:VH):Prop:=
opP (zha t0) fun t4=>
opP (zfa 0 t4) fun t5=>
opW (zma 8 t5 H) fun t6 H3=>
opP (zha t0) fun t8=>
opP (zfa 8 t8) fun t9=>
opW (zca t9 H3) fun t10 H7=>
opW (zqa 1 1 (.slice none 0 0) t10 H7) fun t11 H9=>
zlk (zJa [t5]) (zJa [(.slice none 0 0),t10])∧(opP (zha t0) fun t13=>
opP (zfa 9 t13) fun t14=>
opW (zca t14 H9) fun t15 H13=>
zlk (zJa [(.slice none 0 0),t10]) (zJa [t14])∧zsq (zJa [t14]) H7.next H9.next∧(opP ((zDa P 166).f [(0,t6),(1,t11),(2,t15)]) fun t16=>
zNb (zBa t16) H13 fun t17 H16=>
K t17 H16))
theorem zlj{t0:Value}{H:Heap}{K:VH}(h:zNg t0 H K):wCall P zAd [t0] H K:=zea rfl (Eq.mpr (by kernel_rfl) h)
def bytes_HasPrefix(t0 t1:Value)(H:Heap)(K:VH):Prop:=
opW (lenSl t0 H) fun t6 H1=>
opW (lenSl t1 H1) fun t8 H3=>
opP ((zna P .geq 3 false).f t6 t8) fun t9=>
wIf t9 (
opW (lenSl t1 H3) fun t13 H6=>
opP (zVa 1 t0 none (some t13) none) fun t14=>
wCall P zVh [t14,t1] H6 fun t16 H9=>
opP (zga t9 t16 (.bool false)) fun t17=>
K t17 H9) (
opP (zga t9 undef (.bool false)) fun t17_1=>
K t17_1 H3)
theorem zCl{t0 t1:Value}{H:Heap}{K:VH}(h:bytes_HasPrefix t0 t1 H K):wCall P zVe [t0,t1] H K:=zea rfl (Eq.mpr (by kernel_rfl) h)
def zGw(t0:Value)(H:Heap)(K:VH):Prop:=
opP ((zDa P 190).f [(0,t0)]) fun t4=>
zNb (zBa t4) H fun t5 H2=>
K t5 H2
theorem znv{t0:Value}{H:Heap}{K:VH}(h:zGw t0 H K):wCall P zGj [t0] H K:=zea rfl (Eq.mpr (by kernel_rfl) h)
noncomputable abbrev zyb:List Tmp × Code × Code:=rangeAt P zjb 0
def zyf(vals args:List Value)(l:Nat)(H:Heap)(K:VH):Prop:=
zyw l H fun H0=>
opW (zca (nth vals 0) H0) fun t15 H2=>
opP ((zna P .shl 23 true).f t15 (.int .u64 8)) fun t16=>
opW (zbc .u64 (nth args 1) H2) fun t18 H5=>
opP ((zna P .or 23 false).f t16 t18) fun t19=>
opW (zla 1 (nth vals 0) t19 H5) fun u H8=>
zZG l .normal H8 K
theorem zbi(vals args:List Value)(l:Nat)(H:Heap)(K:VH):zYu P 21 zyb.1 zyb.2.1 zyb.2.2 vals args l H K=zyf vals args l H K:=by kernel_rfl
def zAh(t0 t1:Value)(H:Heap)(K:VH):Prop:=
zNb (zc P 23) H fun t5 H1=>
opW (zla 1 t5 (.int .u64 0) H1) fun u H3=>
wCall P zWh [t1] H3 fun t10 H5=>
wCall P zVb [t0,t10] H5 fun t11 H7=>
wCall P zqd [t11] H7 fun t12 H9=>
zxw P 21 zyb.1 zyb.2.1 zyb.2.2 [t5,undef] t12 H9 (fun H10=>
opW (zca t5 H10) fun t20 H12=>
K t20 H12) (fun id H10=>
cond (Nat.beq id 0) (
opW (zca t5 H10) fun t20_1 H14=>
K t20_1 H14) (
False)) (fun H10=>
K (.int .u64 0) H10)
theorem zbk{t0 t1:Value}{H:Heap}{K:VH}(h:zAh t0 t1 H K):wCall P zjb [t0,t1] H K:=zea rfl (Eq.mpr (by kernel_rfl) h)
noncomputable abbrev zDl:Code:=zEb P zhf 0
def zEl(l:List Value)(H:Heap)(N:LN)(Qx:LX)(Qr:LN):Prop:=
opP ((zna P .lss 3 true).f (nth l 3) (.int .i64 64)) fun t19=>
wIf t19 (
opP (zKa 64 1 (nth l 2) (nth l 3)) fun t22=>
opW (zca t22 H) fun t23 H3=>
opP ((zna P .xor 5 false).f t23 (nth l 0)) fun t25=>
opP (zKa 64 1 (nth l 2) (nth l 3)) fun t26=>
opW (zla 1 t26 t25 H3) fun u H7=>
opP ((zna P .add 3 true).f (nth l 3) (.int .i64 1)) fun t27=>
N [(nth l 0),(nth l 1),(nth l 2),t27] H7) (
Qx 0 [(nth l 1),(nth l 2)] H)
theorem zCm:LpI P 29 zDl 80 zEl:=.mk (by kernel_rfl) fun l H N Qx Qr=>by kernel_rfl
def zQq(t0 t1:Value)(H:Heap)(K:VH):Prop:=
zec (fun J=>
opW (lenSl t0 H) fun t9 H2=>
opP ((zna P .gtr 3 true).f t9 (.int .i64 64)) fun t10=>
wIf t10 (
opW ((zia P 171 1).f [(0,t0)] H2) fun t12 H5=>
wCall P zpd [t12] H5 fun t13 H7=>
zNb (zc P 49) H7 fun t5 H9=>
opW (zla 32 t5 t13 H9) fun u H11=>
opP (zGb 32 1 t5 none none none H11) fun t14=>
J [t14,t1,(.slice none 0 0)] H11) (
J [t0,t1,(.slice none 0 0)] H2)) (fun l H14=>
zNb (zc P 195) H14 fun t6 H16=>
opP (zGb 64 1 t6 none none none H16) fun t15=>
opW (zji 1 t15 (nth l 0) H16) fun t17 H19=>
ztb P true 29 zDl 80 [(nth l 1),(nth l 2),t6,(.int .i64 0)] H19 (fun id l_1 H21=>
cond (Nat.beq id 0) (
opP (zGb 64 1 (nth l_1 1) none none none H21) fun t28=>
K t28 H21) (
False)) (fun l_1 H21=>
K (nth l_1 0) H21))
theorem zYr{t0 t1:Value}{H:Heap}{K:VH}(h:zQq t0 t1 H K):wCall P zhf [t0,t1] H K:=zea rfl (Eq.mpr (by kernel_rfl) h)
def zoi(t0 t1:Value)(H:Heap)(K:VH):Prop:=
wCall P zjb [t0,(.int .i64 2)] H fun t7 H1=>
opW (zbc .i64 t7 H1) fun t8 H3=>
zec (fun J=>
opP (zha t0) fun t10=>
opP (zfa 1 t10) fun t11=>
opW (zca t11 H3) fun t12 H8=>
opP ((zna P .eql 67 true).f t12 (.int .i64 0)) fun t13=>
wIf t13 (
opP ((zna P .gtr 3 false).f t8 t1) fun t17=>
opP (zga t13 t17 (.bool false)) fun t18=>
J [t0,t8,t18] H8) (
opP (zga t13 undef (.bool false)) fun t18_1=>
J [t0,t8,t18_1] H8)) (fun l H14=>
wIf (nth l 2) (
wCall P zcd [(nth l 0),(.int .i64 52)] H14 fun t20 H16=>
wCall P zVb [(nth l 0),(nth l 1)] H16 fun t23 H18=>
opW (zfb t23 H18) fun t24 H20=>
K t24 H20) (
wCall P zVb [(nth l 0),(nth l 1)] H14 fun t23_1 H22=>
opW (zfb t23_1 H22) fun t24_1 H24=>
K t24_1 H24))
theorem zPk{t0 t1:Value}{H:Heap}{K:VH}(h:zoi t0 t1 H K):wCall P zpe [t0,t1] H K:=zea rfl (Eq.mpr (by kernel_rfl) h)
def zFl(t0:Value)(H:Heap)(K:VH):Prop:=
zNb (zc P 49) H fun t2 H1=>
zNb (zc P 49) H1 fun t3 H3=>
opP (zGb 32 1 t3 none none none H3) fun t4=>
wCall P zXe [t0,(.int .i64 32)] H3 fun t6 H6=>
zmb (zkb H3 H6) (zJa [t3])∧(opW (zji 1 t4 t6 H6) fun t7 H8=>
opW (zma 32 t3 H8) fun t8 H10=>
opW (zla 32 t2 t8 H10) fun u H12=>
opW (zma 32 t2 H12) fun r _=>
K r H12)
theorem zGn{t0:Value}{H:Heap}{K:VH}(h:zFl t0 H K):wCall P zqe [t0] H K:=zea rfl (Eq.mpr (by kernel_rfl) h)
def zwk(t0 t1:Value)(H:Heap)(K:VH):Prop:=
zec (fun J=>
opP ((zna P .lss 3 true).f t0 (.int .i64 1)) fun t6=>
wIf t6 (
opP (zga t6 (.bool true) undef) fun t10=>
wIf t10 (
K (.int .i64 0) H) (
J [t0,t1] H)) (
opP ((zna P .lss 3 true).f t1 (.int .i64 1)) fun t9=>
opP (zga t6 (.bool true) t9) fun t10_1=>
wIf t10_1 (
K (.int .i64 0) H) (
J [t0,t1] H))) (fun l H6=>
opP ((zna P .sub 3 true).f (nth l 0) (.int .i64 1)) fun t12=>
opP ((zna P .quo 3 false).f t12 (nth l 1)) fun t14=>
opP ((zna P .add 3 true).f t14 (.int .i64 1)) fun t15=>
K t15 H6)
theorem zDm{t0 t1:Value}{H:Heap}{K:VH}(h:zwk t0 t1 H K):wCall P zNd [t0,t1] H K:=zea rfl (Eq.mpr (by kernel_rfl) h)
def zmj(t0:Value)(H:Heap)(K:VH):Prop:=
opP (zha t0) fun t4=>
opP (zfa 1 t4) fun t5=>
opW (zca t5 H) fun t6 H3=>
opP ((zna P .eql 67 true).f t6 (.int .i64 0)) fun t7=>
wIf t7 (
opP (zha t0) fun t10=>
opP (zfa 0 t10) fun t11=>
opW (zca t11 H3) fun t12 H8=>
opW (lenSl t12 H8) fun t13 H10=>
opP ((zna P .gtr 3 true).f t13 (.int .i64 0)) fun t14=>
opP (zga t7 t14 (.bool false)) fun t15=>
wIf t15 (
K (.int .i64 52) H10) (
opP (zha t0) fun t17=>
opP (zfa 1 t17) fun t18=>
opW (zca t18 H10) fun t19 H16=>
K t19 H16)) (
opP (zga t7 undef (.bool false)) fun t15_1=>
wIf t15_1 (
K (.int .i64 52) H3) (
opP (zha t0) fun t17_1=>
opP (zfa 1 t17_1) fun t18_1=>
opW (zca t18_1 H3) fun t19_1 H21=>
K t19_1 H21))
theorem zGl{t0:Value}{H:Heap}{K:VH}(h:zmj t0 H K):wCall P zWe [t0] H K:=zea rfl (Eq.mpr (by kernel_rfl) h)
def znn(H:Heap)(K:VH):Prop:=
zNb (zc P 164) H fun t0 H1=>
opP ((zDa P 164).f [(0,(.int .u32 1779033703)),(1,(.int .u32 3144134277)),(2,(.int .u32 1013904242)),(3,(.int .u32 2773480762)),(4,(.int .u32 1359893119)),(5,(.int .u32 2600822924)),(6,(.int .u32 528734635)),(7,(.int .u32 1541459225))]) fun t1=>
opW (zla 8 t0 t1 H1) fun u H4=>
opW (zma 8 t0 H4) fun r _=>
K r H4
theorem zfp{H:Heap}{K:VH}(h:znn  H K):wCall P zWg [] H K:=zea rfl (Eq.mpr (by kernel_rfl) h)
noncomputable abbrev zUd:Code:=zEb P zrc 0
noncomputable abbrev zVd:Code:=zEb P zrc 1
def zfg(l:List Value)(H:Heap)(N:LN)(Qx:LX)(Qr:LN):Prop:=
opP ((zna P .lss 3 true).f (nth l 5) (.int .i64 64)) fun t19=>
wIf t19 (
opP (zKa 8 1 (nth l 4) (.int .i64 0)) fun t21=>
opW (zca t21 H) fun t22 H3=>
opP (zKa 8 1 (nth l 4) (.int .i64 4)) fun t23=>
opW (zca t23 H3) fun t24 H6=>
opP (zKa 8 1 (nth l 4) (.int .i64 7)) fun t25=>
opW (zca t25 H6) fun t26 H9=>
opW ((zia P 234 3).f [(0,(.int .i64 6)),(1,(.int .i64 11)),(2,(.int .i64 25))] H9) fun t28 H11=>
wCall P zNc [t24,t28] H11 fun t29 H13=>
zmb (zkb H11 H13) (zJa [t25])∧(opP ((zna P .add 162 false).f t26 t29) fun t30=>
opP (zKa 8 1 (nth l 4) (.int .i64 5)) fun t32=>
opW (zca t32 H13) fun t33 H17=>
zmb (zkb H11 H13) (zJa [t32])∧(zsq (zJa [t32]) H9.next H11.next∧(opP ((zna P .and 162 false).f t24 t33) fun t34=>
opP (unA .xor t24) fun t36=>
opP (zKa 8 1 (nth l 4) (.int .i64 6)) fun t37=>
opW (zca t37 H17) fun t38 H22=>
zmb (zkb H11 H13) (zJa [t37])∧(zsq (zJa [t37]) H9.next H11.next∧(opP ((zna P .and 162 false).f t36 t38) fun t39=>
opP ((zna P .xor 162 false).f t34 t39) fun t40=>
opP ((zna P .add 162 false).f t30 t40) fun t41=>
opP (zha (nth l 3)) fun t44=>
opP (zKa 64 1 t44 (nth l 5)) fun t45=>
opW (zca t45 H22) fun t46 H29=>
zmb (zkb H11 H13) (zJa [t45])∧(zsq (zJa [t45]) H9.next H11.next∧(opP ((zna P .add 162 false).f t41 t46) fun t47=>
opP (zKa 64 1 (nth l 2) (nth l 5)) fun t49=>
opW (zca t49 H29) fun t50 H33=>
zmb (zkb H11 H13) (zJa [t49])∧(zsq (zJa [t49]) H9.next H11.next∧(opP ((zna P .add 162 false).f t47 t50) fun t51=>
opW ((zia P 234 3).f [(0,(.int .i64 2)),(1,(.int .i64 13)),(2,(.int .i64 22))] H33) fun t53 H36=>
wCall P zNc [t22,t53] H36 fun t54 H38=>
opP (zKa 8 1 (nth l 4) (.int .i64 1)) fun t56=>
opW (zca t56 H38) fun t57 H41=>
zmb (zkb H36 H38) (zJa [t56])∧(zsq (zJa [t56]) H33.next H36.next∧(opP ((zna P .and 162 false).f t22 t57) fun t58=>
opP (zKa 8 1 (nth l 4) (.int .i64 2)) fun t60=>
opW (zca t60 H41) fun t61 H45=>
zmb (zkb H36 H38) (zJa [t60])∧(zsq (zJa [t60]) H33.next H36.next∧(opP ((zna P .and 162 false).f t22 t61) fun t62=>
opP ((zna P .xor 162 false).f t58 t62) fun t63=>
opP (zKa 8 1 (nth l 4) (.int .i64 1)) fun t64=>
opW (zca t64 H45) fun t65 H50=>
zmb (zkb H36 H38) (zJa [t64])∧(zsq (zJa [t64]) H33.next H36.next∧(opP (zKa 8 1 (nth l 4) (.int .i64 2)) fun t66=>
opW (zca t66 H50) fun t67 H53=>
zmb (zkb H36 H38) (zJa [t66])∧(zsq (zJa [t66]) H33.next H36.next∧(opP ((zna P .and 162 false).f t65 t67) fun t68=>
opP ((zna P .xor 162 false).f t63 t68) fun t69=>
opP ((zna P .add 162 false).f t54 t69) fun t70=>
opP (zGb 8 1 (nth l 4) (some (.int .i64 1)) none none H53) fun t71=>
opP (zGb 8 1 (nth l 4) none (some (.int .i64 7)) none H53) fun t72=>
opW (zji 1 t71 t72 H53) fun t73 H60=>
opP (zKa 8 1 (nth l 4) (.int .i64 4)) fun t74=>
opW (zca t74 H60) fun t75 H63=>
opP ((zna P .add 162 false).f t75 t51) fun t77=>
opP (zKa 8 1 (nth l 4) (.int .i64 4)) fun t78=>
opW (zla 1 t78 t77 H63) fun u H67=>
opP ((zna P .add 162 false).f t51 t70) fun t81=>
opP (zKa 8 1 (nth l 4) (.int .i64 0)) fun t82=>
opW (zla 1 t82 t81 H67) fun u_1 H71=>
opP ((zna P .add 3 true).f (nth l 5) (.int .i64 1)) fun t83=>
N [(nth l 0),(nth l 1),(nth l 2),(nth l 3),(nth l 4),t83] H71)))))))))))))))))) (
Qx 0 [(nth l 0),(nth l 1),(nth l 4)] H)
theorem zci:LpI P 97 zUd 148 zfg:=.mk (by kernel_rfl) fun l H N Qx Qr=>by kernel_rfl
def zgg(l:List Value)(H:Heap)(N:LN)(Qx:LX)(Qr:LN):Prop:=
opP ((zna P .lss 3 true).f (nth l 3) (.int .i64 8)) fun t85=>
wIf t85 (
opP (zKa 8 1 (nth l 0) (nth l 3)) fun t88=>
opW (zca t88 H) fun t89 H3=>
opP (zKa 8 1 (nth l 2) (nth l 3)) fun t91=>
opW (zca t91 H3) fun t92 H6=>
opP ((zna P .add 162 false).f t89 t92) fun t93=>
opP (zKa 8 1 (nth l 0) (nth l 3)) fun t94=>
opW (zla 1 t94 t93 H6) fun u H10=>
opP ((zna P .add 3 true).f (nth l 3) (.int .i64 1)) fun t95=>
N [(nth l 0),(nth l 1),(nth l 2),t95] H10) (
Qx 2 [(nth l 0),(nth l 1)] H)
theorem zdi:LpI P 97 zVd 20 zgg:=.mk (by kernel_rfl) fun l H N Qx Qr=>by kernel_rfl
def zpi(t0 t1:Value)(H:Heap)(K:VH):Prop:=
zNb (zBa t0) H fun t2 H1=>
zNb (zc P 164) H1 fun t4 H3=>
wCall P zre [t1] H3 fun t15 H5=>
wCall P zXg [] H5 fun t16 H7=>
zNb (zc P 208) H7 fun t5 H9=>
opW (zla 64 t5 t15 H9) fun u H11=>
opW (zma 8 t2 H11) fun t17 H13=>
zNb (zc P 164) H13 fun t7 H15=>
opW (zla 8 t7 t17 H15) fun u_1 H17=>
ztb P true 97 zUd 148 [t2,t4,t5,t16,t7,(.int .i64 0)] H17 (fun id l H19=>
cond (Nat.beq id 0) (
ztb P true 97 zVd 20 [(nth l 0),(nth l 1),(nth l 2),(.int .i64 0)] H19 (fun id l_1 H21=>
cond (Nat.beq id 2) (
opW (zma 8 (nth l_1 0) H21) fun t96 H23=>
opW (zla 8 (nth l_1 1) t96 H23) fun u_2 H25=>
opW (zma 8 (nth l_1 1) H25) fun r _=>
K r H25) (
False)) (fun l_1 H21=>
opW (zma 8 (nth l_1 1) H21) fun r_1 _=>
K r_1 H21)) (
False)) (fun l H19=>
opW (zma 8 (nth l 1) H19) fun r_2 _=>
K r_2 H19)
theorem zQk{t0 t1:Value}{H:Heap}{K:VH}(h:zpi t0 t1 H K):wCall P zrc [t0,t1] H K:=zea rfl (Eq.mpr (by kernel_rfl) h)
def bytes_Equal(t0 t1:Value)(H:Heap)(K:VH):Prop:=
opW (zfb t0 H) fun t6 H1=>
opW (zfb t1 H1) fun t8 H3=>
opP ((zna P .eql 9 false).f t6 t8) fun t9=>
K t9 H3
theorem zdq{t0 t1:Value}{H:Heap}{K:VH}(h:bytes_Equal t0 t1 H K):wCall P zVh [t0,t1] H K:=zea rfl (Eq.mpr (by kernel_rfl) h)
def zJd(t0:Value)(H:Heap)(K:VH):Prop:=
zNb (zBa t0) H fun t1 H1=>
K (.func (.func zab) [].toArray [t1].toArray) H1
theorem zKf{t0:Value}{H:Heap}{K:VH}(h:zJd t0 H K):wCall P zqd [t0] H K:=zea rfl (Eq.mpr (by kernel_rfl) h)
def zqi(t0 t1:Value)(H:Heap)(K:VH):Prop:=
opW (zBe H (zQD [t1,(.int .i64 0)])) fun t7 H1=>
zec (fun J=>
opP (zha t0) fun t9=>
opP (zfa 1 t9) fun t10=>
opW (zca t10 H1) fun t11 H6=>
opP ((zna P .neq 67 true).f t11 (.int .i64 0)) fun t12=>
wIf t12 (
opP (zga t12 (.bool true) undef) fun t21=>
J [t0,t7,t21] H6) (
opP (zha t0) fun t16=>
opP (zfa 0 t16) fun t17=>
opW (zca t17 H6) fun t18 H12=>
opW (lenSl t18 H12) fun t19 H14=>
opP ((zna P .gtr 3 false).f t7 t19) fun t20=>
opP (zga t12 (.bool true) t20) fun t21_1=>
J [t0,t7,t21_1] H14)) (fun l H18=>
wIf (nth l 2) (
wCall P zcd [(nth l 0),(.int .i64 51)] H18 fun t23 H20=>
K (.slice none 0 0) H20) (
opP (zha (nth l 0)) fun t25=>
opP (zfa 0 t25) fun t26=>
opW (zca t26 H18) fun t27 H24=>
opP (zVa 1 t27 none (some (nth l 1)) none) fun t29=>
opP (zha (nth l 0)) fun t32=>
opP (zfa 0 t32) fun t33=>
opW (zca t33 H24) fun t34 H29=>
opP (zVa 1 t34 (some (nth l 1)) none none) fun t36=>
opP (zha (nth l 0)) fun t37=>
opP (zfa 0 t37) fun t38=>
opW (zla 1 t38 t36 H29) fun u H34=>
K t29 H34))
theorem zRk{t0 t1:Value}{H:Heap}{K:VH}(h:zqi t0 t1 H K):wCall P zVb [t0,t1] H K:=zea rfl (Eq.mpr (by kernel_rfl) h)
def zgp(t0:Value)(H:Heap)(K:VH):Prop:=
opW (zBe H (zSB [t0,(.int .i64 8)])) fun t4 H1=>
opW (zBe H1 (zQD [(.int .i64 0),t4])) fun t5 H3=>
K t5 H3
theorem zeq{t0:Value}{H:Heap}{K:VH}(h:zgp t0 H K):wCall P zWh [t0] H K:=zea rfl (Eq.mpr (by kernel_rfl) h)
def zri(t0 t1:Value)(H:Heap)(K:VH):Prop:=
opP (zha t0) fun t5=>
opP (zfa 1 t5) fun t6=>
opW (zca t6 H) fun t7 H3=>
opP ((zna P .eql 67 true).f t7 (.int .i64 0)) fun t8=>
wIf t8 (
opP (zha t0) fun t11=>
opP (zfa 1 t11) fun t12=>
opW (zla 1 t12 t1 H3) fun u H8=>
opP (zha t0) fun t14=>
opP (zfa 0 t14) fun t15=>
opW (zla 1 t15 (.slice none 0 0) H8) fun u_1 H12=>
K (.tuple [].toArray) H12) (
opP (zha t0) fun t14_1=>
opP (zfa 0 t14_1) fun t15_1=>
opW (zla 1 t15_1 (.slice none 0 0) H3) fun u_2 H16=>
K (.tuple [].toArray) H16)
theorem zSk{t0 t1:Value}{H:Heap}{K:VH}(h:zri t0 t1 H K):wCall P zcd [t0,t1] H K:=zea rfl (Eq.mpr (by kernel_rfl) h)
def znj(t0 t1:Value)(H:Heap)(K:VH):Prop:=
wCall P zVb [t0,t1] H fun t7 H1=>
wCall P zUb [t7] H1 fun t8 H3=>
K t8 H3
theorem zHl{t0 t1:Value}{H:Heap}{K:VH}(h:znj t0 t1 H K):wCall P zXe [t0,t1] H K:=zea rfl (Eq.mpr (by kernel_rfl) h)
noncomputable abbrev zsi:Code:=zEb P zre 0
def zti(l:List Value)(H:Heap)(N:LN)(Qx:LX)(Qr:LN):Prop:=
opP ((zna P .lss 3 true).f (nth l 3) (.int .i64 64)) fun t8=>
wIf t8 (
opP ((zna P .lss 3 true).f (nth l 3) (.int .i64 16)) fun t11=>
wIf t11 (
opP ((zna P .mul 3 true).f (.int .i64 4) (nth l 3)) fun t15=>
opP (zYc 1 (nth l 0) t15) fun t16=>
opW (zca t16 H) fun t17 H5=>
opW (zbc .u32 t17 H5) fun t18 H7=>
opP ((zna P .shl 162 true).f t18 (.int .u64 24)) fun t19=>
opP ((zna P .mul 3 true).f (.int .i64 4) (nth l 3)) fun t22=>
opP ((zna P .add 3 true).f t22 (.int .i64 1)) fun t23=>
opP (zYc 1 (nth l 0) t23) fun t24=>
opW (zca t24 H7) fun t25 H13=>
opW (zbc .u32 t25 H13) fun t26 H15=>
opP ((zna P .shl 162 true).f t26 (.int .u64 16)) fun t27=>
opP ((zna P .or 162 false).f t19 t27) fun t28=>
opP ((zna P .mul 3 true).f (.int .i64 4) (nth l 3)) fun t31=>
opP ((zna P .add 3 true).f t31 (.int .i64 2)) fun t32=>
opP (zYc 1 (nth l 0) t32) fun t33=>
opW (zca t33 H15) fun t34 H22=>
opW (zbc .u32 t34 H22) fun t35 H24=>
opP ((zna P .shl 162 true).f t35 (.int .u64 8)) fun t36=>
opP ((zna P .or 162 false).f t28 t36) fun t37=>
opP ((zna P .mul 3 true).f (.int .i64 4) (nth l 3)) fun t40=>
opP ((zna P .add 3 true).f t40 (.int .i64 3)) fun t41=>
opP (zYc 1 (nth l 0) t41) fun t42=>
opW (zca t42 H24) fun t43 H31=>
opW (zbc .u32 t43 H31) fun t44 H33=>
opP ((zna P .or 162 false).f t37 t44) fun t45=>
opP (zKa 64 1 (nth l 2) (nth l 3)) fun t46=>
opW (zla 1 t46 t45 H33) fun u H37=>
opP ((zna P .add 3 true).f (nth l 3) (.int .i64 1)) fun t80=>
N [(nth l 0),(nth l 1),(nth l 2),t80] H37) (
opP ((zna P .sub 3 true).f (nth l 3) (.int .i64 15)) fun t48=>
opP (zKa 64 1 (nth l 2) t48) fun t49=>
opW (zca t49 H) fun t50 H42=>
opP ((zna P .sub 3 true).f (nth l 3) (.int .i64 2)) fun t52=>
opP (zKa 64 1 (nth l 2) t52) fun t53=>
opW (zca t53 H42) fun t54 H46=>
opP ((zna P .sub 3 true).f (nth l 3) (.int .i64 16)) fun t57=>
opP (zKa 64 1 (nth l 2) t57) fun t58=>
opW (zca t58 H46) fun t59 H50=>
opW ((zia P 234 2).f [(0,(.int .i64 7)),(1,(.int .i64 18))] H50) fun t61 H52=>
wCall P zNc [t50,t61] H52 fun t62 H54=>
zmb (zkb H52 H54) (zJa [t58])∧(opP ((zna P .shr 162 true).f t50 (.int .u64 3)) fun t64=>
opP ((zna P .xor 162 false).f t62 t64) fun t65=>
opP ((zna P .add 162 false).f t59 t65) fun t66=>
opP ((zna P .sub 3 true).f (nth l 3) (.int .i64 7)) fun t68=>
opP (zKa 64 1 (nth l 2) t68) fun t69=>
opW (zca t69 H54) fun t70 H61=>
zmb (zkb H52 H54) (zJa [t69])∧(zsq (zJa [t69]) H50.next H52.next∧(opP ((zna P .add 162 false).f t66 t70) fun t71=>
opW ((zia P 234 2).f [(0,(.int .i64 17)),(1,(.int .i64 19))] H61) fun t73 H64=>
wCall P zNc [t54,t73] H64 fun t74 H66=>
zmb (zkb H64 H66) (zJa [t69])∧(zmb (zkb H64 H66) (zJa [t58])∧(opP ((zna P .shr 162 true).f t54 (.int .u64 10)) fun t76=>
opP ((zna P .xor 162 false).f t74 t76) fun t77=>
opP ((zna P .add 162 false).f t71 t77) fun t78=>
opP (zKa 64 1 (nth l 2) (nth l 3)) fun t79=>
opW (zla 1 t79 t78 H66) fun u_1 H72=>
opP ((zna P .add 3 true).f (nth l 3) (.int .i64 1)) fun t80_1=>
N [(nth l 0),(nth l 1),(nth l 2),t80_1] H72))))))) (
Qx 0 [(nth l 1),(nth l 2)] H)
theorem zck:LpI P 82 zsi 12 zti:=.mk (by kernel_rfl) fun l H N Qx Qr=>by kernel_rfl
def zIl(t0:Value)(H:Heap)(K:VH):Prop:=
zNb (zc P 208) H fun t2 H1=>
zNb (zc P 208) H1 fun t3 H3=>
ztb P true 82 zsi 12 [t0,t2,t3,(.int .i64 0)] H3 (fun id l H5=>
cond (Nat.beq id 0) (
opW (zma 64 (nth l 1) H5) fun t81 H7=>
opW (zla 64 (nth l 0) t81 H7) fun u H9=>
opW (zma 64 (nth l 0) H9) fun r _=>
K r H9) (
False)) (fun l H5=>
opW (zma 64 (nth l 0) H5) fun r_1 _=>
K r_1 H5)
theorem zHn{t0:Value}{H:Heap}{K:VH}(h:zIl t0 H K):wCall P zre [t0] H K:=zea rfl (Eq.mpr (by kernel_rfl) h)
def zon(H:Heap)(K:VH):Prop:=
opP ((zDa P 208).f [(0,(.int .u32 1116352408)),(1,(.int .u32 1899447441)),(2,(.int .u32 3049323471)),(3,(.int .u32 3921009573)),(4,(.int .u32 961987163)),(5,(.int .u32 1508970993)),(6,(.int .u32 2453635748)),(7,(.int .u32 2870763221)),(8,(.int .u32 3624381080)),(9,(.int .u32 310598401)),(10,(.int .u32 607225278)),(11,(.int .u32 1426881987)),(12,(.int .u32 1925078388)),(13,(.int .u32 2162078206)),(14,(.int .u32 2614888103)),(15,(.int .u32 3248222580)),(16,(.int .u32 3835390401)),(17,(.int .u32 4022224774)),(18,(.int .u32 264347078)),(19,(.int .u32 604807628)),(20,(.int .u32 770255983)),(21,(.int .u32 1249150122)),(22,(.int .u32 1555081692)),(23,(.int .u32 1996064986)),(24,(.int .u32 2554220882)),(25,(.int .u32 2821834349)),(26,(.int .u32 2952996808)),(27,(.int .u32 3210313671)),(28,(.int .u32 3336571891)),(29,(.int .u32 3584528711)),(30,(.int .u32 113926993)),(31,(.int .u32 338241895)),(32,(.int .u32 666307205)),(33,(.int .u32 773529912)),(34,(.int .u32 1294757372)),(35,(.int .u32 1396182291)),(36,(.int .u32 1695183700)),(37,(.int .u32 1986661051)),(38,(.int .u32 2177026350)),(39,(.int .u32 2456956037)),(40,(.int .u32 2730485921)),(41,(.int .u32 2820302411)),(42,(.int .u32 3259730800)),(43,(.int .u32 3345764771)),(44,(.int .u32 3516065817)),(45,(.int .u32 3600352804)),(46,(.int .u32 4094571909)),(47,(.int .u32 275423344)),(48,(.int .u32 430227734)),(49,(.int .u32 506948616)),(50,(.int .u32 659060556)),(51,(.int .u32 883997877)),(52,(.int .u32 958139571)),(53,(.int .u32 1322822218)),(54,(.int .u32 1537002063)),(55,(.int .u32 1747873779)),(56,(.int .u32 1955562222)),(57,(.int .u32 2024104815)),(58,(.int .u32 2227730452)),(59,(.int .u32 2361852424)),(60,(.int .u32 2428436474)),(61,(.int .u32 2756734187)),(62,(.int .u32 3204031479)),(63,(.int .u32 3329325298))]) fun t1=>
zNb (zBa t1) H fun t2 H2=>
K t2 H2
theorem zhp{H:Heap}{K:VH}(h:zon  H K):wCall P zXg [] H K:=zea rfl (Eq.mpr (by kernel_rfl) h)
noncomputable abbrev zxk:Code:=zEb P zNc 0
def zyk(l:List Value)(H:Heap)(N:LN)(Qx:LX)(Qr:LN):Prop:=
opP ((zna P .lss 3 false).f (nth l 5) (nth l 4)) fun t11=>
wIf t11 (
opP (zYc 1 (nth l 3) (nth l 5)) fun t12=>
opW (zca t12 H) fun t13 H3=>
opP (unA .neg t13) fun t17=>
wCall P zDc [(nth l 0),t17] H3 fun t18 H6=>
opP ((zna P .xor 162 false).f (nth l 2) t18) fun t19=>
opP ((zna P .add 3 true).f (nth l 5) (.int .i64 1)) fun t20=>
N [(nth l 0),(nth l 1),t19,(nth l 3),(nth l 4),t20] H6) (
Qx 0 [(nth l 1),(nth l 2)] H)
theorem zJl:LpI P 22 zxk 48 zyk:=.mk (by kernel_rfl) fun l H N Qx Qr=>by kernel_rfl
def zjp(t0 t1:Value)(H:Heap)(K:VH):Prop:=
opW (lenSl t1 H) fun t9 H1=>
ztb P true 22 zxk 48 [t0,(.int .u32 0),(.int .u32 0),t1,t9,(.int .i64 0)] H1 (fun id l H3=>
cond (Nat.beq id 0) (
K (nth l 1) H3) (
False)) (fun l H3=>
K (nth l 0) H3)
theorem zfq{t0 t1:Value}{H:Heap}{K:VH}(h:zjp t0 t1 H K):wCall P zNc [t0,t1] H K:=zea rfl (Eq.mpr (by kernel_rfl) h)
noncomputable abbrev zHc:Code:=zEb P zab 0
def zIc(l:List Value)(H:Heap)(N:LN)(Qx:LX)(Qr:LN):Prop:=
opP ((zna P .geq 3 true).f (nth l 2) (.int .i64 0)) fun t8=>
wIf t8 (
opW (zca (nth l 1) H) fun t13 H2=>
opP (zYc 1 t13 (nth l 2)) fun t15=>
opW (zca t15 H2) fun t16 H5=>
zyG P (zGh (nth l 0) [(nth l 2),t16]) H5 fun t17 H7=>
opP (unA .not t17) fun t18=>
wIf t18 (
Qr [] H7) (
opP ((zna P .sub 3 true).f (nth l 2) (.int .i64 1)) fun t10=>
N [(nth l 0),(nth l 1),t10] H7)) (
Qx 0 [] H)
theorem zee:LpI P 19 zHc 0 zIc:=.mk (by kernel_rfl) fun l H N Qx Qr=>by kernel_rfl
def zrd(t0 t1:Value)(H:Heap)(K:VH):Prop:=
opW (zca t1 H) fun t4 H1=>
opW (lenSl t4 H1) fun t5 H3=>
opP ((zna P .sub 3 true).f t5 (.int .i64 1)) fun t6=>
ztb P true 19 zHc 0 [t0,t1,t6] H3 (fun id l H6=>
cond (Nat.beq id 0) (
K (.tuple [].toArray) H6) (
False)) (fun l H6=>
K (.tuple [].toArray) H6)
theorem zif{t0 t1:Value}{H:Heap}{K:VH}(h:zrd t0 t1 H K):wCall P zab [t0,t1] H K:=zea rfl (Eq.mpr (by kernel_rfl) h)
def zKe(t0 t1:Value)(H:Heap)(K:VH):Prop:=
opW (zbc .u64 t1 H) fun t7 H1=>
opP ((zna P .and 119 true).f t7 (.int .u64 31)) fun t8=>
opP ((zna P .shl 162 false).f t0 t8) fun t11=>
opP ((zna P .sub 119 true).f (.int .u64 32) t8) fun t14=>
opP ((zna P .shr 162 false).f t0 t14) fun t15=>
opP ((zna P .or 162 false).f t11 t15) fun t16=>
K t16 H1
theorem zbh{t0 t1:Value}{H:Heap}{K:VH}(h:zKe t0 t1 H K):wCall P zDc [t0,t1] H K:=zea rfl (Eq.mpr (by kernel_rfl) h)
end
end J
