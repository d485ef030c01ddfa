/- texts of the proof, one behind the other -/
import Derived.KernelRfl
import Derived.Test.YtheklmekepeblaaGreatDoorUA
set_option linter.unusedSimpArgs false
set_option linter.unusedSectionVars false
set_option linter.unusedVariables false
set_option maxRecDepth 100000
namespace J
open Go Go.Ab
noncomputable abbrev P:Program:=Go.Proofs.Tryz.prog
noncomputable section
abbrev zTe:Nat:=6
abbrev zle:Nat:=7
abbrev zFf:Nat:=8
abbrev zac:Nat:=9
abbrev zlb:Nat:=10
abbrev zVf:Nat:=11
abbrev zbb:Nat:=12
abbrev zib:Nat:=13
abbrev zPa:Nat:=14
abbrev zcc:Nat:=15
abbrev zuc:Nat:=16
abbrev zPi:Nat:=17
abbrev zSh:Nat:=18
abbrev zmb:Nat:=19
abbrev zCg:Nat:=20
abbrev zQi:Nat:=21
abbrev zHa:Nat:=22
abbrev zGb:Nat:=23
abbrev zgc:Nat:=24
abbrev zxb:Nat:=25
abbrev zPk:Nat:=26
abbrev zTh:Nat:=27
abbrev zRi:Nat:=28
abbrev zDg:Nat:=29
abbrev zxd:Nat:=30
abbrev zUd:Nat:=31
abbrev zgb:Nat:=32
abbrev zWb:Nat:=33
abbrev zlc:Nat:=34
abbrev zEb:Nat:=35
abbrev zMc:Nat:=36
abbrev zhb:Nat:=37
abbrev zmc:Nat:=38
abbrev zzc:Nat:=39
abbrev zAc:Nat:=40
abbrev zvc:Nat:=41
abbrev zLb:Nat:=42
abbrev zNc:Nat:=43
abbrev zme:Nat:=44
abbrev zcf:Nat:=45
abbrev zrc:Nat:=46
abbrev zff:Nat:=47
abbrev zUh:Nat:=48
abbrev zUg:Nat:=49
abbrev zub:Nat:=50
abbrev zGf:Nat:=51
abbrev zhc:Nat:=52
abbrev zPd:Nat:=53
abbrev zkb:Nat:=54
abbrev zne:Nat:=55
abbrev zec:Nat:=56
abbrev zSi:Nat:=57
abbrev zTi:Nat:=58
abbrev zgf:Nat:=59
abbrev zzd:Nat:=60
abbrev zOa:Nat:=61
abbrev znc:Nat:=62
abbrev zQk:Nat:=63
abbrev zUi:Nat:=64
abbrev zRk:Nat:=65
abbrev zQd:Nat:=66
abbrev zhf:Nat:=67
abbrev zVi:Nat:=68
abbrev zVh:Nat:=69
abbrev zEg:Nat:=70
abbrev zoe:Nat:=71
abbrev zSk:Nat:=72
abbrev zmh:Nat:=73
abbrev zWi:Nat:=74
abbrev zdb:Nat:=75
abbrev zWh:Nat:=76
abbrev zXh:Nat:=77
abbrev zxl:Nat:=78
abbrev zMd:Nat:=79
abbrev zoc:Nat:=80
abbrev zXi:Nat:=81
abbrev zif:Nat:=82
abbrev zWf:Nat:=83
abbrev znd:Nat:=84
abbrev zIa:Nat:=85
abbrev zFg:Nat:=86
abbrev znh:Nat:=87
abbrev zYh:Nat:=88
abbrev zVg:Nat:=90
abbrev zHf:Nat:=91
abbrev zAd:Nat:=92
abbrev zUe:Nat:=93
abbrev zMj:Nat:=94
abbrev znb:Nat:=95
abbrev zjf:Nat:=96
abbrev zpe:Nat:=97
abbrev zqe:Nat:=98
abbrev zNd:Nat:=99
abbrev zVe:Nat:=100
abbrev zYi:Nat:=101
abbrev zGg:Nat:=102
abbrev zWg:Nat:=103
abbrev zsc:Nat:=104
abbrev zXg:Nat:=107
abbrev zic:Nat:=108
abbrev zkf:Nat:=109
abbrev zZh:Nat:=110
abbrev zod:Nat:=111
abbrev zXb:Nat:=112
abbrev zai:Nat:=113
abbrev zgd:Nat:=114
abbrev zWe:Nat:=115
abbrev zre:Nat:=121
abbrev zYg:Nat:=122
abbrev zOc:Nat:=123
abbrev zXe:Nat:=128
abbrev zfb:Nat:=129
abbrev zFc:Nat:=133
instance:Orc:=Seal.orcS2
instance (priority:=1) noBase:Base:=⟨fun _=>none,0⟩
theorem zdE{s:ByteArray}(hs:s.size < 4611686018427387904)(H:Heap):Orc.tab 101 [Value.string s] H=some (.int .i64 (Seal.nmF s s.size 0 0)):=by
 show cond (Nat.blt s.size 4611686018427387904) (some (Value.int .i64 (Seal.nmF s s.size 0 0))) none=_
 rw[show Nat.blt s.size 4611686018427387904=true from by rw[blt_eq]; exact decide_eq_true hs]
 rfl
theorem zZi{P:Program}{me:zTj}{f:FuncId}{args:List Value}{H:Heap}{v:Value}(h:Orc.tab f args H=some v):zBy P me (.call f args H)=some ⟨.ret,[v],H⟩:=by
 unfold zBy
 simp only[h]
theorem zmp{H:Heap}{K:VH}{s:ByteArray}(hs:s.size < 4611686018427387904)(hk:K (.int .i64 (Seal.nmF s s.size 0 0)) H):wCall P zYi [.string s] H K:=
 ⟨1,.ret,_,H,zZi (zdE hs H),hk⟩
theorem zMy{r:Int}(h1:-2147483648≤r)(h2:r≤2147483647)(H:Heap):Orc.tab 86 [Value.int .i32 r] H=some (.bool (Go.Lib.isLetterU r)):=by
 show cond (decide (-2147483648≤r) && decide (r≤2147483647)) (some (Value.bool (Go.Lib.isLetterU r))) none=_
 rw[decide_eq_true h1,decide_eq_true h2]; rfl
theorem zxB{r:Int}(h1:-2147483648≤r)(h2:r≤2147483647)(H:Heap):Orc.tab 87 [Value.int .i32 r] H=some (.bool (Go.Lib.isDigitU r)):=by
 show cond (decide (-2147483648≤r) && decide (r≤2147483647)) (some (Value.bool (Go.Lib.isDigitU r))) none=_
 rw[decide_eq_true h1,decide_eq_true h2]; rfl
theorem zpw{H:Heap}{K:VH}{r:Int}(h1:-2147483648≤r)(h2:r≤2147483647)(hk:K (.bool (Go.Lib.isLetterU r)) H):wCall P zFg [.int .i32 r] H K:=
 ⟨1,.ret,_,H,zZi (zMy h1 h2 H),hk⟩
theorem zNy{H:Heap}{K:VH}{r:Int}(h1:-2147483648≤r)(h2:r≤2147483647)(hk:K (.bool (Go.Lib.isDigitU r)) H):wCall P znh [.int .i32 r] H K:=
 ⟨1,.ret,_,H,zZi (zxB h1 h2 H),hk⟩
theorem zeE{s:ByteArray}(hs:s.size≤35184372088832)(H:Heap):Orc.tab 102 [Value.string s] H=some (.string (Seal.foldF s)):=by
 show cond (Nat.ble s.size 35184372088832) (some (Value.string (Seal.foldF s))) none=_
 rw[Nat.ble_eq_true_of_le hs]
 rfl
theorem znp{H:Heap}{K:VH}{s:ByteArray}(hs:s.size≤35184372088832)(hk:K (.string (Seal.foldF s)) H):wCall P zGg [.string s] H K:=
 ⟨1,.ret,_,H,zZi (zeE hs H),hk⟩
theorem zvG(r:Int)(H:Heap):Orc.tab 73 [Value.int .i32 r] H=some (.int .i32 (Go.Lib.toLowerU r)):=rfl
theorem zOy{H:Heap}{K:VH}{r:Int}(hk:K (.int .i32 (Go.Lib.toLowerU r)) H):wCall P zmh [.int .i32 r] H K:=
 ⟨1,.ret,.int .i32 (Go.Lib.toLowerU r),H,zZi (P:=P) (me:=zOf P 0) (zvG r H),hk⟩
noncomputable abbrev zHg:Code:=zMb P zTe 0
def zhd(l:List Value)(H:Heap)(N:LN)(Qx:LX)(Qr:LN):Prop:=
opP ((zpa P .lss 3 false).f (nth l 8) (nth l 7)) fun t65=>
wIf t65 (
opP (zQc 3 (nth l 6) (nth l 8)) fun t66=>
opW (zka 3 t66 H) fun t67 H3=>
zCb (zc P 45) H3 fun t11 H5=>
opW (zha 3 t11 t67 H5) fun u H7=>
zIb (fun J=>
opP (zfa 0 t11) fun t68=>
opW (zda t68 H7) fun t69 H11=>
opP ((zpa P .eql 3 true).f t69 (.int .i64 1)) fun t76=>
wIf t76 (
opP (zfa 1 t11) fun t78=>
opW (zka 2 t78 H11) fun t79 H15=>
wCall P zbb [(nth l 1),t79] H15 fun t80 H17=>
wIf t80 (
opP (zea (nth l 5)) fun t83=>
opP (zfa 4 t83) fun t84=>
opW (zda t84 H17) fun t85 H21=>
opP (zfa 1 t11) fun t86=>
opW (zka 2 t86 H21) fun t87 H24=>
opW ((zla P 78 1).f [(0,t87)] H24) fun t88 H26=>
opW (zsa 2 32 t85 t88 H26) fun t89 H28=>
opP (zea (nth l 5)) fun t90=>
opP (zfa 4 t90) fun t91=>
opW (zha 1 t91 t89 H28) fun u_1 H32=>
J [(nth l 0),(nth l 1),(nth l 2),(nth l 3),(nth l 4),(nth l 5),(nth l 6),(nth l 7),(nth l 8)] H32) (
J [(nth l 0),(nth l 1),(nth l 2),(nth l 3),(nth l 4),(nth l 5),(nth l 6),(nth l 7),(nth l 8)] H17)) (
zIb (fun J_1=>
opP ((zpa P .eql 3 true).f t69 (.int .i64 2)) fun t93=>
wIf t93 (
J_1 [(nth l 0),(nth l 1),(nth l 2),(nth l 3),(nth l 4),(nth l 5),t11,(nth l 6),(nth l 7),(nth l 8),t93] H11) (
opP ((zpa P .eql 3 true).f t69 (.int .i64 3)) fun t94=>
J_1 [(nth l 0),(nth l 1),(nth l 2),(nth l 3),(nth l 4),(nth l 5),t11,(nth l 6),(nth l 7),(nth l 8),t94] H11)) (fun l_1 H37=>
wIf (nth l_1 10) (
opP (zea (nth l_1 5)) fun t97=>
opP (zfa 5 t97) fun t98=>
opW (zda t98 H37) fun t99 H41=>
zIb (fun J_2=>
opP (zfa 0 (nth l_1 6)) fun t100=>
opW (zda t100 H41) fun t101 H45=>
opP ((zpa P .eql 3 true).f t101 (.int .i64 3)) fun t102=>
wIf t102 (
opP (zea (nth l_1 5)) fun t105=>
opP (zfa 6 t105) fun t106=>
opW (zda t106 H45) fun t107 H50=>
J_2 [(nth l_1 0),(nth l_1 1),(nth l_1 2),(nth l_1 3),(nth l_1 4),(nth l_1 5),(nth l_1 6),(nth l_1 3),t107,(nth l_1 7),(nth l_1 8),(nth l_1 9)] H50) (
J_2 [(nth l_1 0),(nth l_1 1),(nth l_1 2),(nth l_1 3),(nth l_1 4),(nth l_1 5),(nth l_1 6),(nth l_1 2),t99,(nth l_1 7),(nth l_1 8),(nth l_1 9)] H45)) (fun l_2 H52=>
wCall P zcc [(nth l_2 7)] H52 fun t110 H54=>
opP (zee 0 t110) fun t111=>
opP (zee 1 t110) fun t112=>
zCb (zc P 54) H54 fun t14 H58=>
opW (zha 41 t14 t111 H58) fun u_2 H60=>
zIb (fun J_3=>
opW (lenSl (nth l_2 8) H60) fun t115 H63=>
opP ((zpa P .gtr 3 true).f t115 (.int .i64 0)) fun t116=>
opP ((zpa P .neq 4 false).f t112 t116) fun t117=>
wIf t117 (
opP (zna t117 (.bool true) undef) fun t128=>
wIf t128 (
Qr [(.bool false)] H63) (
J_3 [(nth l_2 0),(nth l_2 1),(nth l_2 2),(nth l_2 3),(nth l_2 4),(nth l_2 5),(nth l_2 6),(nth l_2 8),t112,(nth l_2 9),(nth l_2 10),(nth l_2 11)] H63)) (
wIf t112 (
opW (zka 41 t14 H63) fun t121 H68=>
opP (zQc 41 (nth l_2 8) (.int .i64 0)) fun t123=>
opW (zka 41 t123 H68) fun t124 H71=>
wCall P zRi [t121,t124] H71 fun t125 H73=>
opP (unA .not t125) fun t126=>
opP (zna t112 t126 (.bool false)) fun t127=>
opP (zna t117 (.bool true) t127) fun t128_1=>
wIf t128_1 (
Qr [(.bool false)] H73) (
J_3 [(nth l_2 0),(nth l_2 1),(nth l_2 2),(nth l_2 3),(nth l_2 4),(nth l_2 5),(nth l_2 6),(nth l_2 8),t112,(nth l_2 9),(nth l_2 10),(nth l_2 11)] H73)) (
opP (zna t112 undef (.bool false)) fun t127_1=>
opP (zna t117 (.bool true) t127_1) fun t128_2=>
wIf t128_2 (
Qr [(.bool false)] H63) (
J_3 [(nth l_2 0),(nth l_2 1),(nth l_2 2),(nth l_2 3),(nth l_2 4),(nth l_2 5),(nth l_2 6),(nth l_2 8),t112,(nth l_2 9),(nth l_2 10),(nth l_2 11)] H63)))) (fun l_3 H80=>
zIb (fun J_4=>
wIf (nth l_3 8) (
opP (zfa 0 (nth l_3 6)) fun t131=>
opW (zda t131 H80) fun t132 H84=>
opP ((zpa P .eql 3 true).f t132 (.int .i64 2)) fun t133=>
opP (zna (nth l_3 8) t133 (.bool false)) fun t134=>
J_4 [(nth l_3 0),(nth l_3 1),(nth l_3 2),(nth l_3 3),(nth l_3 4),(nth l_3 5),(nth l_3 7),(nth l_3 8),(nth l_3 9),(nth l_3 10),(nth l_3 11),t134] H84) (
opP (zna (nth l_3 8) undef (.bool false)) fun t134_1=>
J_4 [(nth l_3 0),(nth l_3 1),(nth l_3 2),(nth l_3 3),(nth l_3 4),(nth l_3 5),(nth l_3 7),(nth l_3 8),(nth l_3 9),(nth l_3 10),(nth l_3 11),t134_1] H80)) (fun l_4 H89=>
wIf (nth l_4 11) (
opW ((zla P 42 0).f [] H89) fun t136 H91=>
opP (zTa 41 (nth l_4 6) (some (.int .i64 1)) none none) fun t138=>
opW (zsa 41 144 t136 t138 H91) fun t139 H94=>
opP (zea (nth l_4 5)) fun t140=>
opP (zfa 5 t140) fun t141=>
opW (zha 1 t141 t139 H94) fun u_3 H98=>
J [(nth l_4 0),(nth l_4 1),(nth l_4 2),(nth l_4 3),(nth l_4 4),(nth l_4 5),(nth l_4 8),(nth l_4 9),(nth l_4 10)] H98) (
wIf (nth l_4 7) (
opW ((zla P 42 0).f [] H89) fun t144 H100=>
opP (zTa 41 (nth l_4 6) (some (.int .i64 1)) none none) fun t146=>
opW (zsa 41 144 t144 t146 H100) fun t147 H103=>
opP (zea (nth l_4 5)) fun t148=>
opP (zfa 6 t148) fun t149=>
opW (zha 1 t149 t147 H103) fun u_4 H107=>
J [(nth l_4 0),(nth l_4 1),(nth l_4 2),(nth l_4 3),(nth l_4 4),(nth l_4 5),(nth l_4 8),(nth l_4 9),(nth l_4 10)] H107) (
J [(nth l_4 0),(nth l_4 1),(nth l_4 2),(nth l_4 3),(nth l_4 4),(nth l_4 5),(nth l_4 8),(nth l_4 9),(nth l_4 10)] H89)))))) (
wCall P zib [(nth l_1 4)] H37 fun t71 H109=>
wCall P zDg [(nth l_1 5)] H109 fun t73 H111=>
opP ((zpa P .neq 4 false).f t71 t73) fun t74=>
wIf t74 (
Qr [(.bool false)] H111) (
J [(nth l_1 0),(nth l_1 1),(nth l_1 2),(nth l_1 3),(nth l_1 4),(nth l_1 5),(nth l_1 7),(nth l_1 8),(nth l_1 9)] H111))))) (fun l_5 H114=>
wCall P zxb [(nth l_5 4)] H114 fun t152 H116=>
opP (zee 0 t152) fun t153=>
opP (zee 1 t152) fun t154=>
zCb (zc P 52) H116 fun t16 H120=>
opW (zha 37 t16 t153 H120) fun u_5 H122=>
wCall P zHa [(nth l_5 4)] H122 fun t156 H124=>
wCall P zxd [(nth l_5 5)] H124 fun t158 H126=>
opP ((zpa P .neq 3 false).f t156 t158) fun t159=>
wIf t159 (
opP (zna t159 (.bool true) undef) fun t167=>
opP (zna t167 (.bool true) undef) fun t179=>
opP (zna t179 (.bool true) undef) fun t188=>
opP (zna t188 (.bool true) undef) fun t197=>
opP (zna t197 (.bool true) undef) fun t207=>
opP (zna t207 (.bool true) undef) fun t217=>
opP (zna t217 (.bool true) undef) fun t227=>
wIf t227 (
Qr [(.bool false)] H126) (
opP ((zpa P .add 3 true).f (nth l_5 8) (.int .i64 1)) fun t228=>
N [(nth l_5 0),(nth l_5 1),(nth l_5 2),(nth l_5 3),(nth l_5 4),(nth l_5 5),(nth l_5 6),(nth l_5 7),t228] H126)) (
opP (zea (nth l_5 5)) fun t163=>
opP (zfa 9 t163) fun t164=>
opW (zda t164 H126) fun t165 H139=>
opP ((zpa P .neq 4 false).f t154 t165) fun t166=>
opP (zna t159 (.bool true) t166) fun t167_1=>
wIf t167_1 (
opP (zna t167_1 (.bool true) undef) fun t179_1=>
opP (zna t179_1 (.bool true) undef) fun t188_1=>
opP (zna t188_1 (.bool true) undef) fun t197_1=>
opP (zna t197_1 (.bool true) undef) fun t207_1=>
opP (zna t207_1 (.bool true) undef) fun t217_1=>
opP (zna t217_1 (.bool true) undef) fun t227_1=>
wIf t227_1 (
Qr [(.bool false)] H139) (
opP ((zpa P .add 3 true).f (nth l_5 8) (.int .i64 1)) fun t228_1=>
N [(nth l_5 0),(nth l_5 1),(nth l_5 2),(nth l_5 3),(nth l_5 4),(nth l_5 5),(nth l_5 6),(nth l_5 7),t228_1] H139)) (
opW (zka 37 t16 H139) fun t169 H150=>
opP (zea (nth l_5 5)) fun t171=>
opP (zfa 11 t171) fun t172=>
opW (zda t172 H150) fun t173 H154=>
opP (zea t173) fun t174=>
opP (zfa 0 t174) fun t175=>
opW (zka 37 t175 H154) fun t176 H158=>
wCall P zUd [t169,t176] H158 fun t177 H160=>
opP (unA .not t177) fun t178=>
opP (zna t167_1 (.bool true) t178) fun t179_2=>
wIf t179_2 (
opP (zna t179_2 (.bool true) undef) fun t188_2=>
opP (zna t188_2 (.bool true) undef) fun t197_2=>
opP (zna t197_2 (.bool true) undef) fun t207_2=>
opP (zna t207_2 (.bool true) undef) fun t217_2=>
opP (zna t217_2 (.bool true) undef) fun t227_2=>
wIf t227_2 (
Qr [(.bool false)] H160) (
opP ((zpa P .add 3 true).f (nth l_5 8) (.int .i64 1)) fun t228_2=>
N [(nth l_5 0),(nth l_5 1),(nth l_5 2),(nth l_5 3),(nth l_5 4),(nth l_5 5),(nth l_5 6),(nth l_5 7),t228_2] H160)) (
wCall P zGb [(nth l_5 4)] H160 fun t182 H170=>
opP (zea (nth l_5 5)) fun t184=>
opP (zfa 10 t184) fun t185=>
opW (zda t185 H170) fun t186 H174=>
zSa (zRa H160 H170) (zBa [t185])∧(opP ((zpa P .neq 4 false).f t182 t186) fun t187=>
opP (zna t179_2 (.bool true) t187) fun t188_3=>
wIf t188_3 (
opP (zna t188_3 (.bool true) undef) fun t197_3=>
opP (zna t197_3 (.bool true) undef) fun t207_3=>
opP (zna t207_3 (.bool true) undef) fun t217_3=>
opP (zna t217_3 (.bool true) undef) fun t227_3=>
wIf t227_3 (
Qr [(.bool false)] H174) (
opP ((zpa P .add 3 true).f (nth l_5 8) (.int .i64 1)) fun t228_3=>
N [(nth l_5 0),(nth l_5 1),(nth l_5 2),(nth l_5 3),(nth l_5 4),(nth l_5 5),(nth l_5 6),(nth l_5 7),t228_3] H174)) (
wCall P zgc [(nth l_5 4)] H174 fun t191 H183=>
opP (zea (nth l_5 5)) fun t193=>
opP (zfa 12 t193) fun t194=>
opW (zda t194 H183) fun t195 H187=>
zSa (zRa H174 H183) (zBa [t194])∧(opP ((zpa P .neq 3 false).f t191 t195) fun t196=>
opP (zna t188_3 (.bool true) t196) fun t197_4=>
wIf t197_4 (
opP (zna t197_4 (.bool true) undef) fun t207_4=>
opP (zna t207_4 (.bool true) undef) fun t217_4=>
opP (zna t217_4 (.bool true) undef) fun t227_4=>
wIf t227_4 (
Qr [(.bool false)] H187) (
opP ((zpa P .add 3 true).f (nth l_5 8) (.int .i64 1)) fun t228_4=>
N [(nth l_5 0),(nth l_5 1),(nth l_5 2),(nth l_5 3),(nth l_5 4),(nth l_5 5),(nth l_5 6),(nth l_5 7),t228_4] H187)) (
wCall P zgb [(nth l_5 1)] H187 fun t200 H195=>
opP (zea (nth l_5 5)) fun t202=>
opP (zfa 4 t202) fun t203=>
opW (zda t203 H195) fun t204 H199=>
zSa (zRa H187 H195) (zBa [t203])∧(opW (lenSl t204 H199) fun t205 H201=>
opP ((zpa P .neq 3 false).f t200 t205) fun t206=>
opP (zna t197_4 (.bool true) t206) fun t207_5=>
wIf t207_5 (
opP (zna t207_5 (.bool true) undef) fun t217_5=>
opP (zna t217_5 (.bool true) undef) fun t227_5=>
wIf t227_5 (
Qr [(.bool false)] H201) (
opP ((zpa P .add 3 true).f (nth l_5 8) (.int .i64 1)) fun t228_5=>
N [(nth l_5 0),(nth l_5 1),(nth l_5 2),(nth l_5 3),(nth l_5 4),(nth l_5 5),(nth l_5 6),(nth l_5 7),t228_5] H201)) (
wCall P zPa [(nth l_5 2)] H201 fun t210 H208=>
opP (zea (nth l_5 5)) fun t212=>
opP (zfa 5 t212) fun t213=>
opW (zda t213 H208) fun t214 H212=>
zSa (zRa H201 H208) (zBa [t213])∧(opW (lenSl t214 H212) fun t215 H214=>
opP ((zpa P .neq 3 false).f t210 t215) fun t216=>
opP (zna t207_5 (.bool true) t216) fun t217_6=>
wIf t217_6 (
opP (zna t217_6 (.bool true) undef) fun t227_6=>
wIf t227_6 (
Qr [(.bool false)] H214) (
opP ((zpa P .add 3 true).f (nth l_5 8) (.int .i64 1)) fun t228_6=>
N [(nth l_5 0),(nth l_5 1),(nth l_5 2),(nth l_5 3),(nth l_5 4),(nth l_5 5),(nth l_5 6),(nth l_5 7),t228_6] H214)) (
wCall P zPa [(nth l_5 3)] H214 fun t220 H220=>
opP (zea (nth l_5 5)) fun t222=>
opP (zfa 6 t222) fun t223=>
opW (zda t223 H220) fun t224 H224=>
zSa (zRa H214 H220) (zBa [t223])∧(opW (lenSl t224 H224) fun t225 H226=>
opP ((zpa P .neq 3 false).f t220 t225) fun t226=>
opP (zna t217_6 (.bool true) t226) fun t227_7=>
wIf t227_7 (
Qr [(.bool false)] H226) (
opP ((zpa P .add 3 true).f (nth l_5 8) (.int .i64 1)) fun t228_7=>
N [(nth l_5 0),(nth l_5 1),(nth l_5 2),(nth l_5 3),(nth l_5 4),(nth l_5 5),(nth l_5 6),(nth l_5 7),t228_7] H226))))))))))))))) (
Qx 0 [(nth l 0)] H)
theorem zzi:LpI P 229 zHg 16 zhd:=.mk (by kernel_rfl) fun l H N Qx Qr=>by kernel_rfl
def zaj(t0 t1:Value)(H:Heap)(K:VH):Prop:=
zCb (zza t0) H fun t2 H1=>
wCall P zle [] H1 fun t18 H3=>
opP (unA .not t18) fun t19=>
wIf t19 (
K (.bool false) H3) (
opW (zka 7 t2 H3) fun t20 H6=>
wCall P zFf [t20,t1] H6 fun t22 H8=>
wIf t22 (
K (.bool true) H8) (
opP (zfa 4 t2) fun t23=>
opP (zEa 3 1 t23 (.int .i64 0)) fun t24=>
opW (zda t24 H8) fun t25 H12=>
wCall P zac [t25] H12 fun t26 H14=>
opP (zfa 4 t2) fun t27=>
opP (zEa 3 1 t27 (.int .i64 1)) fun t28=>
opW (zda t28 H14) fun t29 H18=>
zSa (zRa H12 H14) (zBa [t28])∧(wCall P zlb [t29] H18 fun t30 H20=>
opP (zfa 4 t2) fun t31=>
opP (zEa 3 1 t31 (.int .i64 2)) fun t32=>
opW (zda t32 H20) fun t33 H24=>
zSa (zRa H18 H20) (zBa [t32])∧(zSa (zRa H12 H14) (zBa [t32])∧(wCall P zlb [t33] H24 fun t34 H26=>
opP (zfa 0 t2) fun t35=>
opW (zda t35 H26) fun t36 H29=>
opP (zfa 1 t2) fun t37=>
opW (zka 3 t37 H29) fun t38 H32=>
wCall P zVf [t36,t38,t26,t30,t34] H32 fun t42 H34=>
opP (zfa 0 t2) fun t43=>
opW (zda t43 H34) fun t44 H37=>
opP (zfa 1 t2) fun t45=>
opW (zka 3 t45 H37) fun t46 H40=>
opP (zfa 4 t2) fun t47=>
opP (zEa 3 1 t47 (.int .i64 1)) fun t48=>
opW (zda t48 H40) fun t49 H44=>
wCall P zTh [t49] H44 fun t50 H46=>
zSa (zRa H44 H46) (zBa [t45])∧(zSa (zRa H44 H46) (zBa [t43])∧(opP (zea t50) fun t51=>
opP (zfa 0 t51) fun t52=>
opW (zda t52 H46) fun t53 H50=>
opP (zfa 4 t2) fun t54=>
opP (zEa 3 1 t54 (.int .i64 2)) fun t55=>
opW (zda t55 H50) fun t56 H54=>
zSa (zRa H44 H46) (zBa [t55])∧(wCall P zTh [t56] H54 fun t57 H56=>
zSa (zRa H54 H56) (zBa [t52])∧(zSa (zRa H54 H56) (zBa [t45])∧(zSa (zRa H54 H56) (zBa [t43])∧(opP (zea t57) fun t58=>
opP (zfa 0 t58) fun t59=>
opW (zda t59 H56) fun t60 H60=>
wCall P zPk [t44,t46,t53,t60] H60 fun t61 H62=>
opW (lenSl t1 H62) fun t63 H64=>
zHb P true 229 zHg 16 [(.bool false),t26,t30,t34,t42,t61,t1,t63,(.int .i64 0)] H64 (fun id l H66=>
cond (Nat.beq id 0) (
K (.bool true) H66) (
False)) (fun l H66=>
K (nth l 0) H66))))))))))))
theorem zyl{t0 t1:Value}{H:Heap}{K:VH}(h:zaj t0 t1 H K):wCall P zTe [t0,t1] H K:=zga rfl (Eq.mpr (by kernel_rfl) h)
def zpi(H:Heap)(K:VH):Prop:=
opW ((zla P 22 8).f [(0,(.int .u8 97)),(1,(.int .u8 110)),(2,(.int .u8 32)),(3,(.int .u8 105)),(4,(.int .u8 109)),(5,(.int .u8 97)),(6,(.int .u8 103)),(7,(.int .u8 101))] H) fun t18 H1=>
opW (zmi t18 H1) fun t19 H3=>
wCall P zCg [(.string ⟨#[99,111,114,101]⟩),(.int .u64 3),(.int .i64 64),t19] H3 fun t22 H5=>
opP (zee 0 t22) fun t23=>
opP (zee 1 t22) fun t24=>
zCb (zc P 52) H5 fun t2 H9=>
opW (zha 37 t2 t23 H9) fun u H11=>
opW ((zla P 22 3).f [(0,(.int .u8 107)),(1,(.int .u8 101)),(2,(.int .u8 121))] H11) fun t26 H13=>
opW (zmi t26 H13) fun t27 H15=>
opW (zka 37 t2 H15) fun t28 H17=>
wCall P zPi [t27,t28] H17 fun t29 H19=>
opP (zee 0 t29) fun t30=>
opP (zee 1 t29) fun t31=>
wCall P zac [(.int .i64 4)] H19 fun t32 H23=>
wCall P zlb [(.int .i64 4)] H23 fun t33 H25=>
wCall P zlb [(.int .i64 4)] H25 fun t34 H27=>
zIb (fun J=>
opP ((zpa P .eql 32 true).f t32 (.pointer none)) fun t36=>
wIf t36 (
opP (zna t36 (.bool true) undef) fun t40=>
wIf t40 (
K (.bool false) H27) (
J [t19,t30,t32,t33,t34] H27)) (
opP ((zpa P .eql 36 true).f t33 (.pointer none)) fun t39=>
opP (zna t36 (.bool true) t39) fun t40_1=>
wIf t40_1 (
K (.bool false) H27) (
J [t19,t30,t32,t33,t34] H27))) (fun l H34=>
opW ((zla P 22 3).f [(0,(.int .u8 107)),(1,(.int .u8 101)),(2,(.int .u8 121))] H34) fun t41 H36=>
opW (zmi t41 H36) fun t42 H38=>
opP ((zAa P 25).f [(0,(.string ⟨#[99,111,114,101]⟩)),(2,(.int .i64 100))]) fun t43=>
wCall P zVf [t42,t43,(nth l 2),(nth l 3),(nth l 4)] H38 fun t47 H41=>
opP ((zAa P 35).f [(0,(.int .i64 (-1))),(1,(nth l 1))]) fun t50=>
wCall P zbb [(nth l 2),t50] H41 fun t51 H44=>
opP ((zAa P 35).f [(0,(.int .i64 0)),(1,(nth l 0))]) fun t54=>
wCall P zbb [(nth l 2),t54] H44 fun t55 H47=>
zIb (fun J_1=>
opP ((zpa P .eql 40 true).f t47 (.pointer none)) fun t57=>
wIf t57 (
opP (zna t57 (.bool true) undef) fun t62=>
opP (zna t62 (.bool true) undef) fun t67=>
opP (zna t67 (.bool true) undef) fun t72=>
opP (zna t72 (.bool true) undef) fun t77=>
opP (zna t77 (.bool true) undef) fun t82=>
opP (zna t82 (.bool true) undef) fun t87=>
opP (zna t87 (.bool true) undef) fun t91=>
opP (zna t91 (.bool true) undef) fun t96=>
wIf t96 (
K (.bool false) H47) (
J_1 [(nth l 1),(nth l 3),(nth l 4)] H47)) (
wCall P zHa [t47] H47 fun t60 H59=>
opP ((zpa P .neq 3 true).f t60 (.int .i64 (-1))) fun t61=>
opP (zna t57 (.bool true) t61) fun t62_1=>
wIf t62_1 (
opP (zna t62_1 (.bool true) undef) fun t67_1=>
opP (zna t67_1 (.bool true) undef) fun t72_1=>
opP (zna t72_1 (.bool true) undef) fun t77_1=>
opP (zna t77_1 (.bool true) undef) fun t82_1=>
opP (zna t82_1 (.bool true) undef) fun t87_1=>
opP (zna t87_1 (.bool true) undef) fun t91_1=>
opP (zna t91_1 (.bool true) undef) fun t96_1=>
wIf t96_1 (
K (.bool false) H59) (
J_1 [(nth l 1),(nth l 3),(nth l 4)] H59)) (
wCall P zib [t47] H59 fun t65 H70=>
opP (unA .not t65) fun t66=>
opP (zna t62_1 (.bool true) t66) fun t67_2=>
wIf t67_2 (
opP (zna t67_2 (.bool true) undef) fun t72_2=>
opP (zna t72_2 (.bool true) undef) fun t77_2=>
opP (zna t77_2 (.bool true) undef) fun t82_2=>
opP (zna t82_2 (.bool true) undef) fun t87_2=>
opP (zna t87_2 (.bool true) undef) fun t91_2=>
opP (zna t91_2 (.bool true) undef) fun t96_2=>
wIf t96_2 (
K (.bool false) H70) (
J_1 [(nth l 1),(nth l 3),(nth l 4)] H70)) (
wCall P zHa [t47] H70 fun t70 H80=>
opP ((zpa P .neq 3 true).f t70 (.int .i64 0)) fun t71=>
opP (zna t67_2 (.bool true) t71) fun t72_3=>
wIf t72_3 (
opP (zna t72_3 (.bool true) undef) fun t77_3=>
opP (zna t77_3 (.bool true) undef) fun t82_3=>
opP (zna t82_3 (.bool true) undef) fun t87_3=>
opP (zna t87_3 (.bool true) undef) fun t91_3=>
opP (zna t91_3 (.bool true) undef) fun t96_3=>
wIf t96_3 (
K (.bool false) H80) (
J_1 [(nth l 1),(nth l 3),(nth l 4)] H80)) (
wCall P zib [t47] H80 fun t75 H89=>
opP (unA .not t75) fun t76=>
opP (zna t72_3 (.bool true) t76) fun t77_4=>
wIf t77_4 (
opP (zna t77_4 (.bool true) undef) fun t82_4=>
opP (zna t82_4 (.bool true) undef) fun t87_4=>
opP (zna t87_4 (.bool true) undef) fun t91_4=>
opP (zna t91_4 (.bool true) undef) fun t96_4=>
wIf t96_4 (
K (.bool false) H89) (
J_1 [(nth l 1),(nth l 3),(nth l 4)] H89)) (
wCall P zHa [t47] H89 fun t80 H97=>
opP ((zpa P .neq 3 true).f t80 (.int .i64 (-2))) fun t81=>
opP (zna t77_4 (.bool true) t81) fun t82_5=>
wIf t82_5 (
opP (zna t82_5 (.bool true) undef) fun t87_5=>
opP (zna t87_5 (.bool true) undef) fun t91_5=>
opP (zna t91_5 (.bool true) undef) fun t96_5=>
wIf t96_5 (
K (.bool false) H97) (
J_1 [(nth l 1),(nth l 3),(nth l 4)] H97)) (
wCall P zib [t47] H97 fun t85 H104=>
opP (unA .not t85) fun t86=>
opP (zna t82_5 (.bool true) t86) fun t87_6=>
wIf t87_6 (
opP (zna t87_6 (.bool true) undef) fun t91_6=>
opP (zna t91_6 (.bool true) undef) fun t96_6=>
wIf t96_6 (
K (.bool false) H104) (
J_1 [(nth l 1),(nth l 3),(nth l 4)] H104)) (
wCall P zib [t47] H104 fun t90 H110=>
opP (zna t87_6 (.bool true) t90) fun t91_7=>
wIf t91_7 (
opP (zna t91_7 (.bool true) undef) fun t96_7=>
wIf t96_7 (
K (.bool false) H110) (
J_1 [(nth l 1),(nth l 3),(nth l 4)] H110)) (
wCall P zGb [t47] H110 fun t94 H114=>
opP (unA .not t94) fun t95=>
opP (zna t91_7 (.bool true) t95) fun t96_8=>
wIf t96_8 (
K (.bool false) H114) (
J_1 [(nth l 1),(nth l 3),(nth l 4)] H114)))))))))) (fun l_1 H118=>
wCall P zcc [(nth l_1 1)] H118 fun t99 H120=>
opP (zee 0 t99) fun t100=>
opP (zee 1 t99) fun t101=>
zCb (zc P 54) H120 fun t10 H124=>
opW (zha 41 t10 t100 H124) fun u_1 H126=>
wCall P zcc [(nth l_1 2)] H126 fun t104 H128=>
opP (zee 0 t104) fun t105=>
opP (zee 1 t104) fun t106=>
zCb (zc P 54) H128 fun t12 H132=>
opW (zha 41 t12 t105 H132) fun u_2 H134=>
wCall P zcc [(nth l_1 2)] H134 fun t109 H136=>
opP (zee 0 t109) fun t110=>
opP (zee 1 t109) fun t111=>
zCb (zc P 54) H136 fun t14 H140=>
opW (zha 41 t14 t110 H140) fun u_3 H142=>
wCall P zcc [(nth l_1 2)] H142 fun t114 H144=>
opP (zee 0 t114) fun t115=>
opP (zee 1 t114) fun t116=>
zCb (zc P 54) H144 fun t16 H148=>
opW (zha 41 t16 t115 H148) fun u_4 H150=>
opP (zfa 0 t10) fun t117=>
opW (zda t117 H150) fun t118 H153=>
opP ((zpa P .eql 3 true).f t118 (.int .i64 2)) fun t119=>
wIf t119 (
opP (zfa 2 t10) fun t121=>
opW (zda t121 H153) fun t122 H157=>
opW (lenSl (nth l_1 0) H157) fun t124 H159=>
opP ((zpa P .eql 3 false).f t122 t124) fun t125=>
opP (zna t119 t125 (.bool false)) fun t126=>
wIf t126 (
opP (zfa 0 t12) fun t128=>
opW (zda t128 H159) fun t129 H164=>
opP ((zpa P .eql 3 true).f t129 (.int .i64 2)) fun t130=>
opP (zna t126 t130 (.bool false)) fun t131=>
wIf t131 (
opP (zfa 0 t14) fun t133=>
opW (zda t133 H164) fun t134 H169=>
opP ((zpa P .eql 3 true).f t134 (.int .i64 3)) fun t135=>
opP (zna t131 t135 (.bool false)) fun t136=>
wIf t136 (
opP (zfa 40 t14) fun t138=>
opW (zda t138 H169) fun t139 H174=>
opW (zVa t139 H174) fun t140 H176=>
opP ((zpa P .eql 9 true).f t140 (.string ⟨#[97,110,32,105,109,97,103,101]⟩)) fun t141=>
opP (zna t136 t141 (.bool false)) fun t142=>
wIf t142 (
opP (zfa 0 t16) fun t144=>
opW (zda t144 H176) fun t145 H181=>
opP ((zpa P .eql 3 true).f t145 (.int .i64 4)) fun t146=>
opP (zna t142 t146 (.bool false)) fun t147=>
K t147 H181) (
opP (zna t142 undef (.bool false)) fun t147_1=>
K t147_1 H176)) (
opP (zna t136 undef (.bool false)) fun t142_1=>
opP (zna t142_1 undef (.bool false)) fun t147_2=>
K t147_2 H169)) (
opP (zna t131 undef (.bool false)) fun t136_1=>
opP (zna t136_1 undef (.bool false)) fun t142_2=>
opP (zna t142_2 undef (.bool false)) fun t147_3=>
K t147_3 H164)) (
opP (zna t126 undef (.bool false)) fun t131_1=>
opP (zna t131_1 undef (.bool false)) fun t136_2=>
opP (zna t136_2 undef (.bool false)) fun t142_3=>
opP (zna t142_3 undef (.bool false)) fun t147_4=>
K t147_4 H159)) (
opP (zna t119 undef (.bool false)) fun t126_1=>
opP (zna t126_1 undef (.bool false)) fun t131_2=>
opP (zna t131_2 undef (.bool false)) fun t136_3=>
opP (zna t136_3 undef (.bool false)) fun t142_4=>
opP (zna t142_4 undef (.bool false)) fun t147_5=>
K t147_5 H153)))
theorem zTk{H:Heap}{K:VH}(h:zpi  H K):wCall P zle [] H K:=zga rfl (Eq.mpr (by kernel_rfl) h)
noncomputable abbrev znk:Code:=zMb P zFf 0
def zok(l:List Value)(H:Heap)(N:LN)(Qx:LX)(Qr:LN):Prop:=
opP ((zpa P .lss 3 false).f (nth l 3) (nth l 2)) fun t26=>
wIf t26 (
opP (zQc 3 (nth l 1) (nth l 3)) fun t27=>
opW (zka 3 t27 H) fun t28 H3=>
zCb (zc P 45) H3 fun t6 H5=>
opW (zha 3 t6 t28 H5) fun u H7=>
opP (zfa 1 t6) fun t29=>
opP (zfa 1 t29) fun t30=>
opW (zda t30 H7) fun t31 H11=>
opW (lenSl t31 H11) fun t32 H13=>
opP ((zpa P .gtr 3 true).f t32 (.int .i64 2500)) fun t33=>
wIf t33 (
Qr [(.bool true)] H13) (
opP ((zpa P .add 3 true).f (nth l 3) (.int .i64 1)) fun t34=>
N [(nth l 0),(nth l 1),(nth l 2),t34] H13)) (
Qx 0 [(nth l 0)] H)
theorem zzl:LpI P 35 znk 16 zok:=.mk (by kernel_rfl) fun l H N Qx Qr=>by kernel_rfl
def zop(t0 t1:Value)(H:Heap)(K:VH):Prop:=
zCb (zza t0) H fun t2 H1=>
zIb (fun J=>
opP (zfa 0 t2) fun t7=>
opW (zda t7 H1) fun t8 H5=>
opW (lenSl t8 H5) fun t9 H7=>
opP ((zpa P .gtr 3 true).f t9 (.int .i64 200)) fun t10=>
wIf t10 (
opP (zna t10 (.bool true) undef) fun t17=>
opP (zna t17 (.bool true) undef) fun t22=>
wIf t22 (
K (.bool true) H7) (
J [t1,(.bool false)] H7)) (
opP (zfa 1 t2) fun t12=>
opP (zfa 0 t12) fun t13=>
opW (zda t13 H7) fun t14 H14=>
opW (zUt t14 H14) fun t15 H16=>
opP ((zpa P .gtr 3 true).f t15 (.int .i64 200)) fun t16=>
opP (zna t10 (.bool true) t16) fun t17_1=>
wIf t17_1 (
opP (zna t17_1 (.bool true) undef) fun t22_1=>
wIf t22_1 (
K (.bool true) H16) (
J [t1,(.bool false)] H16)) (
opW (lenSl t1 H16) fun t20 H21=>
opP ((zpa P .gtr 3 true).f t20 (.int .i64 80)) fun t21=>
opP (zna t17_1 (.bool true) t21) fun t22_2=>
wIf t22_2 (
K (.bool true) H21) (
J [t1,(.bool false)] H21)))) (fun l H25=>
opW (lenSl (nth l 0) H25) fun t24 H27=>
zHb P true 35 znk 16 [(nth l 1),(nth l 0),t24,(.int .i64 0)] H27 (fun id l_1 H29=>
cond (Nat.beq id 0) (
K (.bool false) H29) (
False)) (fun l_1 H29=>
K (nth l_1 0) H29))
theorem ztq{t0 t1:Value}{H:Heap}{K:VH}(h:zop t0 t1 H K):wCall P zFf [t0,t1] H K:=zga rfl (Eq.mpr (by kernel_rfl) h)
def zIg(t0:Value)(H:Heap)(K:VH):Prop:=
opW (zze H (zWC [t0,(.int .i64 16)])) fun t4 H1=>
opW (zze H1 (zSE [(.int .i64 1),t4])) fun t5 H3=>
opW ((zXc P 78).f t5 t5 H3) fun t6 H5=>
opP ((zAa P 89).f [(0,t6)]) fun t7=>
zCb (zza t7) H5 fun t8 H8=>
K t8 H8
theorem zbj{t0:Value}{H:Heap}{K:VH}(h:zIg t0 H K):wCall P zac [t0] H K:=zga rfl (Eq.mpr (by kernel_rfl) h)
def zoh(t0:Value)(H:Heap)(K:VH):Prop:=
opW (zze H (zWC [t0,(.int .i64 16)])) fun t4 H1=>
opW (zze H1 (zSE [(.int .i64 1),t4])) fun t5 H3=>
opW ((zXc P 90).f t5 t5 H3) fun t6 H5=>
opP ((zAa P 92).f [(0,t6)]) fun t7=>
zCb (zza t7) H5 fun t8 H8=>
K t8 H8
theorem zVj{t0:Value}{H:Heap}{K:VH}(h:zoh t0 H K):wCall P zlb [t0] H K:=zga rfl (Eq.mpr (by kernel_rfl) h)
def zlu(t0 t1 t2 t3 t4:Value)(H:Heap)(K:VH):Prop:=
zCb (zza t1) H fun t6 H1=>
wCall P zWb [t0] H1 fun t12 H3=>
opW (zka 3 t6 H3) fun t13 H5=>
zSa (zRa H1 H3) (zBa [t6])∧(opP ((zAa P 96).f [(0,t12),(1,t13),(2,t2),(3,t3),(4,t4)]) fun t17=>
zCb (zza t17) H5 fun t18 H8=>
K t18 H8)
theorem zmu{t0 t1 t2 t3 t4:Value}{H:Heap}{K:VH}(h:zlu t0 t1 t2 t3 t4 H K):wCall P zVf [t0,t1,t2,t3,t4] H K:=zga rfl (Eq.mpr (by kernel_rfl) h)
def zVd(t0 t1:Value)(H:Heap)(K:VH):Prop:=
zCb (zza t1) H fun t3 H1=>
wCall P zlc [t0] H1 fun t6 H3=>
opP ((zpa P .eql 3 true).f t6 (.int .i64 0)) fun t7=>
wIf t7 (
K (.bool false) H3) (
opP (zea t0) fun t9=>
opP (zfa 0 t9) fun t10=>
opW (zda t10 H3) fun t11 H8=>
opP (zea t0) fun t14=>
opP (zfa 2 t14) fun t15=>
opW (zda t15 H8) fun t16 H12=>
wCall P zEb [t0,t16] H12 fun t17 H14=>
zSa (zRa H12 H14) (zBa [t10])∧(opW (zka 2 t3 H14) fun t18 H16=>
zSa (zRa H12 H14) (zBa [t3])∧(opP (zQc 2 t11 t17) fun t19=>
opW (zha 2 t19 t18 H16) fun u H19=>
opP (zea t0) fun t21=>
opP (zfa 2 t21) fun t22=>
opW (zda t22 H19) fun t23 H23=>
opP ((zpa P .add 3 true).f t23 (.int .i64 1)) fun t24=>
opP (zea t0) fun t25=>
opP (zfa 2 t25) fun t26=>
opW (zha 1 t26 t24 H23) fun u_1 H28=>
K (.bool true) H28)))
theorem zXf{t0 t1:Value}{H:Heap}{K:VH}(h:zVd t0 t1 H K):wCall P zbb [t0,t1] H K:=zga rfl (Eq.mpr (by kernel_rfl) h)
def zJg(t0:Value)(H:Heap)(K:VH):Prop:=
wCall P zHa [t0] H fun t7 H1=>
zIb (fun J=>
opP (zea t0) fun t33=>
opP (zfa 46 t33) fun t34=>
opW (zda t34 H1) fun t35 H6=>
opP ((zpa P .neq 67 true).f t35 (.int .i64 0)) fun t36=>
wIf t36 (
opP (zna t36 (.bool true) undef) fun t42=>
J [t0,t7,t42] H6) (
opP (zea t0) fun t39=>
opP (zfa 45 t39) fun t40=>
opW (zda t40 H6) fun t41 H12=>
opP (zna t36 (.bool true) t41) fun t42_1=>
J [t0,t7,t42_1] H12)) (fun l H15=>
wIf (nth l 2) (
K (.bool false) H15) (
opP ((zpa P .eql 3 true).f (nth l 1) (.int .i64 (-2))) fun t45=>
wIf t45 (
wCall P zMc [(nth l 0)] H15 fun t47 H18=>
K t47 H18) (
zIb (fun J_1=>
opP (zea (nth l 0)) fun t50=>
opP (zfa 4 t50) fun t51=>
opW (zda t51 H15) fun t52 H23=>
wCall P zgb [t52] H23 fun t53 H25=>
opP ((zpa P .eql 3 true).f t53 (.int .i64 0)) fun t54=>
wIf t54 (
opP (zna t54 (.bool true) undef) fun t62=>
opP (zna t62 (.bool true) undef) fun t70=>
J_1 [(nth l 0),(nth l 1),t70] H25) (
opP (zea (nth l 0)) fun t57=>
opP (zfa 5 t57) fun t58=>
opW (zda t58 H25) fun t59 H32=>
wCall P zhb [t59] H32 fun t60 H34=>
opP ((zpa P .eql 3 true).f t60 (.int .i64 0)) fun t61=>
opP (zna t54 (.bool true) t61) fun t62_1=>
wIf t62_1 (
opP (zna t62_1 (.bool true) undef) fun t70_1=>
J_1 [(nth l 0),(nth l 1),t70_1] H34) (
opP (zea (nth l 0)) fun t65=>
opP (zfa 6 t65) fun t66=>
opW (zda t66 H34) fun t67 H41=>
wCall P zhb [t67] H41 fun t68 H43=>
opP ((zpa P .eql 3 true).f t68 (.int .i64 0)) fun t69=>
opP (zna t62_1 (.bool true) t69) fun t70_2=>
J_1 [(nth l 0),(nth l 1),t70_2] H43))) (fun l_1 H47=>
wIf (nth l_1 2) (
K (.bool false) H47) (
opP (zea (nth l_1 0)) fun t10=>
opP (zfa 4 t10) fun t11=>
opW (zda t11 H47) fun t12 H51=>
wCall P zmc [t12] H51 fun t13 H53=>
opP (zee 0 t13) fun t14=>
opP (zee 1 t13) fun t15=>
zCb (zc P 35) H53 fun t4 H57=>
opW (zha 2 t4 t14 H57) fun u H59=>
opP (zfa 0 t4) fun t20=>
opW (zda t20 H59) fun t21 H62=>
opP ((zpa P .neq 3 false).f t21 (nth l_1 1)) fun t23=>
wIf t23 (
K (.bool true) H62) (
opP ((zpa P .eql 3 true).f (nth l_1 1) (.int .i64 (-1))) fun t26=>
wIf t26 (
opP (zfa 1 t4) fun t28=>
opW (zda t28 H62) fun t29 H67=>
wCall P zzc [(nth l_1 0),t29] H67 fun t30 H69=>
K (.bool true) H69) (
opW (zka 2 t4 H62) fun t17 H71=>
wCall P zAc [(nth l_1 0),t17] H71 fun t18 H73=>
K (.bool true) H73)))))))
theorem zcj{t0:Value}{H:Heap}{K:VH}(h:zJg t0 H K):wCall P zib [t0] H K:=zga rfl (Eq.mpr (by kernel_rfl) h)
def zBe(t0:Value)(H:Heap)(K:VH):Prop:=
opP (zea t0) fun t4=>
opP (zfa 2 t4) fun t5=>
opW (zda t5 H) fun t6 H3=>
K t6 H3
theorem zZg{t0:Value}{H:Heap}{K:VH}(h:zBe t0 H K):wCall P zPa [t0] H K:=zga rfl (Eq.mpr (by kernel_rfl) h)
def zpp(t0:Value)(H:Heap)(K:VH):Prop:=
zCb (zc P 54) H fun t2 H1=>
wCall P zuc [t0] H1 fun t12 H3=>
opP (zee 0 t12) fun t13=>
opP (zee 1 t12) fun t14=>
opP (unA .not t14) fun t16=>
wIf t16 (
opP ((zAa P 54).f []) fun t17=>
opW (zha 41 t2 t17 H3) fun u H9=>
opW (zka 41 t2 H9) fun r _=>
K (.tuple [r,(.bool false)].toArray) H9) (
opP (zpc 103 (ztd P 103) t13) fun t19=>
opP (zee 1 t19) fun t20=>
opP (zee 0 t19) fun t21=>
wIf t20 (
zCb (zc P 103) H3 fun t6 H15=>
opW (zha 1 t6 t21 H15) fun u_1 H17=>
opP (zfa 0 t6) fun t22=>
opW (zda t22 H17) fun t23 H20=>
opP ((zAa P 54).f [(0,(.int .i64 1)),(1,t23)]) fun t24=>
opW (zha 41 t2 t24 H20) fun u_2 H23=>
opW (zka 41 t2 H23) fun r_1 _=>
K (.tuple [r_1,(.bool true)].toArray) H23) (
opP (zpc 105 (ztd P 105) t13) fun t25=>
opP (zee 1 t25) fun t26=>
opP (zee 0 t25) fun t27=>
wIf t26 (
zCb (zc P 105) H3 fun t7 H29=>
opW (zha 38 t7 t27 H29) fun u_3 H31=>
opP (zfa 0 t7) fun t28=>
opW (zda t28 H31) fun t29 H34=>
opP (zfa 1 t7) fun t30=>
opW (zka 37 t30 H34) fun t31 H37=>
opP ((zAa P 54).f [(0,(.int .i64 2)),(2,t29),(3,t31)]) fun t32=>
opW (zha 41 t2 t32 H37) fun u_4 H40=>
opW (zka 41 t2 H40) fun r_2 _=>
K (.tuple [r_2,(.bool true)].toArray) H40) (
opP (zpc 106 (ztd P 106) t13) fun t33=>
opP (zee 1 t33) fun t34=>
opP (zee 0 t33) fun t35=>
wIf t34 (
zCb (zc P 106) H3 fun t8 H46=>
opW (zha 2 t8 t35 H46) fun u_5 H48=>
opP (zfa 0 t8) fun t36=>
opW (zda t36 H48) fun t37 H51=>
opP (zfa 1 t8) fun t38=>
opW (zda t38 H51) fun t39 H54=>
opP ((zAa P 54).f [(0,(.int .i64 3)),(1,t37),(4,t39)]) fun t40=>
opW (zha 41 t2 t40 H54) fun u_6 H57=>
opW (zka 41 t2 H57) fun r_3 _=>
K (.tuple [r_3,(.bool true)].toArray) H57) (
opP (zpc 108 (ztd P 108) t13) fun t41=>
opP (zee 1 t41) fun t42=>
opP (zee 0 t41) fun t43=>
wIf t42 (
zCb (zc P 108) H3 fun t9 H63=>
opW (zha 0 t9 t43 H63) fun u_7 H65=>
opP ((zAa P 54).f [(0,(.int .i64 4))]) fun t44=>
opW (zha 41 t2 t44 H65) fun u_8 H68=>
opW (zka 41 t2 H68) fun r_4 _=>
K (.tuple [r_4,(.bool true)].toArray) H68) (
opP ((zAa P 54).f []) fun t45=>
opW (zha 41 t2 t45 H3) fun u_9 H72=>
opW (zka 41 t2 H72) fun r_5 _=>
K (.tuple [r_5,(.bool true)].toArray) H72)))))
theorem zuq{t0:Value}{H:Heap}{K:VH}(h:zpp t0 H K):wCall P zcc [t0] H K:=zga rfl (Eq.mpr (by kernel_rfl) h)
def zse(t0:Value)(H:Heap)(K:VH):Prop:=
wCall P zvc [t0] H fun t9 H1=>
opP (zee 0 t9) fun t10=>
opP (zee 1 t9) fun t11=>
wIf t11 (
opP (zea t0) fun t14=>
opP (zfa 0 t14) fun t15=>
opW (zda t15 H1) fun t16 H7=>
opP (zea t0) fun t18=>
opP (zfa 1 t18) fun t19=>
opW (zda t19 H7) fun t20 H11=>
opP (zQc 1 t16 t20) fun t22=>
opW (zha 1 t22 .nilIface H11) fun u H14=>
wCall P zLb [t0,(.int .i64 1)] H14 fun t25 H16=>
opP (zea t0) fun t26=>
opP (zfa 1 t26) fun t27=>
opW (zha 1 t27 t25 H16) fun u_1 H20=>
opP (zea t0) fun t29=>
opP (zfa 2 t29) fun t30=>
opW (zda t30 H20) fun t31 H24=>
opP ((zpa P .sub 3 true).f t31 (.int .i64 1)) fun t32=>
opP (zea t0) fun t33=>
opP (zfa 2 t33) fun t34=>
opW (zha 1 t34 t32 H24) fun u_2 H29=>
K (.tuple [t10,t11].toArray) H29) (
K (.tuple [t10,t11].toArray) H1)
theorem zkg{t0:Value}{H:Heap}{K:VH}(h:zse t0 H K):wCall P zuc [t0] H K:=zga rfl (Eq.mpr (by kernel_rfl) h)
def zjr(t0 t1:Value)(H:Heap)(K:VH):Prop:=
zCb (zza t1) H fun t3 H1=>
opW (zka 37 t3 H1) fun t7 H3=>
wCall P zNc [t7] H3 fun t8 H5=>
opP (unA .not t8) fun t9=>
wIf t9 (
K (.tuple [(.slice none 0 0),(.int .i64 131)].toArray) H5) (
opW (zka 37 t3 H5) fun t10 H8=>
wCall P zme [t10] H8 fun t11 H10=>
opW ((zla P 22 2).f [(0,(.int .u8 66)),(1,(.int .u8 85))] H10) fun t13 H12=>
opW (zmi t13 H12) fun t14 H14=>
opW (lenSl t11 H14) fun t16 H16=>
opW (zSb .u64 t16 H16) fun t17 H18=>
wCall P zrc [t17,(.int .i64 2)] H18 fun t18 H20=>
opW (zsa 1 1 t14 t18 H20) fun t19 H22=>
opW (zsa 1 1 t19 t11 H22) fun t21 H24=>
wCall P zcf [t0,t21] H24 fun t22 H26=>
K (.tuple [t22,(.int .i64 0)].toArray) H26)
theorem zDs{t0 t1:Value}{H:Heap}{K:VH}(h:zjr t0 t1 H K):wCall P zPi [t0,t1] H K:=zga rfl (Eq.mpr (by kernel_rfl) h)
def zqp(t0 t1:Value)(H:Heap)(K:VH):Prop:=
zCb (zza t0) H fun t2 H1=>
zCb (zza t1) H1 fun t3 H3=>
opW (zka 37 t2 H3) fun t5 H5=>
wCall P zNc [t5] H5 fun t6 H7=>
opP (unA .not t6) fun t7=>
wIf t7 (
K (.int .i64 131) H7) (
opP (zfa 0 t2) fun t8=>
opW (zda t8 H7) fun t9 H11=>
wCall P zff [t9] H11 fun t10 H13=>
opP (zfa 0 t3) fun t11=>
opW (zda t11 H13) fun t12 H16=>
zSa (zRa H11 H13) (zBa [t11])∧(wCall P zff [t12] H16 fun t13 H18=>
opP ((zpa P .neq 9 false).f t10 t13) fun t14=>
wIf t14 (
K (.int .i64 143) H18) (
opP (zfa 1 t2) fun t15=>
opW (zda t15 H18) fun t16 H22=>
opP (zfa 1 t3) fun t17=>
opW (zda t17 H22) fun t18 H25=>
opP ((zpa P .lss 23 false).f t16 t18) fun t19=>
wIf t19 (
K (.int .i64 144) H25) (
opP (zfa 2 t2) fun t20=>
opW (zda t20 H25) fun t21 H29=>
opP (zfa 2 t3) fun t22=>
opW (zda t22 H29) fun t23 H32=>
opP ((zpa P .gtr 3 false).f t21 t23) fun t24=>
wIf t24 (
K (.int .i64 145) H32) (
K (.int .i64 0) H32)))))
theorem zvq{t0 t1:Value}{H:Heap}{K:VH}(h:zqp t0 t1 H K):wCall P zSh [t0,t1] H K:=zga rfl (Eq.mpr (by kernel_rfl) h)
noncomputable abbrev zdj:Code:=zMb P zmb 0
noncomputable abbrev zej:Code:=zMb P zmb 1
noncomputable abbrev zfj:Code:=zMb P zmb 2
noncomputable abbrev zgj:Code:=zMb P zmb 3
noncomputable abbrev zhj:Code:=zMb P zmb 4
noncomputable abbrev zij:Code:=zMb P zmb 5
noncomputable abbrev zjj:Code:=zMb P zmb 6
noncomputable abbrev zkj:Code:=zMb P zmb 7
def zun(l:List Value)(H:Heap)(N:LN)(Qx:LX)(Qr:LN):Prop:=
opW (lenSl (nth l 2) H) fun t31 H1=>
opP ((zpa P .rem 3 true).f t31 (.int .i64 64)) fun t32=>
opP ((zpa P .neq 3 true).f t32 (.int .i64 56)) fun t33=>
wIf t33 (
opW ((zla P 22 1).f [(0,(.int .u8 0))] H1) fun t35 H5=>
opW (zsa 1 1 (nth l 2) t35 H5) fun t36 H7=>
N [(nth l 0),(nth l 1),t36] H7) (
Qx 0 [(nth l 0),(nth l 1),(nth l 2)] H1)
theorem zQn:LpI P 252 zdj 13 zun:=.mk (by kernel_rfl) fun l H N Qx Qr=>by kernel_rfl
def zvn(l:List Value)(H:Heap)(N:LN)(Qx:LX)(Qr:LN):Prop:=
opP ((zpa P .lss 3 true).f (nth l 4) (.int .i64 8)) fun t42=>
wIf t42 (
opP ((zpa P .quo 23 false).f (nth l 2) (nth l 3)) fun t48=>
opP ((zpa P .rem 23 true).f t48 (.int .u64 256)) fun t49=>
opW (zSb .u8 t49 H) fun t50 H4=>
opW ((zla P 22 1).f [(0,t50)] H4) fun t51 H6=>
opW (zsa 1 1 (nth l 1) t51 H6) fun t52 H8=>
opP ((zpa P .quo 23 true).f (nth l 3) (.int .u64 256)) fun t54=>
opP ((zpa P .add 3 true).f (nth l 4) (.int .i64 1)) fun t44=>
N [(nth l 0),t52,(nth l 2),t54,t44] H8) (
Qx 2 [(nth l 0),(nth l 1)] H)
theorem zRn:LpI P 252 zej 12 zvn:=.mk (by kernel_rfl) fun l H N Qx Qr=>by kernel_rfl
def zwn(l:List Value)(H:Heap)(N:LN)(Qx:LX)(Qr:LN):Prop:=
opW (lenSl (nth l 1) H) fun t59 H1=>
opP ((zpa P .lss 3 false).f (nth l 4) t59) fun t60=>
wIf t60 (
opP ((zAa P 116).f []) fun t63=>
zCb (zc P 116) H1 fun t10 H5=>
opW (zha 64 t10 t63 H5) fun u H7=>
zHb P true 252 zgj 1932 [(nth l 0),(nth l 1),(nth l 2),(nth l 3),(nth l 4),t10,(.int .i64 0)] H7 (fun id l_1 H9=>
cond (Nat.beq id 6) (
opW (zka 8 (nth l_1 2) H9) fun t129 H11=>
zCb (zc P 114) H11 fun t15 H13=>
opW (zha 8 t15 t129 H13) fun u_1 H15=>
zHb P true 252 zij 33676 [(nth l_1 0),(nth l_1 1),(nth l_1 2),(nth l_1 3),(nth l_1 4),(nth l_1 5),t15,(.int .i64 0)] H15 (fun id l_2 H17=>
cond (Nat.beq id 10) (
zHb P true 252 zjj 908 [(nth l_2 0),(nth l_2 1),(nth l_2 2),(nth l_2 3),(nth l_2 4),(nth l_2 5),(.int .i64 0)] H17 (fun id l_3 H19=>
cond (Nat.beq id 12) (
opP ((zpa P .add 3 true).f (nth l_3 4) (.int .i64 64)) fun t62=>
N [(nth l_3 0),(nth l_3 1),(nth l_3 2),(nth l_3 3),t62] H19) (
cond (Nat.beq id 5) (
opP ((zpa P .add 3 true).f (nth l_3 4) (.int .i64 64)) fun t62_1=>
N [(nth l_3 0),(nth l_3 1),(nth l_3 2),(nth l_3 3),t62_1] H19) (
Qx id [(nth l_3 0),(nth l_3 2)] H19))) (fun l_3 H19=>
Qr [(nth l_3 0),(nth l_3 2)] H19)) (
cond (Nat.beq id 5) (
opP ((zpa P .add 3 true).f (nth l_2 4) (.int .i64 64)) fun t62_2=>
N [(nth l_2 0),(nth l_2 1),(nth l_2 2),(nth l_2 3),t62_2] H17) (
Qx id [(nth l_2 0),(nth l_2 2)] H17))) (fun l_2 H17=>
Qr [(nth l_2 0),(nth l_2 2)] H17)) (
cond (Nat.beq id 5) (
opP ((zpa P .add 3 true).f (nth l_1 4) (.int .i64 64)) fun t62_3=>
N [(nth l_1 0),(nth l_1 1),(nth l_1 2),(nth l_1 3),t62_3] H9) (
Qx id [(nth l_1 0),(nth l_1 2)] H9))) (fun l_1 H9=>
Qr [(nth l_1 0),(nth l_1 2)] H9)) (
Qx 4 [(nth l 0),(nth l 2)] H1)
theorem zSn:LpI P 252 zfj 132 zwn:=.mk (by kernel_rfl) fun l H N Qx Qr=>by kernel_rfl
def zxn(l:List Value)(H:Heap)(N:LN)(Qx:LX)(Qr:LN):Prop:=
opP ((zpa P .lss 3 true).f (nth l 3) (.int .i64 32)) fun t235=>
wIf t235 (
opP ((zpa P .quo 3 true).f (nth l 3) (.int .i64 4)) fun t239=>
opP (zEa 8 1 (nth l 1) t239) fun t240=>
opW (zda t240 H) fun t241 H4=>
opP ((zpa P .rem 3 true).f (nth l 3) (.int .i64 4)) fun t243=>
opP ((zpa P .mul 3 true).f (.int .i64 8) t243) fun t244=>
opP ((zpa P .sub 3 true).f (.int .i64 24) t244) fun t245=>
opP ((zpa P .shr 23 false).f t241 t245) fun t246=>
opP ((zpa P .rem 23 true).f t246 (.int .u64 256)) fun t247=>
opW (zSb .u8 t247 H4) fun t248 H11=>
opP (zEa 32 1 (nth l 2) (nth l 3)) fun t249=>
opW (zha 1 t249 t248 H11) fun u H14=>
opP ((zpa P .add 3 true).f (nth l 3) (.int .i64 1)) fun t250=>
N [(nth l 0),(nth l 1),(nth l 2),t250] H14) (
Qx 14 [(nth l 0),(nth l 2)] H)
theorem zTn:LpI P 252 zkj 8388612 zxn:=.mk (by kernel_rfl) fun l H N Qx Qr=>by kernel_rfl
def zyn(l:List Value)(H:Heap)(N:LN)(Qx:LX)(Qr:LN):Prop:=
opP ((zpa P .lss 3 true).f (nth l 6) (.int .i64 64)) fun t65=>
wIf t65 (
opP ((zpa P .lss 3 true).f (nth l 6) (.int .i64 16)) fun t69=>
wIf t69 (
zHb P true 252 zhj 3980 [(nth l 0),(nth l 1),(nth l 2),(nth l 3),(nth l 4),(nth l 5),(nth l 6),(.int .i64 0)] H (fun id l_1 H3=>
cond (Nat.beq id 8) (
opP ((zpa P .add 3 true).f (nth l_1 6) (.int .i64 1)) fun t67=>
N [(nth l_1 0),(nth l_1 1),(nth l_1 2),(nth l_1 3),(nth l_1 4),(nth l_1 5),t67] H3) (
cond (Nat.beq id 7) (
opP ((zpa P .add 3 true).f (nth l_1 6) (.int .i64 1)) fun t67_1=>
N [(nth l_1 0),(nth l_1 1),(nth l_1 2),(nth l_1 3),(nth l_1 4),(nth l_1 5),t67_1] H3) (
Qx id [(nth l_1 0),(nth l_1 1),(nth l_1 2),(nth l_1 3),(nth l_1 4),(nth l_1 5)] H3))) (fun l_1 H3=>
Qr [(nth l_1 0),(nth l_1 1),(nth l_1 2),(nth l_1 3),(nth l_1 4),(nth l_1 5)] H3)) (
opP ((zpa P .sub 3 true).f (nth l 6) (.int .i64 15)) fun t92=>
opP (zEa 64 1 (nth l 5) t92) fun t93=>
opW (zda t93 H) fun t94 H9=>
opP ((zpa P .sub 3 true).f (nth l 6) (.int .i64 2)) fun t96=>
opP (zEa 64 1 (nth l 5) t96) fun t97=>
opW (zda t97 H9) fun t98 H13=>
opP ((zpa P .sub 3 true).f (nth l 6) (.int .i64 16)) fun t101=>
opP (zEa 64 1 (nth l 5) t101) fun t102=>
opW (zda t102 H13) fun t103 H17=>
wCall P zub [t94,(.int .u64 7)] H17 fun t105 H19=>
zSa (zRa H17 H19) (zBa [t102])∧(wCall P zub [t94,(.int .u64 18)] H19 fun t107 H21=>
zSa (zRa H19 H21) (zBa [t102])∧(opP ((zpa P .xor 23 false).f t105 t107) fun t108=>
opP ((zpa P .shr 23 true).f t94 (.int .u64 3)) fun t110=>
opP ((zpa P .xor 23 false).f t108 t110) fun t111=>
opP ((zpa P .add 23 false).f t103 t111) fun t112=>
opP ((zpa P .sub 3 true).f (nth l 6) (.int .i64 7)) fun t114=>
opP (zEa 64 1 (nth l 5) t114) fun t115=>
opW (zda t115 H21) fun t116 H29=>
zSa (zRa H19 H21) (zBa [t115])∧(zSa (zRa H17 H19) (zBa [t115])∧(opP ((zpa P .add 23 false).f t112 t116) fun t117=>
wCall P zub [t98,(.int .u64 17)] H29 fun t119 H32=>
zSa (zRa H29 H32) (zBa [t115])∧(zSa (zRa H29 H32) (zBa [t102])∧(wCall P zub [t98,(.int .u64 19)] H32 fun t121 H34=>
zSa (zRa H32 H34) (zBa [t115])∧(zSa (zRa H32 H34) (zBa [t102])∧(opP ((zpa P .xor 23 false).f t119 t121) fun t122=>
opP ((zpa P .shr 23 true).f t98 (.int .u64 10)) fun t124=>
opP ((zpa P .xor 23 false).f t122 t124) fun t125=>
opP ((zpa P .add 23 false).f t117 t125) fun t126=>
opP ((zpa P .rem 23 true).f t126 (.int .u64 4294967296)) fun t127=>
opP (zEa 64 1 (nth l 5) (nth l 6)) fun t128=>
opW (zha 1 t128 t127 H34) fun u H42=>
opP ((zpa P .add 3 true).f (nth l 6) (.int .i64 1)) fun t67_2=>
N [(nth l 0),(nth l 1),(nth l 2),(nth l 3),(nth l 4),(nth l 5),t67_2] H42)))))))))) (
Qx 6 [(nth l 0),(nth l 1),(nth l 2),(nth l 3),(nth l 4),(nth l 5)] H)
theorem zUn:LpI P 252 zgj 1932 zyn:=.mk (by kernel_rfl) fun l H N Qx Qr=>by kernel_rfl
def zzn(l:List Value)(H:Heap)(N:LN)(Qx:LX)(Qr:LN):Prop:=
opP ((zpa P .lss 3 true).f (nth l 7) (.int .i64 64)) fun t131=>
wIf t131 (
opP (zEa 8 1 (nth l 6) (.int .i64 4)) fun t134=>
opW (zda t134 H) fun t135 H3=>
opP (zEa 8 1 (nth l 6) (.int .i64 5)) fun t137=>
opW (zda t137 H3) fun t138 H6=>
opP ((zpa P .and 23 false).f t135 t138) fun t139=>
opP ((zpa P .sub 23 true).f (.int .u64 4294967295) t135) fun t141=>
opP (zEa 8 1 (nth l 6) (.int .i64 6)) fun t142=>
opW (zda t142 H6) fun t143 H11=>
opP ((zpa P .and 23 false).f t141 t143) fun t144=>
opP ((zpa P .xor 23 false).f t139 t144) fun t145=>
opP (zEa 8 1 (nth l 6) (.int .i64 7)) fun t146=>
opW (zda t146 H11) fun t147 H16=>
wCall P zub [t135,(.int .u64 6)] H16 fun t149 H18=>
zSa (zRa H16 H18) (zBa [t146])∧(wCall P zub [t135,(.int .u64 11)] H18 fun t151 H20=>
zSa (zRa H18 H20) (zBa [t146])∧(opP ((zpa P .xor 23 false).f t149 t151) fun t152=>
wCall P zub [t135,(.int .u64 25)] H20 fun t154 H23=>
zSa (zRa H20 H23) (zBa [t146])∧(opP ((zpa P .xor 23 false).f t152 t154) fun t155=>
opP ((zpa P .add 23 false).f t147 t155) fun t156=>
opP ((zpa P .add 23 false).f t156 t145) fun t158=>
opP (zEa 64 1 (nth l 3) (nth l 7)) fun t160=>
opW (zda t160 H23) fun t161 H29=>
zSa (zRa H20 H23) (zBa [t160])∧(zSa (zRa H18 H20) (zBa [t160])∧(zSa (zRa H16 H18) (zBa [t160])∧(opP ((zpa P .add 23 false).f t158 t161) fun t162=>
opP (zEa 64 1 (nth l 5) (nth l 7)) fun t164=>
opW (zda t164 H29) fun t165 H33=>
zSa (zRa H20 H23) (zBa [t164])∧(zSa (zRa H18 H20) (zBa [t164])∧(zSa (zRa H16 H18) (zBa [t164])∧(opP ((zpa P .add 23 false).f t162 t165) fun t166=>
opP (zEa 8 1 (nth l 6) (.int .i64 0)) fun t167=>
opW (zda t167 H33) fun t168 H37=>
opP (zEa 8 1 (nth l 6) (.int .i64 1)) fun t169=>
opW (zda t169 H37) fun t170 H40=>
opP ((zpa P .and 23 false).f t168 t170) fun t171=>
opP (zEa 8 1 (nth l 6) (.int .i64 0)) fun t172=>
opW (zda t172 H40) fun t173 H44=>
opP (zEa 8 1 (nth l 6) (.int .i64 2)) fun t174=>
opW (zda t174 H44) fun t175 H47=>
opP ((zpa P .and 23 false).f t173 t175) fun t176=>
opP ((zpa P .xor 23 false).f t171 t176) fun t177=>
opP (zEa 8 1 (nth l 6) (.int .i64 1)) fun t178=>
opW (zda t178 H47) fun t179 H52=>
opP (zEa 8 1 (nth l 6) (.int .i64 2)) fun t180=>
opW (zda t180 H52) fun t181 H55=>
opP ((zpa P .and 23 false).f t179 t181) fun t182=>
opP ((zpa P .xor 23 false).f t177 t182) fun t183=>
opP (zEa 8 1 (nth l 6) (.int .i64 0)) fun t184=>
opW (zda t184 H55) fun t185 H60=>
wCall P zub [t185,(.int .u64 2)] H60 fun t186 H62=>
opP (zEa 8 1 (nth l 6) (.int .i64 0)) fun t187=>
opW (zda t187 H62) fun t188 H65=>
zSa (zRa H60 H62) (zBa [t187])∧(wCall P zub [t188,(.int .u64 13)] H65 fun t189 H67=>
opP ((zpa P .xor 23 false).f t186 t189) fun t190=>
opP (zEa 8 1 (nth l 6) (.int .i64 0)) fun t191=>
opW (zda t191 H67) fun t192 H71=>
zSa (zRa H65 H67) (zBa [t191])∧(zSa (zRa H60 H62) (zBa [t191])∧(wCall P zub [t192,(.int .u64 22)] H71 fun t193 H73=>
opP ((zpa P .xor 23 false).f t190 t193) fun t194=>
opP ((zpa P .add 23 false).f t194 t183) fun t196=>
opP ((zpa P .add 23 false).f t166 t196) fun t199=>
opP ((zpa P .rem 23 true).f t199 (.int .u64 4294967296)) fun t200=>
opP (zEa 8 1 (nth l 6) (.int .i64 0)) fun t201=>
opW (zda t201 H73) fun t202 H80=>
opP (zEa 8 1 (nth l 6) (.int .i64 1)) fun t203=>
opW (zda t203 H80) fun t204 H83=>
opP (zEa 8 1 (nth l 6) (.int .i64 2)) fun t205=>
opW (zda t205 H83) fun t206 H86=>
opP (zEa 8 1 (nth l 6) (.int .i64 3)) fun t207=>
opW (zda t207 H86) fun t208 H89=>
opP ((zpa P .add 23 false).f t208 t166) fun t210=>
opP ((zpa P .rem 23 true).f t210 (.int .u64 4294967296)) fun t211=>
opP (zEa 8 1 (nth l 6) (.int .i64 4)) fun t212=>
opW (zda t212 H89) fun t213 H94=>
opP (zEa 8 1 (nth l 6) (.int .i64 5)) fun t214=>
opW (zda t214 H94) fun t215 H97=>
opP (zEa 8 1 (nth l 6) (.int .i64 6)) fun t216=>
opW (zda t216 H97) fun t217 H100=>
opP ((zAa P 114).f [(0,t200),(1,t202),(2,t204),(3,t206),(4,t211),(5,t213),(6,t215),(7,t217)]) fun t218=>
opW (zha 8 (nth l 6) t218 H100) fun u H103=>
opP ((zpa P .add 3 true).f (nth l 7) (.int .i64 1)) fun t133=>
N [(nth l 0),(nth l 1),(nth l 2),(nth l 3),(nth l 4),(nth l 5),(nth l 6),t133] H103))))))))))))) (
Qx 10 [(nth l 0),(nth l 1),(nth l 2),(nth l 3),(nth l 4),(nth l 6)] H)
theorem zVn:LpI P 252 zij 33676 zzn:=.mk (by kernel_rfl) fun l H N Qx Qr=>by kernel_rfl
def zAn(l:List Value)(H:Heap)(N:LN)(Qx:LX)(Qr:LN):Prop:=
opP ((zpa P .lss 3 true).f (nth l 6) (.int .i64 8)) fun t220=>
wIf t220 (
opP (zEa 8 1 (nth l 2) (nth l 6)) fun t224=>
opW (zda t224 H) fun t225 H3=>
opP (zEa 8 1 (nth l 5) (nth l 6)) fun t227=>
opW (zda t227 H3) fun t228 H6=>
opP ((zpa P .add 23 false).f t225 t228) fun t229=>
opP ((zpa P .rem 23 true).f t229 (.int .u64 4294967296)) fun t230=>
opP (zEa 8 1 (nth l 2) (nth l 6)) fun t231=>
opW (zha 1 t231 t230 H6) fun u H11=>
opP ((zpa P .add 3 true).f (nth l 6) (.int .i64 1)) fun t232=>
N [(nth l 0),(nth l 1),(nth l 2),(nth l 3),(nth l 4),(nth l 5),t232] H11) (
Qx 12 [(nth l 0),(nth l 1),(nth l 2),(nth l 3),(nth l 4)] H)
theorem zWn:LpI P 252 zjj 908 zAn:=.mk (by kernel_rfl) fun l H N Qx Qr=>by kernel_rfl
def zBn(l:List Value)(H:Heap)(N:LN)(Qx:LX)(Qr:LN):Prop:=
opP ((zpa P .lss 3 true).f (nth l 7) (.int .i64 4)) fun t71=>
wIf t71 (
opP (zEa 64 1 (nth l 5) (nth l 6)) fun t76=>
opW (zda t76 H) fun t77 H3=>
opP ((zpa P .mul 23 true).f (.int .u64 256) t77) fun t78=>
opP ((zpa P .mul 3 true).f (.int .i64 4) (nth l 6)) fun t82=>
opP ((zpa P .add 3 false).f (nth l 4) t82) fun t83=>
opP ((zpa P .add 3 false).f t83 (nth l 7)) fun t85=>
opP (zQc 1 (nth l 1) t85) fun t86=>
opW (zda t86 H3) fun t87 H10=>
opW (zSb .u64 t87 H10) fun t88 H12=>
opP ((zpa P .add 23 false).f t78 t88) fun t89=>
opP (zEa 64 1 (nth l 5) (nth l 6)) fun t90=>
opW (zha 1 t90 t89 H12) fun u H16=>
opP ((zpa P .add 3 true).f (nth l 7) (.int .i64 1)) fun t73=>
N [(nth l 0),(nth l 1),(nth l 2),(nth l 3),(nth l 4),(nth l 5),(nth l 6),t73] H16) (
Qx 8 [(nth l 0),(nth l 1),(nth l 2),(nth l 3),(nth l 4),(nth l 5),(nth l 6)] H)
theorem zXn:LpI P 252 zhj 3980 zBn:=.mk (by kernel_rfl) fun l H N Qx Qr=>by kernel_rfl
def znu(t0:Value)(H:Heap)(K:VH):Prop:=
zCb (zc P 49) H fun t2 H1=>
opW ((zla P 22 0).f [] H1) fun t25 H3=>
opW (zsa 1 1 t25 t0 H3) fun t27 H5=>
opW ((zla P 22 1).f [(0,(.int .u8 128))] H5) fun t28 H7=>
opW (zsa 1 1 t27 t28 H7) fun t29 H9=>
zHb P true 252 zdj 13 [t0,t2,t29] H9 (fun id l H11=>
cond (Nat.beq id 0) (
opW (lenSl (nth l 0) H11) fun t38 H13=>
opW (zSb .u64 t38 H13) fun t39 H15=>
opP ((zpa P .mul 23 true).f t39 (.int .u64 8)) fun t40=>
zHb P true 252 zej 12 [(nth l 1),(nth l 2),t40,(.int .u64 72057594037927936),(.int .i64 0)] H15 (fun id l_1 H18=>
cond (Nat.beq id 2) (
wCall P zUh [] H18 fun t55 H20=>
wCall P zUg [] H20 fun t56 H22=>
zCb (zc P 114) H22 fun t7 H24=>
zCb (zc P 116) H24 fun t8 H26=>
opW (zha 8 t7 t55 H26) fun u H28=>
opW (zha 64 t8 t56 H28) fun u_1 H30=>
zHb P true 252 zfj 132 [(nth l_1 0),(nth l_1 1),t7,t8,(.int .i64 0)] H30 (fun id l_2 H32=>
cond (Nat.beq id 4) (
opP ((zAa P 49).f []) fun t233=>
zCb (zc P 49) H32 fun t23 H35=>
opW (zha 32 t23 t233 H35) fun u_2 H37=>
zHb P true 252 zkj 8388612 [(nth l_2 0),(nth l_2 1),t23,(.int .i64 0)] H37 (fun id l_3 H39=>
cond (Nat.beq id 14) (
opW (zka 32 (nth l_3 1) H39) fun t251 H41=>
opW (zha 32 (nth l_3 0) t251 H41) fun u_3 H43=>
opW (zka 32 (nth l_3 0) H43) fun r _=>
K r H43) (
False)) (fun l_3 H39=>
opW (zka 32 (nth l_3 0) H39) fun r_1 _=>
K r_1 H39)) (
False)) (fun l_2 H32=>
opW (zka 32 (nth l_2 0) H32) fun r_2 _=>
K r_2 H32)) (
False)) (fun l_1 H18=>
opW (zka 32 (nth l_1 0) H18) fun r_3 _=>
K r_3 H18)) (
False)) (fun l H11=>
opW (zka 32 (nth l 1) H11) fun r_4 _=>
K r_4 H11)
theorem zou{t0:Value}{H:Heap}{K:VH}(h:znu t0 H K):wCall P zmb [t0] H K:=zga rfl (Eq.mpr (by kernel_rfl) h)
noncomputable abbrev zAl:Code:=zMb P zCg 0
def zBl(l:List Value)(H:Heap)(N:LN)(Qx:LX)(Qr:LN):Prop:=
opP ((zpa P .lss 3 false).f (nth l 6) (nth l 5)) fun t32=>
wIf t32 (
opP ((zpa P .mul 3 false).f (nth l 6) (nth l 0)) fun t37=>
opW (lenSl (nth l 1) H) fun t39 H3=>
zIb (fun J=>
opP ((zpa P .sub 3 true).f (nth l 5) (.int .i64 1)) fun t42=>
opP ((zpa P .lss 3 false).f (nth l 6) t42) fun t43=>
wIf t43 (
opP ((zpa P .add 3 false).f t37 (nth l 0)) fun t46=>
J [(nth l 0),(nth l 1),(nth l 2),(nth l 3),(nth l 4),(nth l 5),(nth l 6),t37,t46] H3) (
J [(nth l 0),(nth l 1),(nth l 2),(nth l 3),(nth l 4),(nth l 5),(nth l 6),t37,t39] H3)) (fun l_1 H9=>
opP (zfa 36 (nth l_1 4)) fun t47=>
opW (zda t47 H9) fun t48 H12=>
opP (zTa 1 (nth l_1 1) (some (nth l_1 7)) (some (nth l_1 8)) none) fun t52=>
wCall P zmb [t52] H12 fun t53 H15=>
zSa (zRa H12 H15) (zBa [t47])∧(opW ((zla P 50 1).f [(0,t53)] H15) fun t54 H17=>
opW (zsa 32 32 t48 t54 H17) fun t55 H19=>
opP (zfa 36 (nth l_1 4)) fun t56=>
opW (zha 1 t56 t55 H19) fun u H22=>
opP ((zpa P .add 3 true).f (nth l_1 6) (.int .i64 1)) fun t34=>
N [(nth l_1 0),(nth l_1 1),(nth l_1 2),(nth l_1 3),(nth l_1 4),(nth l_1 5),t34] H22))) (
Qx 0 [(nth l 2),(nth l 3),(nth l 4)] H)
theorem zOm:LpI P 62 zAl 1792 zBl:=.mk (by kernel_rfl) fun l H N Qx Qr=>by kernel_rfl
def zkr(t0 t1 t2 t3:Value)(H:Heap)(K:VH):Prop:=
zCb (zc P 52) H fun t8 H1=>
opW (lenSl t3 H1) fun t18 H3=>
wCall P zmb [t3] H3 fun t21 H5=>
opP ((zAa P 52).f [(0,t0),(1,t1),(2,t18),(3,t2),(4,t21)]) fun t22=>
zCb (zc P 52) H5 fun t10 H8=>
opW (zha 37 t10 t22 H8) fun u H10=>
opW (lenSl t3 H10) fun t24 H12=>
wCall P zGf [t24,t2] H12 fun t26 H14=>
opP ((zpa P .gtr 3 true).f t26 (.int .i64 64)) fun t28=>
wIf t28 (
opP ((zAa P 52).f []) fun t29=>
opW (zha 37 t8 t29 H14) fun u_1 H18=>
opW (zka 37 t8 H18) fun r _=>
K (.tuple [r,(.int .i64 131)].toArray) H18) (
zHb P true 62 zAl 1792 [t2,t3,t8,(.int .i64 0),t10,t26,(.int .i64 0)] H14 (fun id l H21=>
cond (Nat.beq id 0) (
opW (zka 37 (nth l 2) H21) fun t57 H23=>
wCall P zNc [t57] H23 fun t58 H25=>
opP (unA .not t58) fun t59=>
wIf t59 (
opP ((zAa P 52).f []) fun t60=>
opW (zha 37 (nth l 0) t60 H25) fun u_2 H29=>
opW (zka 37 (nth l 0) H29) fun r_1 _=>
K (.tuple [r_1,(.int .i64 131)].toArray) H29) (
opW (zka 37 (nth l 2) H25) fun t61 H32=>
opW (zha 37 (nth l 0) t61 H32) fun u_3 H34=>
opW (zka 37 (nth l 0) H34) fun r_2 _=>
K (.tuple [r_2,(.int .i64 0)].toArray) H34)) (
False)) (fun l H21=>
opW (zka 37 (nth l 0) H21) fun r_3 _=>
K (.tuple [r_3,(nth l 1)].toArray) H21))
theorem zEs{t0 t1 t2 t3:Value}{H:Heap}{K:VH}(h:zkr t0 t1 t2 t3 H K):wCall P zCg [t0,t1,t2,t3] H K:=zga rfl (Eq.mpr (by kernel_rfl) h)
def zlr(t0 t1:Value)(H:Heap)(K:VH):Prop:=
zCb (zza t0) H fun t2 H1=>
zIb (fun J=>
opW (zka 37 t2 H1) fun t6 H4=>
wCall P zNc [t6] H4 fun t7 H6=>
opP (unA .not t7) fun t8=>
wIf t8 (
opP (zna t8 (.bool true) undef) fun t12=>
opP (zna t12 (.bool true) undef) fun t19=>
J [t1,t2,t19] H6) (
opP ((zpa P .lss 3 true).f t1 (.int .i64 0)) fun t11=>
opP (zna t8 (.bool true) t11) fun t12_1=>
wIf t12_1 (
opP (zna t12_1 (.bool true) undef) fun t19_1=>
J [t1,t2,t19_1] H6) (
opP (zfa 36 t2) fun t15=>
opW (zda t15 H6) fun t16 H15=>
opW (lenSl t16 H15) fun t17 H17=>
opP ((zpa P .geq 3 false).f t1 t17) fun t18=>
opP (zna t12_1 (.bool true) t18) fun t19_2=>
J [t1,t2,t19_2] H17))) (fun l H21=>
wIf (nth l 2) (
K (.tuple [(.int .i64 0),(.int .i64 0)].toArray) H21) (
opP (zfa 36 (nth l 1)) fun t21=>
opW (zda t21 H21) fun t22 H24=>
opW (lenSl t22 H24) fun t23 H26=>
opP ((zpa P .sub 3 true).f t23 (.int .i64 1)) fun t24=>
opP ((zpa P .eql 3 false).f (nth l 0) t24) fun t25=>
wIf t25 (
opP (zfa 3 (nth l 1)) fun t27=>
opW (zda t27 H26) fun t28 H31=>
opP ((zpa P .mul 3 false).f (nth l 0) t28) fun t29=>
opP (zfa 2 (nth l 1)) fun t30=>
opW (zda t30 H31) fun t31 H35=>
opP (zfa 3 (nth l 1)) fun t33=>
opW (zda t33 H35) fun t34 H38=>
opP ((zpa P .mul 3 false).f (nth l 0) t34) fun t35=>
opP ((zpa P .sub 3 false).f t31 t35) fun t36=>
K (.tuple [t29,t36].toArray) H38) (
opP (zfa 3 (nth l 1)) fun t38=>
opW (zda t38 H26) fun t39 H43=>
opP ((zpa P .mul 3 false).f (nth l 0) t39) fun t40=>
opP (zfa 3 (nth l 1)) fun t41=>
opW (zda t41 H43) fun t42 H47=>
K (.tuple [t40,t42].toArray) H47)))
theorem zFs{t0 t1:Value}{H:Heap}{K:VH}(h:zlr t0 t1 H K):wCall P zQi [t0,t1] H K:=zga rfl (Eq.mpr (by kernel_rfl) h)
def zRd(t0:Value)(H:Heap)(K:VH):Prop:=
opP (zea t0) fun t5=>
opP (zfa 44 t5) fun t6=>
opW (zda t6 H) fun t7 H3=>
opP ((zpa P .eql 94 true).f t7 (.pointer none)) fun t8=>
wIf t8 (
K (.int .i64 (-1)) H3) (
opP (zea t0) fun t11=>
opP (zfa 44 t11) fun t12=>
opW (zda t12 H3) fun t13 H8=>
wCall P zhc [t13] H8 fun t14 H10=>
wIf t14 (
K (.int .i64 (-2)) H10) (
opP (zea t0) fun t16=>
opP (zfa 44 t16) fun t17=>
opW (zda t17 H10) fun t18 H14=>
wCall P zPd [t18] H14 fun t19 H16=>
K t19 H16))
theorem zCe{t0:Value}{H:Heap}{K:VH}(h:zRd t0 H K):wCall P zHa [t0] H K:=zga rfl (Eq.mpr (by kernel_rfl) h)
def zKg(t0:Value)(H:Heap)(K:VH):Prop:=
opP (zea t0) fun t4=>
opP (zfa 45 t4) fun t5=>
opW (zda t5 H) fun t6 H3=>
K t6 H3
theorem zlj{t0:Value}{H:Heap}{K:VH}(h:zKg t0 H K):wCall P zGb [t0] H K:=zga rfl (Eq.mpr (by kernel_rfl) h)
def zph(t0:Value)(H:Heap)(K:VH):Prop:=
opP (zea t0) fun t4=>
opP (zfa 46 t4) fun t5=>
opW (zda t5 H) fun t6 H3=>
K t6 H3
theorem zWj{t0:Value}{H:Heap}{K:VH}(h:zph t0 H K):wCall P zgc [t0] H K:=zga rfl (Eq.mpr (by kernel_rfl) h)
def zDe(t0:Value)(H:Heap)(K:VH):Prop:=
zCb (zc P 52) H fun t2 H1=>
opP (zea t0) fun t6=>
opP (zfa 7 t6) fun t7=>
opW (zka 37 t7 H1) fun t8 H5=>
zCb (zc P 52) H5 fun t4 H7=>
opW (zha 37 t4 t8 H7) fun u H9=>
opP (zfa 36 t4) fun t9=>
opW (zda t9 H9) fun t10 H12=>
wCall P zkb [t10] H12 fun t11 H14=>
opP (zfa 36 t4) fun t12=>
opW (zha 1 t12 t11 H14) fun u_1 H17=>
opW (zka 37 t4 H17) fun t13 H19=>
opP (zea t0) fun t15=>
opP (zfa 44 t15) fun t16=>
opW (zda t16 H19) fun t17 H23=>
opP ((zpa P .neq 94 true).f t17 (.pointer none)) fun t18=>
opW (zha 37 t2 t13 H23) fun u_2 H26=>
zLi (zBa [t16]) (zBa [t2,t13])∧(opW (zka 37 t2 H26) fun r _=>
K (.tuple [r,t18].toArray) H26)
theorem zah{t0:Value}{H:Heap}{K:VH}(h:zDe t0 H K):wCall P zxb [t0] H K:=zga rfl (Eq.mpr (by kernel_rfl) h)
def zpu(t0 t1 t2 t3:Value)(H:Heap)(K:VH):Prop:=
zCb (zza t1) H fun t5 H1=>
opW (zka 3 t5 H1) fun t10 H3=>
opP ((zAa P 87).f []) fun t13=>
zCb (zza t13) H3 fun t14 H6=>
opP ((zAa P 81).f [(0,t0),(1,t10),(5,t2),(6,t3),(9,t14)]) fun t15=>
zCb (zza t15) H6 fun t16 H9=>
K t16 H9
theorem zqu{t0 t1 t2 t3:Value}{H:Heap}{K:VH}(h:zpu t0 t1 t2 t3 H K):wCall P zPk [t0,t1,t2,t3] H K:=zga rfl (Eq.mpr (by kernel_rfl) h)
def zru(t0:Value)(H:Heap)(K:VH):Prop:=
zIb (fun J=>
opP ((zpa P .lss 3 true).f t0 (.int .i64 1)) fun t4=>
wIf t4 (
J [(.int .i64 1)] H) (
J [t0] H)) (fun l H3=>
opP ((zpa P .gtr 3 true).f (nth l 0) (.int .i64 16)) fun t6=>
wIf t6 (
opP ((zAa P 75).f [(0,(.int .i64 16))]) fun t8=>
zCb (zza t8) H3 fun t9 H7=>
K t9 H7) (
opP ((zAa P 75).f [(0,(nth l 0))]) fun t8_1=>
zCb (zza t8_1) H3 fun t9_1 H10=>
K t9_1 H10))
theorem zsu{t0:Value}{H:Heap}{K:VH}(h:zru t0 H K):wCall P zTh [t0] H K:=zga rfl (Eq.mpr (by kernel_rfl) h)
def zmr(t0 t1:Value)(H:Heap)(K:VH):Prop:=
zCb (zza t0) H fun t2 H1=>
zCb (zza t1) H1 fun t3 H3=>
opP (zfa 0 t2) fun t5=>
opW (zda t5 H3) fun t6 H6=>
opP (zfa 0 t3) fun t7=>
opW (zda t7 H6) fun t8 H9=>
opP ((zpa P .eql 3 false).f t6 t8) fun t9=>
wIf t9 (
opP (zfa 1 t2) fun t11=>
opW (zda t11 H9) fun t12 H13=>
opP (zfa 1 t3) fun t13=>
opW (zda t13 H13) fun t14 H16=>
opP ((zpa P .eql 3 false).f t12 t14) fun t15=>
opP (zna t9 t15 (.bool false)) fun t16=>
wIf t16 (
opP (zfa 2 t2) fun t18=>
opW (zda t18 H16) fun t19 H21=>
opP (zfa 2 t3) fun t20=>
opW (zda t20 H21) fun t21 H24=>
opP ((zpa P .eql 3 false).f t19 t21) fun t22=>
opP (zna t16 t22 (.bool false)) fun t23=>
wIf t23 (
opP (zfa 3 t2) fun t25=>
opW (zka 37 t25 H24) fun t26 H29=>
opP (zfa 3 t3) fun t27=>
opW (zka 37 t27 H29) fun t28 H32=>
wCall P zUd [t26,t28] H32 fun t29 H34=>
opP (zna t23 t29 (.bool false)) fun t30=>
wIf t30 (
opP (zfa 40 t2) fun t32=>
opW (zda t32 H34) fun t33 H38=>
opW (zVa t33 H38) fun t34 H40=>
opP (zfa 40 t3) fun t35=>
opW (zda t35 H40) fun t36 H43=>
opW (zVa t36 H43) fun t37 H45=>
opP ((zpa P .eql 9 false).f t34 t37) fun t38=>
opP (zna t30 t38 (.bool false)) fun t39=>
K t39 H45) (
opP (zna t30 undef (.bool false)) fun t39_1=>
K t39_1 H34)) (
opP (zna t23 undef (.bool false)) fun t30_1=>
opP (zna t30_1 undef (.bool false)) fun t39_2=>
K t39_2 H24)) (
opP (zna t16 undef (.bool false)) fun t23_1=>
opP (zna t23_1 undef (.bool false)) fun t30_2=>
opP (zna t30_2 undef (.bool false)) fun t39_3=>
K t39_3 H16)) (
opP (zna t9 undef (.bool false)) fun t16_1=>
opP (zna t16_1 undef (.bool false)) fun t23_2=>
opP (zna t23_2 undef (.bool false)) fun t30_3=>
opP (zna t30_3 undef (.bool false)) fun t39_4=>
K t39_4 H9)
theorem zGs{t0 t1:Value}{H:Heap}{K:VH}(h:zmr t0 t1 H K):wCall P zRi [t0,t1] H K:=zga rfl (Eq.mpr (by kernel_rfl) h)
def znr(t0:Value)(H:Heap)(K:VH):Prop:=
zIb (fun J=>
opP (zea t0) fun t6=>
opP (zfa 12 t6) fun t7=>
opW (zda t7 H) fun t8 H4=>
opP ((zpa P .neq 3 true).f t8 (.int .i64 0)) fun t9=>
wIf t9 (
opP (zna t9 (.bool true) undef) fun t15=>
wIf t15 (
K (.bool false) H4) (
J [t0] H4)) (
opP (zea t0) fun t12=>
opP (zfa 10 t12) fun t13=>
opW (zda t13 H4) fun t14 H10=>
opP (zna t9 (.bool true) t14) fun t15_1=>
wIf t15_1 (
K (.bool false) H10) (
J [t0] H10))) (fun l H13=>
wCall P zxd [(nth l 0)] H13 fun t17 H15=>
opP ((zpa P .eql 3 true).f t17 (.int .i64 (-2))) fun t19=>
wIf t19 (
opP (zea (nth l 0)) fun t21=>
opP (zfa 6 t21) fun t22=>
opW (zda t22 H15) fun t23 H20=>
opW (lenSl t23 H20) fun t24 H22=>
opP (zea (nth l 0)) fun t26=>
opP (zfa 8 t26) fun t27=>
opW (zda t27 H22) fun t28 H26=>
opP ((zpa P .geq 3 false).f t24 t28) fun t29=>
wIf t29 (
K (.bool false) H26) (
opP (zea (nth l 0)) fun t31=>
opP (zfa 11 t31) fun t32=>
opW (zda t32 H26) fun t33 H31=>
wCall P zne [t33] H31 fun t34 H33=>
wIf t34 (
opP (zea (nth l 0)) fun t37=>
opP (zfa 6 t37) fun t38=>
opW (zda t38 H33) fun t39 H37=>
opP ((zAa P 54).f [(0,(.int .i64 4))]) fun t40=>
wCall P zec [t39,t40] H37 fun t41 H40=>
opP (zea (nth l 0)) fun t42=>
opP (zfa 6 t42) fun t43=>
opW (zha 1 t43 t41 H40) fun u H44=>
opP (zea (nth l 0)) fun t45=>
opP (zfa 10 t45) fun t46=>
opW (zha 1 t46 (.bool true) H44) fun u_1 H48=>
K (.bool true) H48) (
opP (zea (nth l 0)) fun t48=>
opP (zfa 12 t48) fun t49=>
opW (zha 1 t49 (.int .i64 153) H33) fun u_2 H52=>
K (.bool true) H52))) (
zIb (fun J_1=>
opP (zea (nth l 0)) fun t51=>
opP (zfa 4 t51) fun t52=>
opW (zda t52 H15) fun t53 H57=>
opW (lenSl t53 H57) fun t54 H59=>
opP ((zpa P .eql 3 true).f t54 (.int .i64 0)) fun t55=>
wIf t55 (
opP (zna t55 (.bool true) undef) fun t67=>
opP (zna t67 (.bool true) undef) fun t79=>
wIf t79 (
K (.bool false) H59) (
J_1 [(nth l 0),t17] H59)) (
opP (zea (nth l 0)) fun t58=>
opP (zfa 5 t58) fun t59=>
opW (zda t59 H59) fun t60 H66=>
opW (lenSl t60 H66) fun t61 H68=>
opP (zea (nth l 0)) fun t63=>
opP (zfa 7 t63) fun t64=>
opW (zda t64 H68) fun t65 H72=>
opP ((zpa P .geq 3 false).f t61 t65) fun t66=>
opP (zna t55 (.bool true) t66) fun t67_1=>
wIf t67_1 (
opP (zna t67_1 (.bool true) undef) fun t79_1=>
wIf t79_1 (
K (.bool false) H72) (
J_1 [(nth l 0),t17] H72)) (
opP (zea (nth l 0)) fun t70=>
opP (zfa 6 t70) fun t71=>
opW (zda t71 H72) fun t72 H79=>
opW (lenSl t72 H79) fun t73 H81=>
opP (zea (nth l 0)) fun t75=>
opP (zfa 8 t75) fun t76=>
opW (zda t76 H81) fun t77 H85=>
opP ((zpa P .geq 3 false).f t73 t77) fun t78=>
opP (zna t67_1 (.bool true) t78) fun t79_2=>
wIf t79_2 (
K (.bool false) H85) (
J_1 [(nth l 0),t17] H85)))) (fun l_1 H89=>
opP (zea (nth l_1 0)) fun t81=>
opP (zfa 4 t81) fun t82=>
opW (zda t82 H89) fun t83 H93=>
opP (zQc 2 t83 (.int .i64 0)) fun t84=>
opW (zka 2 t84 H93) fun t85 H96=>
zCb (zc P 35) H96 fun t4 H98=>
opW (zha 2 t4 t85 H98) fun u_3 H100=>
opW ((zla P 78 0).f [] H100) fun t87 H102=>
opP (zea (nth l_1 0)) fun t89=>
opP (zfa 4 t89) fun t90=>
opW (zda t90 H102) fun t91 H106=>
opP (zTa 2 t91 (some (.int .i64 1)) none none) fun t92=>
opW (zsa 2 32 t87 t92 H106) fun t93 H109=>
opP (zea (nth l_1 0)) fun t94=>
opP (zfa 4 t94) fun t95=>
opW (zha 1 t95 t93 H109) fun u_4 H113=>
opP (zfa 0 t4) fun t96=>
opW (zda t96 H113) fun t97 H116=>
opP ((zpa P .neq 3 false).f t97 (nth l_1 1)) fun t99=>
wIf t99 (
K (.bool true) H116) (
opP ((zpa P .eql 3 true).f (nth l_1 1) (.int .i64 (-1))) fun t101=>
wIf t101 (
opP (zfa 1 t4) fun t103=>
opW (zda t103 H116) fun t104 H121=>
wCall P zSi [(nth l_1 0),t104] H121 fun t105 H123=>
K (.bool true) H123) (
opP (zea (nth l_1 0)) fun t107=>
opP (zfa 11 t107) fun t108=>
opW (zda t108 H116) fun t109 H127=>
opP (zfa 0 t4) fun t110=>
opW (zda t110 H127) fun t111 H130=>
opP (zfa 1 t4) fun t112=>
opW (zda t112 H130) fun t113 H133=>
wCall P zTi [t109,t111,t113] H133 fun t114 H135=>
opP ((zpa P .neq 3 true).f t114 (.int .i64 0)) fun t115=>
wIf t115 (
opP (zea (nth l_1 0)) fun t118=>
opP (zfa 5 t118) fun t119=>
opW (zda t119 H135) fun t120 H140=>
opP (zfa 0 t4) fun t121=>
opW (zda t121 H140) fun t122 H143=>
opP ((zAa P 54).f [(0,(.int .i64 1)),(1,t122)]) fun t123=>
wCall P zec [t120,t123] H143 fun t124 H146=>
opP (zea (nth l_1 0)) fun t125=>
opP (zfa 5 t125) fun t126=>
opW (zha 1 t126 t124 H146) fun u_5 H150=>
K (.bool true) H150) (
opP (zea (nth l_1 0)) fun t129=>
opP (zfa 6 t129) fun t130=>
opW (zda t130 H135) fun t131 H154=>
opP (zfa 0 t4) fun t132=>
opW (zda t132 H154) fun t133 H157=>
opP (zfa 1 t4) fun t134=>
opW (zda t134 H157) fun t135 H160=>
opP ((zAa P 54).f [(0,(.int .i64 3)),(1,t133),(4,t135)]) fun t136=>
wCall P zec [t131,t136] H160 fun t137 H163=>
opP (zea (nth l_1 0)) fun t138=>
opP (zfa 6 t138) fun t139=>
opW (zha 1 t139 t137 H163) fun u_6 H167=>
K (.bool true) H167))))))
theorem zHs{t0:Value}{H:Heap}{K:VH}(h:znr t0 H K):wCall P zDg [t0] H K:=zga rfl (Eq.mpr (by kernel_rfl) h)
def zrp(t0:Value)(H:Heap)(K:VH):Prop:=
opP (zea t0) fun t4=>
opP (zfa 9 t4) fun t5=>
opW (zda t5 H) fun t6 H3=>
opP (unA .not t6) fun t7=>
wIf t7 (
K (.int .i64 (-1)) H3) (
opP (zea t0) fun t9=>
opP (zfa 11 t9) fun t10=>
opW (zda t10 H3) fun t11 H8=>
wCall P zgf [t11] H8 fun t12 H10=>
wIf t12 (
K (.int .i64 (-2)) H10) (
opP (zea t0) fun t14=>
opP (zfa 11 t14) fun t15=>
opW (zda t15 H10) fun t16 H14=>
opP (zea t16) fun t17=>
opP (zfa 38 t17) fun t18=>
opW (zda t18 H14) fun t19 H18=>
K t19 H18))
theorem zwq{t0:Value}{H:Heap}{K:VH}(h:zrp t0 H K):wCall P zxd [t0] H K:=zga rfl (Eq.mpr (by kernel_rfl) h)
noncomputable abbrev zCl:Code:=zMb P zUd 0
def zDl(l:List Value)(H:Heap)(N:LN)(Qx:LX)(Qr:LN):Prop:=
opP ((zpa P .lss 3 false).f (nth l 4) (nth l 3)) fun t52=>
wIf t52 (
opP (zfa 36 (nth l 0)) fun t54=>
opW (zda t54 H) fun t55 H3=>
opP (zQc 32 t55 (nth l 4)) fun t57=>
opW (zka 32 t57 H3) fun t58 H6=>
opP (zfa 36 (nth l 1)) fun t59=>
opW (zda t59 H6) fun t60 H9=>
opP (zQc 32 t60 (nth l 4)) fun t62=>
opW (zka 32 t62 H9) fun t63 H12=>
opP ((zpa P .neq 49 false).f t58 t63) fun t64=>
wIf t64 (
Qr [(.bool false)] H12) (
opP ((zpa P .add 3 true).f (nth l 4) (.int .i64 1)) fun t65=>
N [(nth l 0),(nth l 1),(nth l 2),(nth l 3),t65] H12)) (
Qx 0 [(nth l 2)] H)
theorem zPm:LpI P 66 zCl 16 zDl:=.mk (by kernel_rfl) fun l H N Qx Qr=>by kernel_rfl
def zor(t0 t1:Value)(H:Heap)(K:VH):Prop:=
zCb (zza t0) H fun t2 H1=>
zCb (zza t1) H1 fun t3 H3=>
zIb (fun J=>
opP (zfa 0 t2) fun t6=>
opW (zda t6 H3) fun t7 H7=>
opP (zfa 0 t3) fun t8=>
opW (zda t8 H7) fun t9 H10=>
opP ((zpa P .neq 9 false).f t7 t9) fun t10=>
wIf t10 (
opP (zna t10 (.bool true) undef) fun t17=>
opP (zna t17 (.bool true) undef) fun t24=>
opP (zna t24 (.bool true) undef) fun t31=>
opP (zna t31 (.bool true) undef) fun t38=>
opP (zna t38 (.bool true) undef) fun t47=>
wIf t47 (
K (.bool false) H10) (
J [t2,t3,(.bool false)] H10)) (
opP (zfa 1 t2) fun t12=>
opW (zda t12 H10) fun t13 H19=>
opP (zfa 1 t3) fun t14=>
opW (zda t14 H19) fun t15 H22=>
opP ((zpa P .neq 23 false).f t13 t15) fun t16=>
opP (zna t10 (.bool true) t16) fun t17_1=>
wIf t17_1 (
opP (zna t17_1 (.bool true) undef) fun t24_1=>
opP (zna t24_1 (.bool true) undef) fun t31_1=>
opP (zna t31_1 (.bool true) undef) fun t38_1=>
opP (zna t38_1 (.bool true) undef) fun t47_1=>
wIf t47_1 (
K (.bool false) H22) (
J [t2,t3,(.bool false)] H22)) (
opP (zfa 2 t2) fun t19=>
opW (zda t19 H22) fun t20 H31=>
opP (zfa 2 t3) fun t21=>
opW (zda t21 H31) fun t22 H34=>
opP ((zpa P .neq 3 false).f t20 t22) fun t23=>
opP (zna t17_1 (.bool true) t23) fun t24_2=>
wIf t24_2 (
opP (zna t24_2 (.bool true) undef) fun t31_2=>
opP (zna t31_2 (.bool true) undef) fun t38_2=>
opP (zna t38_2 (.bool true) undef) fun t47_2=>
wIf t47_2 (
K (.bool false) H34) (
J [t2,t3,(.bool false)] H34)) (
opP (zfa 3 t2) fun t26=>
opW (zda t26 H34) fun t27 H42=>
opP (zfa 3 t3) fun t28=>
opW (zda t28 H42) fun t29 H45=>
opP ((zpa P .neq 3 false).f t27 t29) fun t30=>
opP (zna t24_2 (.bool true) t30) fun t31_3=>
wIf t31_3 (
opP (zna t31_3 (.bool true) undef) fun t38_3=>
opP (zna t38_3 (.bool true) undef) fun t47_3=>
wIf t47_3 (
K (.bool false) H45) (
J [t2,t3,(.bool false)] H45)) (
opP (zfa 4 t2) fun t33=>
opW (zka 32 t33 H45) fun t34 H52=>
opP (zfa 4 t3) fun t35=>
opW (zka 32 t35 H52) fun t36 H55=>
opP ((zpa P .neq 49 false).f t34 t36) fun t37=>
opP (zna t31_3 (.bool true) t37) fun t38_4=>
wIf t38_4 (
opP (zna t38_4 (.bool true) undef) fun t47_4=>
wIf t47_4 (
K (.bool false) H55) (
J [t2,t3,(.bool false)] H55)) (
opP (zfa 36 t2) fun t40=>
opW (zda t40 H55) fun t41 H61=>
opW (lenSl t41 H61) fun t42 H63=>
opP (zfa 36 t3) fun t43=>
opW (zda t43 H63) fun t44 H66=>
opW (lenSl t44 H66) fun t45 H68=>
opP ((zpa P .neq 3 false).f t42 t45) fun t46=>
opP (zna t38_4 (.bool true) t46) fun t47_5=>
wIf t47_5 (
K (.bool false) H68) (
J [t2,t3,(.bool false)] H68))))))) (fun l H72=>
opP (zfa 36 (nth l 0)) fun t48=>
opW (zda t48 H72) fun t49 H75=>
opW (lenSl t49 H75) fun t50 H77=>
zHb P true 66 zCl 16 [(nth l 0),(nth l 1),(nth l 2),t50,(.int .i64 0)] H77 (fun id l_1 H79=>
cond (Nat.beq id 0) (
K (.bool true) H79) (
False)) (fun l_1 H79=>
K (nth l_1 0) H79))
theorem zIs{t0 t1:Value}{H:Heap}{K:VH}(h:zor t0 t1 H K):wCall P zUd [t0,t1] H K:=zga rfl (Eq.mpr (by kernel_rfl) h)
def zte(t0:Value)(H:Heap)(K:VH):Prop:=
opP (zea t0) fun t4=>
opP (zfa 2 t4) fun t5=>
opW (zda t5 H) fun t6 H3=>
K t6 H3
theorem zlg{t0:Value}{H:Heap}{K:VH}(h:zte t0 H K):wCall P zgb [t0] H K:=zga rfl (Eq.mpr (by kernel_rfl) h)
def zEe(t0:Value)(H:Heap)(K:VH):Prop:=
opP ((zpa P .eql 22 true).f t0 (.slice none 0 0)) fun t4=>
wIf t4 (
K (.slice none 0 0) H) (
opW ((zla P 22 0).f [] H) fun t5 H2=>
opW (zsa 1 1 t5 t0 H2) fun t7 H4=>
K t7 H4)
theorem zbh{t0:Value}{H:Heap}{K:VH}(h:zEe t0 H K):wCall P zWb [t0] H K:=zga rfl (Eq.mpr (by kernel_rfl) h)
def zWd(t0:Value)(H:Heap)(K:VH):Prop:=
opP (zea t0) fun t4=>
opP (zfa 3 t4) fun t5=>
opW (zda t5 H) fun t6 H3=>
wIf t6 (
K (.int .i64 0) H3) (
opP (zea t0) fun t8=>
opP (zfa 0 t8) fun t9=>
opW (zda t9 H3) fun t10 H7=>
opW (lenSl t10 H7) fun t11 H9=>
opP (zea t0) fun t13=>
opP (zfa 2 t13) fun t14=>
opW (zda t14 H9) fun t15 H13=>
opP ((zpa P .sub 3 false).f t11 t15) fun t16=>
K t16 H13)
theorem zYf{t0:Value}{H:Heap}{K:VH}(h:zWd t0 H K):wCall P zlc [t0] H K:=zga rfl (Eq.mpr (by kernel_rfl) h)
def zId(t0 t1:Value)(H:Heap)(K:VH):Prop:=
opP (zea t0) fun t6=>
opP (zfa 1 t6) fun t7=>
opW (zda t7 H) fun t8 H3=>
opP ((zpa P .add 3 false).f t8 t1) fun t10=>
opP (zea t0) fun t12=>
opP (zfa 0 t12) fun t13=>
opW (zda t13 H3) fun t14 H8=>
opW (lenSl t14 H8) fun t15 H10=>
opP ((zpa P .rem 3 false).f t10 t15) fun t16=>
K t16 H10
theorem zIf{t0 t1:Value}{H:Heap}{K:VH}(h:zId t0 t1 H K):wCall P zEb [t0,t1] H K:=zga rfl (Eq.mpr (by kernel_rfl) h)
def zqh(t0:Value)(H:Heap)(K:VH):Prop:=
opP (zea t0) fun t4=>
opP (zfa 6 t4) fun t5=>
opW (zda t5 H) fun t6 H3=>
wCall P zhb [t6] H3 fun t7 H5=>
opP ((zpa P .eql 3 true).f t7 (.int .i64 0)) fun t8=>
wIf t8 (
K (.bool false) H5) (
opP (zea t0) fun t10=>
opP (zfa 44 t10) fun t11=>
opW (zda t11 H5) fun t12 H10=>
wCall P zzd [t12] H10 fun t13 H12=>
opP (unA .not t13) fun t14=>
wIf t14 (
opP (zea t0) fun t16=>
opP (zfa 46 t16) fun t17=>
opW (zha 1 t17 (.int .i64 153) H12) fun u H17=>
K (.bool true) H17) (
opP (zea t0) fun t19=>
opP (zfa 6 t19) fun t20=>
opW (zda t20 H12) fun t21 H21=>
opP ((zAa P 108).f []) fun t22=>
wCall P zOa [t21,(.iface 108 t22)] H21 fun t24 H24=>
opP (zea t0) fun t26=>
opP (zfa 45 t26) fun t27=>
opW (zha 1 t27 (.bool true) H24) fun u_1 H28=>
K (.bool true) H28))
theorem zXj{t0:Value}{H:Heap}{K:VH}(h:zqh t0 H K):wCall P zMc [t0] H K:=zga rfl (Eq.mpr (by kernel_rfl) h)
def zue(t0:Value)(H:Heap)(K:VH):Prop:=
opP (zea t0) fun t4=>
opP (zfa 3 t4) fun t5=>
opW (zda t5 H) fun t6 H3=>
wIf t6 (
K (.int .i64 0) H3) (
opP (zea t0) fun t8=>
opP (zfa 0 t8) fun t9=>
opW (zda t9 H3) fun t10 H7=>
opW (lenSl t10 H7) fun t11 H9=>
opP (zea t0) fun t13=>
opP (zfa 2 t13) fun t14=>
opW (zda t14 H9) fun t15 H13=>
opP ((zpa P .sub 3 false).f t11 t15) fun t16=>
K t16 H13)
theorem zmg{t0:Value}{H:Heap}{K:VH}(h:zue t0 H K):wCall P zhb [t0] H K:=zga rfl (Eq.mpr (by kernel_rfl) h)
end
end J
set_option maxRecDepth 100000
namespace J
open Go Go.Ab
noncomputable section
def zXd(t0:Value)(H:Heap)(K:VH):Prop:=
zCb (zc P 35) H fun t2 H1=>
wCall P znc [t0] H1 fun t9 H3=>
opP (zee 0 t9) fun t10=>
opP (zee 1 t9) fun t11=>
zCb (zc P 35) H3 fun t4 H7=>
opW (zha 2 t4 t10 H7) fun u H9=>
wIf t11 (
zCb (zc P 35) H9 fun t6 H11=>
opP (zea t0) fun t14=>
opP (zfa 0 t14) fun t15=>
opW (zda t15 H11) fun t16 H15=>
opP (zea t0) fun t18=>
opP (zfa 1 t18) fun t19=>
opW (zda t19 H15) fun t20 H19=>
opW (zka 2 t6 H19) fun t21 H21=>
opP (zQc 2 t16 t20) fun t22=>
opW (zha 2 t22 t21 H21) fun u_1 H24=>
wCall P zEb [t0,(.int .i64 1)] H24 fun t25 H26=>
opP (zea t0) fun t26=>
opP (zfa 1 t26) fun t27=>
opW (zha 1 t27 t25 H26) fun u_2 H30=>
opP (zea t0) fun t29=>
opP (zfa 2 t29) fun t30=>
opW (zda t30 H30) fun t31 H34=>
opP ((zpa P .sub 3 true).f t31 (.int .i64 1)) fun t32=>
opP (zea t0) fun t33=>
opP (zfa 2 t33) fun t34=>
opW (zha 1 t34 t32 H34) fun u_3 H39=>
opW (zka 2 t4 H39) fun t35 H41=>
opW (zha 2 t2 t35 H41) fun u_4 H43=>
opW (zka 2 t2 H43) fun r _=>
K (.tuple [r,t11].toArray) H43) (
opW (zka 2 t4 H9) fun t35_1 H46=>
opW (zha 2 t2 t35_1 H46) fun u_5 H48=>
opW (zka 2 t2 H48) fun r_1 _=>
K (.tuple [r_1,t11].toArray) H48)
theorem zZf{t0:Value}{H:Heap}{K:VH}(h:zXd t0 H K):wCall P zmc [t0] H K:=zga rfl (Eq.mpr (by kernel_rfl) h)
def zLg(t0 t1:Value)(H:Heap)(K:VH):Prop:=
opP (zea t0) fun t10=>
opP (zfa 0 t10) fun t11=>
opW (zda t11 H) fun t12 H3=>
wCall P zQk [t12,t1] H3 fun t14 H5=>
opP (zee 0 t14) fun t15=>
opP (zee 1 t14) fun t16=>
opP (zee 2 t14) fun t17=>
zCb (zc P 52) H5 fun t4 H10=>
opW (zha 37 t4 t15 H10) fun u H12=>
opP ((zpa P .neq 67 true).f t17 (.int .i64 0)) fun t19=>
wIf t19 (
opP (zea t0) fun t21=>
opP (zfa 5 t21) fun t22=>
opW (zda t22 H12) fun t23 H17=>
opP ((zAa P 103).f [(0,(.int .i64 (-1)))]) fun t24=>
wCall P zOa [t23,(.iface 103 t24)] H17 fun t26 H20=>
K (.tuple [].toArray) H20) (
opW (zka 37 t4 H12) fun t27 H22=>
opP (zea t0) fun t29=>
opP (zfa 1 t29) fun t30=>
opW (zka 3 t30 H22) fun t31 H26=>
wCall P zUi [t27,t31] H26 fun t32 H28=>
opP ((zpa P .neq 67 true).f t32 (.int .i64 0)) fun t34=>
wIf t34 (
opP (zea t0) fun t37=>
opP (zfa 46 t37) fun t38=>
opW (zha 1 t38 t32 H28) fun u_1 H33=>
K (.tuple [].toArray) H33) (
opW (zka 37 t4 H28) fun t40 H35=>
opP (zea t0) fun t41=>
opP (zfa 7 t41) fun t42=>
opW (zha 37 t42 t40 H35) fun u_2 H39=>
opW (zka 37 t4 H39) fun t45 H41=>
wCall P zRk [t45] H41 fun t46 H43=>
opP (zee 0 t46) fun t47=>
opP (zee 1 t46) fun t48=>
opP (zea t0) fun t49=>
opP (zfa 44 t49) fun t50=>
opW (zha 1 t50 t47 H43) fun u_3 H49=>
opP (zea t0) fun t52=>
opP (zfa 5 t52) fun t53=>
opW (zda t53 H49) fun t54 H53=>
opW (zka 37 t4 H53) fun t56 H55=>
opP ((zAa P 105).f [(0,t16),(1,t56)]) fun t57=>
wCall P zOa [t54,(.iface 105 t57)] H55 fun t59 H58=>
opP (zea t0) fun t61=>
opP (zfa 6 t61) fun t62=>
opW (zda t62 H58) fun t63 H62=>
opW (zka 37 t4 H62) fun t65 H64=>
opP ((zAa P 105).f [(0,t16),(1,t65)]) fun t66=>
wCall P zOa [t63,(.iface 105 t66)] H64 fun t68 H67=>
K (.tuple [].toArray) H67))
theorem zmj{t0 t1:Value}{H:Heap}{K:VH}(h:zLg t0 t1 H K):wCall P zzc [t0,t1] H K:=zga rfl (Eq.mpr (by kernel_rfl) h)
def zMg(t0 t1:Value)(H:Heap)(K:VH):Prop:=
zCb (zza t1) H fun t3 H1=>
opP (zea t0) fun t5=>
opP (zfa 44 t5) fun t6=>
opW (zda t6 H1) fun t7 H5=>
opP (zfa 0 t3) fun t8=>
opW (zda t8 H5) fun t9 H8=>
opP (zfa 1 t3) fun t10=>
opW (zda t10 H8) fun t11 H11=>
wCall P zQd [t7,t9,t11] H11 fun t12 H13=>
opP ((zpa P .neq 67 true).f t12 (.int .i64 0)) fun t13=>
wIf t13 (
opP (zea t0) fun t15=>
opP (zfa 5 t15) fun t16=>
opW (zda t16 H13) fun t17 H18=>
opP (zfa 0 t3) fun t18=>
opW (zda t18 H18) fun t19 H21=>
opP ((zAa P 103).f [(0,t19)]) fun t20=>
wCall P zOa [t17,(.iface 103 t20)] H21 fun t22 H24=>
K (.tuple [].toArray) H24) (
opP (zea t0) fun t24=>
opP (zfa 6 t24) fun t25=>
opW (zda t25 H13) fun t26 H28=>
opP (zfa 0 t3) fun t27=>
opW (zda t27 H28) fun t28 H31=>
opP (zfa 1 t3) fun t29=>
opW (zda t29 H31) fun t30 H34=>
opP ((zAa P 106).f [(0,t28),(1,t30)]) fun t31=>
wCall P zOa [t26,(.iface 106 t31)] H34 fun t33 H37=>
K (.tuple [].toArray) H37)
theorem znj{t0 t1:Value}{H:Heap}{K:VH}(h:zMg t0 t1 H K):wCall P zAc [t0,t1] H K:=zga rfl (Eq.mpr (by kernel_rfl) h)
def zve(t0:Value)(H:Heap)(K:VH):Prop:=
opP (zea t0) fun t6=>
opP (zfa 2 t6) fun t7=>
opW (zda t7 H) fun t8 H3=>
opP ((zpa P .eql 3 true).f t8 (.int .i64 0)) fun t9=>
wIf t9 (
K (.tuple [.nilIface,(.bool false)].toArray) H3) (
opP (zea t0) fun t12=>
opP (zfa 0 t12) fun t13=>
opW (zda t13 H3) fun t14 H8=>
opP (zea t0) fun t16=>
opP (zfa 1 t16) fun t17=>
opW (zda t17 H8) fun t18 H12=>
opP (zQc 1 t14 t18) fun t19=>
opW (zda t19 H12) fun t20 H15=>
K (.tuple [t20,(.bool true)].toArray) H15)
theorem zng{t0:Value}{H:Heap}{K:VH}(h:zve t0 H K):wCall P zvc [t0] H K:=zga rfl (Eq.mpr (by kernel_rfl) h)
def zYd(t0 t1:Value)(H:Heap)(K:VH):Prop:=
opP (zea t0) fun t6=>
opP (zfa 1 t6) fun t7=>
opW (zda t7 H) fun t8 H3=>
opP ((zpa P .add 3 false).f t8 t1) fun t10=>
opP (zea t0) fun t12=>
opP (zfa 0 t12) fun t13=>
opW (zda t13 H3) fun t14 H8=>
opW (lenSl t14 H8) fun t15 H10=>
opP ((zpa P .rem 3 false).f t10 t15) fun t16=>
K t16 H10
theorem zag{t0 t1:Value}{H:Heap}{K:VH}(h:zYd t0 t1 H K):wCall P zLb [t0,t1] H K:=zga rfl (Eq.mpr (by kernel_rfl) h)
def zsp(t0:Value)(H:Heap)(K:VH):Prop:=
zCb (zza t0) H fun t1 H1=>
zIb (fun J=>
opP (zfa 0 t1) fun t3=>
opW (zda t3 H1) fun t4 H5=>
wCall P zhf [t4] H5 fun t5 H7=>
opP ((zpa P .neq 3 true).f t5 (.int .i64 0)) fun t6=>
wIf t6 (
opP (zna t6 (.bool true) undef) fun t11=>
opP (zna t11 (.bool true) undef) fun t16=>
opP (zna t16 (.bool true) undef) fun t21=>
opP (zna t21 (.bool true) undef) fun t26=>
wIf t26 (
K (.bool false) H7) (
J [t1] H7)) (
opP (zfa 1 t1) fun t8=>
opW (zda t8 H7) fun t9 H15=>
opP ((zpa P .lss 23 true).f t9 (.int .u64 1)) fun t10=>
opP (zna t6 (.bool true) t10) fun t11_1=>
wIf t11_1 (
opP (zna t11_1 (.bool true) undef) fun t16_1=>
opP (zna t16_1 (.bool true) undef) fun t21_1=>
opP (zna t21_1 (.bool true) undef) fun t26_1=>
wIf t26_1 (
K (.bool false) H15) (
J [t1] H15)) (
opP (zfa 1 t1) fun t13=>
opW (zda t13 H15) fun t14 H23=>
opP ((zpa P .gtr 23 true).f t14 (.int .u64 281474976710656)) fun t15=>
opP (zna t11_1 (.bool true) t15) fun t16_2=>
wIf t16_2 (
opP (zna t16_2 (.bool true) undef) fun t21_2=>
opP (zna t21_2 (.bool true) undef) fun t26_2=>
wIf t26_2 (
K (.bool false) H23) (
J [t1] H23)) (
opP (zfa 2 t1) fun t18=>
opW (zda t18 H23) fun t19 H30=>
opP ((zpa P .lss 3 true).f t19 (.int .i64 1)) fun t20=>
opP (zna t16_2 (.bool true) t20) fun t21_3=>
wIf t21_3 (
opP (zna t21_3 (.bool true) undef) fun t26_3=>
wIf t26_3 (
K (.bool false) H30) (
J [t1] H30)) (
opP (zfa 2 t1) fun t23=>
opW (zda t23 H30) fun t24 H36=>
opP ((zpa P .gtr 3 true).f t24 (.int .i64 65536)) fun t25=>
opP (zna t21_3 (.bool true) t25) fun t26_4=>
wIf t26_4 (
K (.bool false) H36) (
J [t1] H36)))))) (fun l H40=>
zIb (fun J_1=>
opP (zfa 3 (nth l 0)) fun t27=>
opW (zda t27 H40) fun t28 H44=>
opP ((zpa P .lss 3 true).f t28 (.int .i64 64)) fun t29=>
wIf t29 (
opP (zna t29 (.bool true) undef) fun t34=>
opP (zna t34 (.bool true) undef) fun t40=>
wIf t40 (
K (.bool false) H44) (
J_1 [(nth l 0)] H44)) (
opP (zfa 3 (nth l 0)) fun t31=>
opW (zda t31 H44) fun t32 H50=>
opP ((zpa P .gtr 3 true).f t32 (.int .i64 1024)) fun t33=>
opP (zna t29 (.bool true) t33) fun t34_1=>
wIf t34_1 (
opP (zna t34_1 (.bool true) undef) fun t40_1=>
wIf t40_1 (
K (.bool false) H50) (
J_1 [(nth l 0)] H50)) (
opP (zfa 3 (nth l 0)) fun t36=>
opW (zda t36 H50) fun t37 H56=>
opP ((zpa P .rem 3 true).f t37 (.int .i64 64)) fun t38=>
opP ((zpa P .neq 3 true).f t38 (.int .i64 0)) fun t39=>
opP (zna t34_1 (.bool true) t39) fun t40_2=>
wIf t40_2 (
K (.bool false) H56) (
J_1 [(nth l 0)] H56)))) (fun l_1 H61=>
opP (zfa 36 (nth l_1 0)) fun t41=>
opW (zda t41 H61) fun t42 H64=>
opW (lenSl t42 H64) fun t43 H66=>
opP ((zpa P .leq 3 true).f t43 (.int .i64 64)) fun t44=>
wIf t44 (
opP (zfa 36 (nth l_1 0)) fun t46=>
opW (zda t46 H66) fun t47 H70=>
opW (lenSl t47 H70) fun t48 H72=>
opP (zfa 2 (nth l_1 0)) fun t49=>
opW (zda t49 H72) fun t50 H75=>
opP (zfa 3 (nth l_1 0)) fun t51=>
opW (zda t51 H75) fun t52 H78=>
wCall P zGf [t50,t52] H78 fun t53 H80=>
zSa (zRa H78 H80) (zBa [t46])∧(opP ((zpa P .eql 3 false).f t48 t53) fun t54=>
opP (zna t44 t54 (.bool false)) fun t55=>
K t55 H80)) (
opP (zna t44 undef (.bool false)) fun t55_1=>
K t55_1 H66)))
theorem zxq{t0:Value}{H:Heap}{K:VH}(h:zsp t0 H K):wCall P zNc [t0] H K:=zga rfl (Eq.mpr (by kernel_rfl) h)
noncomputable abbrev zpk:Code:=zMb P zme 0
def zqk(l:List Value)(H:Heap)(N:LN)(Qx:LX)(Qr:LN):Prop:=
opP ((zpa P .lss 3 false).f (nth l 4) (nth l 3)) fun t41=>
wIf t41 (
opP (zQc 32 (nth l 2) (nth l 4)) fun t42=>
opW (zka 32 t42 H) fun t43 H3=>
zCb (zc P 49) H3 fun t5 H5=>
opW (zha 32 t5 t43 H5) fun u H7=>
opP (zJb 32 1 t5 none none none H7) fun t45=>
opW (zsa 1 1 (nth l 1) t45 H7) fun t46 H10=>
opP ((zpa P .add 3 true).f (nth l 4) (.int .i64 1)) fun t47=>
N [(nth l 0),t46,(nth l 2),(nth l 3),t47] H10) (
Qx 0 [(nth l 0),(nth l 1)] H)
theorem zEl:LpI P 49 zpk 12 zqk:=.mk (by kernel_rfl) fun l H N Qx Qr=>by kernel_rfl
def ztp(t0:Value)(H:Heap)(K:VH):Prop:=
zCb (zza t0) H fun t1 H1=>
opW ((zla P 22 0).f [] H1) fun t6 H3=>
opW (zka 37 t1 H3) fun t7 H5=>
wCall P zNc [t7] H5 fun t8 H7=>
opP (unA .not t8) fun t9=>
wIf t9 (
K t6 H7) (
opP (zfa 0 t1) fun t12=>
opW (zda t12 H7) fun t13 H11=>
wCall P zVi [t13] H11 fun t14 H13=>
opW (zsa 1 1 t6 t14 H13) fun t15 H15=>
opP (zfa 1 t1) fun t17=>
opW (zda t17 H15) fun t18 H18=>
wCall P zrc [t18,(.int .i64 8)] H18 fun t19 H20=>
opW (zsa 1 1 t15 t19 H20) fun t20 H22=>
opP (zfa 2 t1) fun t22=>
opW (zda t22 H22) fun t23 H25=>
opW (zSb .u64 t23 H25) fun t24 H27=>
wCall P zrc [t24,(.int .i64 4)] H27 fun t25 H29=>
opW (zsa 1 1 t20 t25 H29) fun t26 H31=>
opP (zfa 3 t1) fun t28=>
opW (zda t28 H31) fun t29 H34=>
opW (zSb .u64 t29 H34) fun t30 H36=>
wCall P zrc [t30,(.int .i64 2)] H36 fun t31 H38=>
opW (zsa 1 1 t26 t31 H38) fun t32 H40=>
opP (zfa 4 t1) fun t34=>
opP (zJb 32 1 t34 none none none H40) fun t35=>
opW (zsa 1 1 t32 t35 H40) fun t36 H44=>
opP (zfa 36 t1) fun t37=>
opW (zda t37 H44) fun t38 H47=>
opW (lenSl t38 H47) fun t39 H49=>
zHb P true 49 zpk 12 [(.slice none 0 0),t36,t38,t39,(.int .i64 0)] H49 (fun id l H51=>
cond (Nat.beq id 0) (
K (nth l 1) H51) (
False)) (fun l H51=>
K (nth l 0) H51))
theorem zyq{t0:Value}{H:Heap}{K:VH}(h:ztp t0 H K):wCall P zme [t0] H K:=zga rfl (Eq.mpr (by kernel_rfl) h)
def zCn(t0 t1:Value)(H:Heap)(K:VH):Prop:=
wCall P zVh [t0,t1] H fun t8 H1=>
zCb (zc P 49) H1 fun t5 H3=>
opW (zha 32 t5 t8 H3) fun u H5=>
opW ((zla P 22 0).f [] H5) fun t9 H7=>
opW (zsa 1 1 t9 t1 H7) fun t11 H9=>
opP (zJb 32 1 t5 none none none H9) fun t12=>
zLi (zBa [t9,t1]) (zBa [t5])∧znq (zBa [t5]) H7.next H9.next∧(znq (zBa [t5]) H5.next H7.next∧(opW (zsa 1 1 t11 t12 H9) fun t13 H12=>
K t13 H12))
theorem zup{t0 t1:Value}{H:Heap}{K:VH}(h:zCn t0 t1 H K):wCall P zcf [t0,t1] H K:=zga rfl (Eq.mpr (by kernel_rfl) h)
noncomputable abbrev zrk:Code:=zMb P zrc 0
def zsk(l:List Value)(H:Heap)(N:LN)(Qx:LX)(Qr:LN):Prop:=
wCall P zEg [(nth l 1)] H fun t10 H1=>
opP ((zpa P .lss 3 false).f (nth l 4) t10) fun t11=>
wIf t11 (
opP ((zpa P .rem 23 true).f (nth l 0) (.int .u64 256)) fun t16=>
opW (zSb .u8 t16 H1) fun t17 H5=>
opW ((zla P 22 1).f [(0,t17)] H5) fun t18 H7=>
opW (zsa 1 1 (nth l 3) t18 H7) fun t19 H9=>
opP ((zpa P .quo 23 true).f (nth l 0) (.int .u64 256)) fun t21=>
opP ((zpa P .add 3 true).f (nth l 4) (.int .i64 1)) fun t13=>
N [t21,(nth l 1),(nth l 2),t19,t13] H9) (
Qx 0 [(nth l 2),(nth l 3)] H1)
theorem zFl:LpI P 23 zrk 48 zsk:=.mk (by kernel_rfl) fun l H N Qx Qr=>by kernel_rfl
def zvp(t0 t1:Value)(H:Heap)(K:VH):Prop:=
opW ((zla P 22 0).f [] H) fun t7 H1=>
zHb P true 23 zrk 48 [t0,t1,(.slice none 0 0),t7,(.int .i64 0)] H1 (fun id l H3=>
cond (Nat.beq id 0) (
K (nth l 1) H3) (
False)) (fun l H3=>
K (nth l 0) H3)
theorem zzq{t0 t1:Value}{H:Heap}{K:VH}(h:zvp t0 t1 H K):wCall P zrc [t0,t1] H K:=zga rfl (Eq.mpr (by kernel_rfl) h)
noncomputable abbrev zGl:Code:=zMb P zff 0
def zHl(l:List Value)(H:Heap)(N:LN)(Qx:LX)(Qr:LN):Prop:=
opP ((zpa P .lss 3 false).f (nth l 4) (nth l 3)) fun t10=>
wIf t10 (
opP (zQc 3 (nth l 2) (nth l 4)) fun t11=>
opW (zka 3 t11 H) fun t12 H3=>
zCb (zc P 139) H3 fun t5 H5=>
opW (zha 3 t5 t12 H5) fun u H7=>
opP (zfa 2 t5) fun t13=>
opW (zda t13 H7) fun t14 H10=>
wIf t14 (
opP (zfa 1 t5) fun t16=>
opW (zda t16 H10) fun t17 H13=>
opP ((zpa P .add 9 false).f (nth l 1) t17) fun t18=>
opP ((zpa P .add 3 true).f (nth l 4) (.int .i64 1)) fun t27=>
N [(nth l 0),t18,(nth l 2),(nth l 3),t27] H13) (
opP (zfa 0 t5) fun t20=>
opW (zda t20 H10) fun t21 H18=>
opW (zSb .i32 t21 H18) fun t22 H20=>
wCall P zmh [t22] H20 fun t23 H22=>
opW (zSb .i64 t23 H22) fun t24 H24=>
wCall P zSk [t24] H24 fun t25 H26=>
opP ((zpa P .add 9 false).f (nth l 1) t25) fun t26=>
opP ((zpa P .add 3 true).f (nth l 4) (.int .i64 1)) fun t27_1=>
N [(nth l 0),t26,(nth l 2),(nth l 3),t27_1] H26)) (
Qx 0 [(nth l 0),(nth l 1)] H)
theorem zQm:LpI P 29 zGl 12 zHl:=.mk (by kernel_rfl) fun l H N Qx Qr=>by kernel_rfl
def zpr(t0:Value)(H:Heap)(K:VH):Prop:=
wCall P zoe [t0] H fun t7 H1=>
opW (lenSl t7 H1) fun t8 H3=>
zHb P true 29 zGl 12 [(.string ⟨#[]⟩),(.string ⟨#[]⟩),t7,t8,(.int .i64 0)] H3 (fun id l H5=>
cond (Nat.beq id 0) (
K (nth l 1) H5) (
False)) (fun l H5=>
K (nth l 0) H5)
theorem zJs{t0:Value}{H:Heap}{K:VH}(h:zpr t0 H K):wCall P zff [t0] H K:=zga rfl (Eq.mpr (by kernel_rfl) h)
def zwp(H:Heap)(K:VH):Prop:=
zCb (zc P 114) H fun t0 H1=>
opP ((zAa P 114).f [(0,(.int .u64 1779033703)),(1,(.int .u64 3144134277)),(2,(.int .u64 1013904242)),(3,(.int .u64 2773480762)),(4,(.int .u64 1359893119)),(5,(.int .u64 2600822924)),(6,(.int .u64 528734635)),(7,(.int .u64 1541459225))]) fun t1=>
opW (zha 8 t0 t1 H1) fun u H4=>
opW (zka 8 t0 H4) fun r _=>
K r H4
theorem zAq{H:Heap}{K:VH}(h:zwp  H K):wCall P zUh [] H K:=zga rfl (Eq.mpr (by kernel_rfl) h)
def zDn(H:Heap)(K:VH):Prop:=
zCb (zc P 116) H fun t0 H1=>
opP ((zAa P 116).f [(0,(.int .u64 1116352408)),(1,(.int .u64 1899447441)),(2,(.int .u64 3049323471)),(3,(.int .u64 3921009573)),(4,(.int .u64 961987163)),(5,(.int .u64 1508970993)),(6,(.int .u64 2453635748)),(7,(.int .u64 2870763221)),(8,(.int .u64 3624381080)),(9,(.int .u64 310598401)),(10,(.int .u64 607225278)),(11,(.int .u64 1426881987)),(12,(.int .u64 1925078388)),(13,(.int .u64 2162078206)),(14,(.int .u64 2614888103)),(15,(.int .u64 3248222580)),(16,(.int .u64 3835390401)),(17,(.int .u64 4022224774)),(18,(.int .u64 264347078)),(19,(.int .u64 604807628)),(20,(.int .u64 770255983)),(21,(.int .u64 1249150122)),(22,(.int .u64 1555081692)),(23,(.int .u64 1996064986)),(24,(.int .u64 2554220882)),(25,(.int .u64 2821834349)),(26,(.int .u64 2952996808)),(27,(.int .u64 3210313671)),(28,(.int .u64 3336571891)),(29,(.int .u64 3584528711)),(30,(.int .u64 113926993)),(31,(.int .u64 338241895)),(32,(.int .u64 666307205)),(33,(.int .u64 773529912)),(34,(.int .u64 1294757372)),(35,(.int .u64 1396182291)),(36,(.int .u64 1695183700)),(37,(.int .u64 1986661051)),(38,(.int .u64 2177026350)),(39,(.int .u64 2456956037)),(40,(.int .u64 2730485921)),(41,(.int .u64 2820302411)),(42,(.int .u64 3259730800)),(43,(.int .u64 3345764771)),(44,(.int .u64 3516065817)),(45,(.int .u64 3600352804)),(46,(.int .u64 4094571909)),(47,(.int .u64 275423344)),(48,(.int .u64 430227734)),(49,(.int .u64 506948616)),(50,(.int .u64 659060556)),(51,(.int .u64 883997877)),(52,(.int .u64 958139571)),(53,(.int .u64 1322822218)),(54,(.int .u64 1537002063)),(55,(.int .u64 1747873779)),(56,(.int .u64 1955562222)),(57,(.int .u64 2024104815)),(58,(.int .u64 2227730452)),(59,(.int .u64 2361852424)),(60,(.int .u64 2428436474)),(61,(.int .u64 2756734187)),(62,(.int .u64 3204031479)),(63,(.int .u64 3329325298))]) fun t1=>
opW (zha 64 t0 t1 H1) fun u H4=>
opW (zka 64 t0 H4) fun r _=>
K r H4
theorem zxp{H:Heap}{K:VH}(h:zDn  H K):wCall P zUg [] H K:=zga rfl (Eq.mpr (by kernel_rfl) h)
def zyp(t0 t1:Value)(H:Heap)(K:VH):Prop:=
opP ((zpa P .shr 23 false).f t0 t1) fun t7=>
opP ((zpa P .sub 23 true).f (.int .u64 32) t1) fun t10=>
opP ((zpa P .shl 23 false).f t0 t10) fun t11=>
opP ((zpa P .or 23 false).f t7 t11) fun t12=>
opP ((zpa P .rem 23 true).f t12 (.int .u64 4294967296)) fun t13=>
K t13 H
theorem zBq{t0 t1:Value}{H:Heap}{K:VH}(h:zyp t0 t1 H K):wCall P zub [t0,t1] H K:=zga rfl (Eq.mpr (by kernel_rfl) h)
def zzp(t0 t1:Value)(H:Heap)(K:VH):Prop:=
zIb (fun J=>
opP ((zpa P .lss 3 true).f t0 (.int .i64 1)) fun t7=>
wIf t7 (
opP (zna t7 (.bool true) undef) fun t11=>
wIf t11 (
K (.int .i64 0) H) (
J [t0,t1] H)) (
opP ((zpa P .lss 3 true).f t1 (.int .i64 1)) fun t10=>
opP (zna t7 (.bool true) t10) fun t11_1=>
wIf t11_1 (
K (.int .i64 0) H) (
J [t0,t1] H))) (fun l H6=>
opP ((zpa P .quo 3 false).f (nth l 0) (nth l 1)) fun t14=>
opP ((zpa P .rem 3 false).f (nth l 0) (nth l 1)) fun t17=>
opP ((zpa P .gtr 3 true).f t17 (.int .i64 0)) fun t18=>
wIf t18 (
opP ((zpa P .add 3 true).f t14 (.int .i64 1)) fun t20=>
K t20 H6) (
K t14 H6))
theorem zCq{t0 t1:Value}{H:Heap}{K:VH}(h:zzp t0 t1 H K):wCall P zGf [t0,t1] H K:=zga rfl (Eq.mpr (by kernel_rfl) h)
def zrh(t0:Value)(H:Heap)(K:VH):Prop:=
opP (zea t0) fun t4=>
opP (zfa 38 t4) fun t5=>
opW (zda t5 H) fun t6 H3=>
opP (zea t0) fun t8=>
opP (zfa 0 t8) fun t9=>
opP (zfa 36 t9) fun t10=>
opW (zda t10 H3) fun t11 H8=>
opW (lenSl t11 H8) fun t12 H10=>
opP ((zpa P .eql 3 false).f t6 t12) fun t13=>
K t13 H10
theorem zYj{t0:Value}{H:Heap}{K:VH}(h:zrh t0 H K):wCall P zhc [t0] H K:=zga rfl (Eq.mpr (by kernel_rfl) h)
def zsh(t0:Value)(H:Heap)(K:VH):Prop:=
opP (zea t0) fun t4=>
opP (zfa 38 t4) fun t5=>
opW (zda t5 H) fun t6 H3=>
K t6 H3
theorem zZj{t0:Value}{H:Heap}{K:VH}(h:zsh t0 H K):wCall P zPd [t0] H K:=zga rfl (Eq.mpr (by kernel_rfl) h)
def zHc(t0:Value)(H:Heap)(K:VH):Prop:=
opP ((zpa P .eql 50 true).f t0 (.slice none 0 0)) fun t4=>
wIf t4 (
K (.slice none 0 0) H) (
opW ((zla P 50 0).f [] H) fun t5 H2=>
opW (zsa 32 32 t5 t0 H2) fun t7 H4=>
K t7 H4)
theorem zwe{t0:Value}{H:Heap}{K:VH}(h:zHc t0 H K):wCall P zkb [t0] H K:=zga rfl (Eq.mpr (by kernel_rfl) h)
def zAp(t0:Value)(H:Heap)(K:VH):Prop:=
wCall P zgf [t0] H fun t4 H1=>
wIf t4 (
opP (zea t0) fun t7=>
opP (zfa 37 t7) fun t8=>
opW (zda t8 H1) fun t9 H5=>
wCall P zmb [t9] H5 fun t10 H7=>
opP (zea t0) fun t12=>
opP (zfa 0 t12) fun t13=>
opP (zfa 4 t13) fun t14=>
opW (zka 32 t14 H7) fun t15 H12=>
zSa (zRa H5 H7) (zBa [t14])∧(opP ((zpa P .eql 49 false).f t10 t15) fun t16=>
opP (zna t4 t16 (.bool false)) fun t17=>
K t17 H12)) (
opP (zna t4 undef (.bool false)) fun t17_1=>
K t17_1 H1)
theorem zDq{t0:Value}{H:Heap}{K:VH}(h:zAp t0 H K):wCall P zne [t0] H K:=zga rfl (Eq.mpr (by kernel_rfl) h)
def zqr(t0 t1:Value)(H:Heap)(K:VH):Prop:=
zCb (zza t1) H fun t3 H1=>
opW ((zla P 42 0).f [] H1) fun t5 H3=>
opW (zsa 41 144 t5 t0 H3) fun t7 H5=>
opW (zka 41 t3 H5) fun t8 H7=>
zLi (zBa [t5,t0]) (zBa [t3])∧znq (zBa [t3]) H3.next H5.next∧(znq (zBa [t3]) H1.next H3.next∧(opW ((zla P 42 1).f [(0,t8)] H7) fun t9 H9=>
opW (zsa 41 144 t7 t9 H9) fun t10 H11=>
K t10 H11))
theorem zKs{t0 t1:Value}{H:Heap}{K:VH}(h:zqr t0 t1 H K):wCall P zec [t0,t1] H K:=zga rfl (Eq.mpr (by kernel_rfl) h)
def zrr(t0 t1:Value)(H:Heap)(K:VH):Prop:=
opP (zea t0) fun t10=>
opP (zfa 0 t10) fun t11=>
opW (zda t11 H) fun t12 H3=>
wCall P zWi [t12,t1] H3 fun t14 H5=>
opP (zee 0 t14) fun t15=>
opP (zee 1 t14) fun t16=>
opP (zee 2 t14) fun t17=>
zCb (zc P 52) H5 fun t4 H10=>
opW (zha 37 t4 t15 H10) fun u H12=>
opP ((zpa P .neq 3 true).f t17 (.int .i64 0)) fun t19=>
wIf t19 (
opP (zea t0) fun t22=>
opP (zfa 5 t22) fun t23=>
opW (zda t23 H12) fun t24 H17=>
opP ((zAa P 54).f [(0,(.int .i64 1)),(1,(.int .i64 (-1)))]) fun t25=>
wCall P zec [t24,t25] H17 fun t26 H20=>
opP (zea t0) fun t27=>
opP (zfa 5 t27) fun t28=>
opW (zha 1 t28 t26 H20) fun u_1 H24=>
K (.tuple [].toArray) H24) (
opW (zka 37 t4 H12) fun t30 H26=>
opP (zea t0) fun t32=>
opP (zfa 1 t32) fun t33=>
opW (zka 3 t33 H26) fun t34 H30=>
wCall P zSh [t30,t34] H30 fun t35 H32=>
opP (zea t0) fun t36=>
opP (zfa 12 t36) fun t37=>
opW (zha 1 t37 t35 H32) fun u_2 H36=>
opP (zea t0) fun t39=>
opP (zfa 12 t39) fun t40=>
opW (zda t40 H36) fun t41 H40=>
opP ((zpa P .neq 3 true).f t41 (.int .i64 0)) fun t42=>
wIf t42 (
K (.tuple [].toArray) H40) (
opP (zea t0) fun t44=>
opP (zfa 9 t44) fun t45=>
opW (zha 1 t45 (.bool true) H40) fun u_3 H45=>
opP (zea t0) fun t47=>
opP (zfa 11 t47) fun t48=>
opW (zda t48 H45) fun t49 H49=>
opW (zka 37 t4 H49) fun t50 H51=>
opP (zea t49) fun t51=>
opP (zfa 0 t51) fun t52=>
opW (zha 37 t52 t50 H51) fun u_4 H55=>
opW (zka 37 t4 H55) fun t54 H57=>
opP ((zAa P 54).f [(0,(.int .i64 2)),(2,t16),(3,t54)]) fun t55=>
zCb (zc P 54) H57 fun t7 H60=>
opW (zha 41 t7 t55 H60) fun u_5 H62=>
opP (zea t0) fun t58=>
opP (zfa 5 t58) fun t59=>
opW (zda t59 H62) fun t60 H66=>
opW (zka 41 t7 H66) fun t61 H68=>
wCall P zec [t60,t61] H68 fun t62 H70=>
opP (zea t0) fun t63=>
opP (zfa 5 t63) fun t64=>
opW (zha 1 t64 t62 H70) fun u_6 H74=>
opP (zea t0) fun t67=>
opP (zfa 6 t67) fun t68=>
opW (zda t68 H74) fun t69 H78=>
opW (zka 41 t7 H78) fun t70 H80=>
wCall P zec [t69,t70] H80 fun t71 H82=>
opP (zea t0) fun t72=>
opP (zfa 6 t72) fun t73=>
opW (zha 1 t73 t71 H82) fun u_7 H86=>
K (.tuple [].toArray) H86))
theorem zLs{t0 t1:Value}{H:Heap}{K:VH}(h:zrr t0 t1 H K):wCall P zSi [t0,t1] H K:=zga rfl (Eq.mpr (by kernel_rfl) h)
def zsr(t0 t1 t2:Value)(H:Heap)(K:VH):Prop:=
zIb (fun J=>
wCall P zgf [t0] H fun t10 H2=>
wIf t10 (
opP (zna t10 (.bool true) undef) fun t18=>
wIf t18 (
K (.int .i64 151) H2) (
J [t0,t1,t2] H2)) (
opP (zea t0) fun t14=>
opP (zfa 38 t14) fun t15=>
opW (zda t15 H2) fun t16 H7=>
opP ((zpa P .neq 3 false).f t1 t16) fun t17=>
opP (zna t10 (.bool true) t17) fun t18_1=>
wIf t18_1 (
K (.int .i64 151) H7) (
J [t0,t1,t2] H7))) (fun l H11=>
opP (zea (nth l 0)) fun t21=>
opP (zfa 0 t21) fun t22=>
opW (zka 37 t22 H11) fun t23 H15=>
wCall P zQi [t23,(nth l 1)] H15 fun t25 H17=>
opP (zee 0 t25) fun t26=>
opP (zee 1 t25) fun t27=>
zIb (fun J_1=>
opW (lenSl (nth l 2) H17) fun t29 H22=>
opP ((zpa P .neq 3 false).f t29 t27) fun t31=>
wIf t31 (
opP (zna t31 (.bool true) undef) fun t44=>
wIf t44 (
K (.int .i64 152) H22) (
J_1 [(nth l 0),(nth l 2)] H22)) (
wCall P zmb [(nth l 2)] H22 fun t34 H26=>
opP (zea (nth l 0)) fun t36=>
opP (zfa 0 t36) fun t37=>
opP (zfa 36 t37) fun t38=>
opW (zda t38 H26) fun t39 H31=>
zSa (zRa H22 H26) (zBa [t38])∧(opP (zQc 32 t39 (nth l 1)) fun t41=>
opW (zka 32 t41 H31) fun t42 H34=>
zSa (zRa H22 H26) (zBa [t41])∧(opP ((zpa P .neq 49 false).f t34 t42) fun t43=>
opP (zna t31 (.bool true) t43) fun t44_1=>
wIf t44_1 (
K (.int .i64 152) H34) (
J_1 [(nth l 0),(nth l 2)] H34))))) (fun l_1 H38=>
opP (zea (nth l_1 0)) fun t47=>
opP (zfa 37 t47) fun t48=>
opW (zda t48 H38) fun t49 H42=>
opW (zsa 1 1 t49 (nth l_1 1) H42) fun t51 H44=>
opP (zea (nth l_1 0)) fun t52=>
opP (zfa 37 t52) fun t53=>
opW (zha 1 t53 t51 H44) fun u H48=>
opP (zea (nth l_1 0)) fun t55=>
opP (zfa 38 t55) fun t56=>
opW (zda t56 H48) fun t57 H52=>
opP ((zpa P .add 3 true).f t57 (.int .i64 1)) fun t58=>
opP (zea (nth l_1 0)) fun t59=>
opP (zfa 38 t59) fun t60=>
opW (zha 1 t60 t58 H52) fun u_1 H57=>
K (.int .i64 0) H57))
theorem zMs{t0 t1 t2:Value}{H:Heap}{K:VH}(h:zsr t0 t1 t2 H K):wCall P zTi [t0,t1,t2] H K:=zga rfl (Eq.mpr (by kernel_rfl) h)
def ztr(t0:Value)(H:Heap)(K:VH):Prop:=
opP (zea t0) fun t4=>
opP (zfa 38 t4) fun t5=>
opW (zda t5 H) fun t6 H3=>
opP (zea t0) fun t8=>
opP (zfa 0 t8) fun t9=>
opP (zfa 36 t9) fun t10=>
opW (zda t10 H3) fun t11 H8=>
opW (lenSl t11 H8) fun t12 H10=>
opP ((zpa P .eql 3 false).f t6 t12) fun t13=>
K t13 H10
theorem zNs{t0:Value}{H:Heap}{K:VH}(h:ztr t0 H K):wCall P zgf [t0] H K:=zga rfl (Eq.mpr (by kernel_rfl) h)
def zNg(t0:Value)(H:Heap)(K:VH):Prop:=
wCall P zhc [t0] H fun t4 H1=>
wIf t4 (
opP (zea t0) fun t7=>
opP (zfa 37 t7) fun t8=>
opW (zda t8 H1) fun t9 H5=>
wCall P zdb [t9] H5 fun t10 H7=>
opP (zea t0) fun t12=>
opP (zfa 0 t12) fun t13=>
opP (zfa 4 t13) fun t14=>
opW (zka 32 t14 H7) fun t15 H12=>
zSa (zRa H5 H7) (zBa [t14])∧(opP ((zpa P .eql 49 false).f t10 t15) fun t16=>
opP (zna t4 t16 (.bool false)) fun t17=>
K t17 H12)) (
opP (zna t4 undef (.bool false)) fun t17_1=>
K t17_1 H1)
theorem zoj{t0:Value}{H:Heap}{K:VH}(h:zNg t0 H K):wCall P zzd [t0] H K:=zga rfl (Eq.mpr (by kernel_rfl) h)
def zxe(t0 t1:Value)(H:Heap)(K:VH):Prop:=
wCall P zhb [t0] H fun t6 H1=>
opP ((zpa P .eql 3 true).f t6 (.int .i64 0)) fun t7=>
wIf t7 (
K (.bool false) H1) (
opP (zea t0) fun t9=>
opP (zfa 0 t9) fun t10=>
opW (zda t10 H1) fun t11 H6=>
opP (zea t0) fun t14=>
opP (zfa 2 t14) fun t15=>
opW (zda t15 H6) fun t16 H10=>
wCall P zLb [t0,t16] H10 fun t17 H12=>
zSa (zRa H10 H12) (zBa [t10])∧(opP (zQc 1 t11 t17) fun t19=>
opW (zha 1 t19 t1 H12) fun u H15=>
opP (zea t0) fun t21=>
opP (zfa 2 t21) fun t22=>
opW (zda t22 H15) fun t23 H19=>
opP ((zpa P .add 3 true).f t23 (.int .i64 1)) fun t24=>
opP (zea t0) fun t25=>
opP (zfa 2 t25) fun t26=>
opW (zha 1 t26 t24 H19) fun u_1 H24=>
K (.bool true) H24))
theorem zog{t0 t1:Value}{H:Heap}{K:VH}(h:zxe t0 t1 H K):wCall P zOa [t0,t1] H K:=zga rfl (Eq.mpr (by kernel_rfl) h)
def zZd(t0:Value)(H:Heap)(K:VH):Prop:=
zCb (zc P 35) H fun t2 H1=>
zCb (zc P 35) H1 fun t4 H3=>
opP (zea t0) fun t6=>
opP (zfa 2 t6) fun t7=>
opW (zda t7 H3) fun t8 H7=>
opP ((zpa P .eql 3 true).f t8 (.int .i64 0)) fun t9=>
wIf t9 (
opW (zka 2 t4 H7) fun t10 H10=>
opW (zha 2 t2 t10 H10) fun u H12=>
opW (zka 2 t2 H12) fun r _=>
K (.tuple [r,(.bool false)].toArray) H12) (
opP (zea t0) fun t12=>
opP (zfa 0 t12) fun t13=>
opW (zda t13 H7) fun t14 H17=>
opP (zea t0) fun t16=>
opP (zfa 1 t16) fun t17=>
opW (zda t17 H17) fun t18 H21=>
opP (zQc 2 t14 t18) fun t19=>
opW (zka 2 t19 H21) fun t20 H24=>
opW (zha 2 t2 t20 H24) fun u_1 H26=>
opW (zka 2 t2 H26) fun r_1 _=>
K (.tuple [r_1,(.bool true)].toArray) H26)
theorem zbg{t0:Value}{H:Heap}{K:VH}(h:zZd t0 H K):wCall P znc [t0] H K:=zga rfl (Eq.mpr (by kernel_rfl) h)
def ztu(t0 t1:Value)(H:Heap)(K:VH):Prop:=
zCb (zc P 52) H fun t4 H1=>
wCall P zWh [t1] H1 fun t15 H3=>
opP (zee 0 t15) fun t16=>
opP (zee 1 t15) fun t17=>
zIb (fun J=>
opP ((zpa P .neq 67 true).f t17 (.int .i64 0)) fun t19=>
wIf t19 (
opP (zna t19 (.bool true) undef) fun t25=>
J [t0,t1,t4,t16,t25] H3) (
opW (lenSl t1 H3) fun t22 H10=>
opP ((zpa P .lss 3 false).f t22 t16) fun t24=>
opP (zna t19 (.bool true) t24) fun t25_1=>
J [t0,t1,t4,t16,t25_1] H10)) (fun l H14=>
wIf (nth l 4) (
opP ((zAa P 52).f []) fun t26=>
opW (zha 37 (nth l 2) t26 H14) fun u H17=>
opW (zka 37 (nth l 2) H17) fun r _=>
K (.tuple [r,(.int .i64 0),(.int .i64 141)].toArray) H17) (
opP ((zpa P .sub 3 true).f (nth l 3) (.int .i64 32)) fun t29=>
opP (zTa 1 (nth l 1) none (some t29) none) fun t30=>
opP ((zpa P .sub 3 true).f (nth l 3) (.int .i64 32)) fun t33=>
opP (zTa 1 (nth l 1) (some t33) (some (nth l 3)) none) fun t35=>
zCb (zc P 49) H14 fun t11 H24=>
opP (zJb 32 1 t11 none none none H24) fun t36=>
opW (zni 1 t36 t35 H24) fun t38 H27=>
opW ((zla P 171 1).f [(0,t30)] H27) fun t41 H29=>
wCall P zxl [(nth l 0),t41] H29 fun t42 H31=>
opW (zka 32 t11 H31) fun t43 H33=>
zSa (zRa H29 H31) (zBa [t11])∧(znq (zBa [t11]) H27.next H29.next∧(wCall P zXh [t42,t43] H33 fun t44 H35=>
opP (unA .not t44) fun t45=>
wIf t45 (
opP ((zAa P 52).f []) fun t46=>
opW (zha 37 (nth l 2) t46 H35) fun u_1 H39=>
opW (zka 37 (nth l 2) H39) fun r_1 _=>
K (.tuple [r_1,(.int .i64 0),(.int .i64 142)].toArray) H39) (
opP (zTa 1 t30 (some (.int .i64 4)) none none) fun t49=>
wCall P zMd [t49] H35 fun t50 H43=>
opP (zee 0 t50) fun t51=>
opP (zee 1 t50) fun t52=>
zCb (zc P 52) H43 fun t12 H47=>
opW (zha 37 t12 t51 H47) fun u_2 H49=>
opP ((zpa P .neq 67 true).f t52 (.int .i64 0)) fun t54=>
wIf t54 (
opP ((zAa P 52).f []) fun t55=>
opW (zha 37 (nth l 2) t55 H49) fun u_3 H53=>
opW (zka 37 (nth l 2) H53) fun r_2 _=>
K (.tuple [r_2,(.int .i64 0),t52].toArray) H53) (
opW (zka 37 t12 H49) fun t57 H56=>
opW (zha 37 (nth l 2) t57 H56) fun u_4 H58=>
opW (zka 37 (nth l 2) H58) fun r_3 _=>
K (.tuple [r_3,(nth l 3),(.int .i64 0)].toArray) H58))))))
theorem zuu{t0 t1:Value}{H:Heap}{K:VH}(h:ztu t0 t1 H K):wCall P zQk [t0,t1] H K:=zga rfl (Eq.mpr (by kernel_rfl) h)
def zur(t0 t1:Value)(H:Heap)(K:VH):Prop:=
zCb (zza t0) H fun t2 H1=>
zCb (zza t1) H1 fun t3 H3=>
opW (zka 37 t2 H3) fun t6 H5=>
wCall P zoc [t6] H5 fun t7 H7=>
opP (unA .not t7) fun t8=>
wIf t8 (
K (.int .i64 131) H7) (
opP (zfa 0 t2) fun t10=>
opW (zda t10 H7) fun t11 H11=>
opP (zfa 0 t3) fun t12=>
opW (zda t12 H11) fun t13 H14=>
wCall P zXi [t11,t13] H14 fun t14 H16=>
opP (unA .not t14) fun t15=>
wIf t15 (
K (.int .i64 143) H16) (
opP (zfa 1 t2) fun t17=>
opW (zda t17 H16) fun t18 H20=>
opP (zfa 1 t3) fun t19=>
opW (zda t19 H20) fun t20 H23=>
opP ((zpa P .lss 23 false).f t18 t20) fun t21=>
wIf t21 (
K (.int .i64 144) H23) (
opP (zfa 2 t2) fun t23=>
opW (zda t23 H23) fun t24 H27=>
opP (zfa 2 t3) fun t25=>
opW (zda t25 H27) fun t26 H30=>
opP ((zpa P .gtr 3 false).f t24 t26) fun t27=>
wIf t27 (
K (.int .i64 145) H30) (
K (.int .i64 0) H30))))
theorem zOs{t0 t1:Value}{H:Heap}{K:VH}(h:zur t0 t1 H K):wCall P zUi [t0,t1] H K:=zga rfl (Eq.mpr (by kernel_rfl) h)
def zvu(t0:Value)(H:Heap)(K:VH):Prop:=
zCb (zza t0) H fun t1 H1=>
opW (zka 37 t1 H1) fun t4 H3=>
wCall P zoc [t4] H3 fun t5 H5=>
opP (unA .not t5) fun t6=>
wIf t6 (
K (.tuple [(.pointer none),(.int .i64 131)].toArray) H5) (
opP (zfa 36 t1) fun t7=>
opW (zda t7 H5) fun t8 H9=>
wCall P zkb [t8] H9 fun t9 H11=>
opP (zfa 36 t1) fun t10=>
opW (zha 1 t10 t9 H11) fun u H14=>
opW (zka 37 t1 H14) fun t11 H16=>
wCall P zif [] H16 fun t12 H18=>
zSa (zRa H16 H18) (zBa [t1])∧(opP ((zAa P 144).f [(0,t11),(1,t12)]) fun t13=>
zCb (zza t13) H18 fun t14 H21=>
K (.tuple [t14,(.int .i64 0)].toArray) H21))
theorem zwu{t0:Value}{H:Heap}{K:VH}(h:zvu t0 H K):wCall P zRk [t0] H K:=zga rfl (Eq.mpr (by kernel_rfl) h)
def zth(t0 t1 t2:Value)(H:Heap)(K:VH):Prop:=
zIb (fun J=>
wCall P zhc [t0] H fun t10 H2=>
wIf t10 (
opP (zna t10 (.bool true) undef) fun t18=>
wIf t18 (
K (.int .i64 151) H2) (
J [t0,t1,t2] H2)) (
opP (zea t0) fun t14=>
opP (zfa 38 t14) fun t15=>
opW (zda t15 H2) fun t16 H7=>
opP ((zpa P .neq 3 false).f t1 t16) fun t17=>
opP (zna t10 (.bool true) t17) fun t18_1=>
wIf t18_1 (
K (.int .i64 151) H7) (
J [t0,t1,t2] H7))) (fun l H11=>
zIb (fun J_1=>
opP (zea (nth l 0)) fun t21=>
opP (zfa 0 t21) fun t22=>
opW (zka 37 t22 H11) fun t23 H16=>
wCall P zWf [t23,(nth l 1)] H16 fun t25 H18=>
opP (zee 0 t25) fun t26=>
opP (zee 1 t25) fun t27=>
opW (lenSl (nth l 2) H18) fun t29 H22=>
opP ((zpa P .neq 3 false).f t29 t27) fun t31=>
wIf t31 (
opP (zna t31 (.bool true) undef) fun t45=>
wIf t45 (
K (.int .i64 152) H22) (
J_1 [(nth l 0),(nth l 2)] H22)) (
opW ((zla P 171 1).f [(0,(nth l 2))] H22) fun t34 H26=>
wCall P znd [t34] H26 fun t35 H28=>
opP (zea (nth l 0)) fun t37=>
opP (zfa 0 t37) fun t38=>
opP (zfa 36 t38) fun t39=>
opW (zda t39 H28) fun t40 H33=>
zSa (zRa H26 H28) (zBa [t39])∧(znq (zBa [t39]) H22.next H26.next∧(opP (zQc 32 t40 (nth l 1)) fun t42=>
opW (zka 32 t42 H33) fun t43 H36=>
zSa (zRa H26 H28) (zBa [t42])∧(znq (zBa [t42]) H22.next H26.next∧(opP ((zpa P .neq 49 false).f t35 t43) fun t44=>
opP (zna t31 (.bool true) t44) fun t45_1=>
wIf t45_1 (
K (.int .i64 152) H36) (
J_1 [(nth l 0),(nth l 2)] H36))))))) (fun l_1 H40=>
opP (zea (nth l_1 0)) fun t47=>
opP (zfa 37 t47) fun t48=>
opW (zda t48 H40) fun t49 H44=>
wCall P zIa [t49,(nth l_1 1)] H44 fun t51 H46=>
opP (zea (nth l_1 0)) fun t53=>
opP (zfa 38 t53) fun t54=>
opW (zda t54 H46) fun t55 H50=>
opP ((zpa P .add 3 true).f t55 (.int .i64 1)) fun t56=>
opP (zea (nth l_1 0)) fun t57=>
opP (zfa 38 t57) fun t58=>
opW (zha 1 t58 t56 H50) fun u H55=>
K (.int .i64 0) H55))
theorem zak{t0 t1 t2:Value}{H:Heap}{K:VH}(h:zth t0 t1 t2 H K):wCall P zQd [t0,t1,t2] H K:=zga rfl (Eq.mpr (by kernel_rfl) h)
noncomputable abbrev zbi:Code:=zMb P zhf 0
def zIl(l:List Value)(H:Heap)(N:LN)(Qx:LX)(Qr:LN):Prop:=
opP ((zpa P .lss 3 false).f (nth l 3) (nth l 2)) fun t21=>
wIf t21 (
opP (zQc 3 (nth l 1) (nth l 3)) fun t23=>
opW (zka 3 t23 H) fun t24 H3=>
zCb (zc P 139) H3 fun t5 H5=>
opW (zha 3 t5 t24 H5) fun u H7=>
opP (zfa 0 t5) fun t25=>
opW (zda t25 H7) fun t26 H10=>
opW (zSb .i32 t26 H10) fun t27 H12=>
zIb (fun J=>
opP (zfa 2 t5) fun t28=>
opW (zda t28 H12) fun t29 H16=>
opP (unA .not t29) fun t30=>
wIf t30 (
wCall P zFg [t27] H16 fun t33 H19=>
opP (zna t30 t33 (.bool false)) fun t34=>
J [(nth l 0),(nth l 3),t5,t27,t34,(nth l 1),(nth l 2),(nth l 3)] H19) (
opP (zna t30 undef (.bool false)) fun t34_1=>
J [(nth l 0),(nth l 3),t5,t27,t34_1,(nth l 1),(nth l 2),(nth l 3)] H16)) (fun l_1 H23=>
zIb (fun J_1=>
opP ((zpa P .gtr 3 true).f (nth l_1 1) (.int .i64 0)) fun t36=>
wIf t36 (
opP (zfa 2 (nth l_1 2)) fun t38=>
opW (zda t38 H23) fun t39 H28=>
opP (unA .not t39) fun t40=>
opP (zna t36 t40 (.bool false)) fun t41=>
wIf t41 (
wCall P znh [(nth l_1 3)] H28 fun t44 H32=>
wIf t44 (
opP (zna t44 (.bool true) undef) fun t49=>
opP (zna t49 (.bool true) undef) fun t54=>
opP (zna t54 (.bool true) undef) fun t59=>
opP (zna t41 t59 (.bool false)) fun t60=>
wIf t60 (
J_1 [(nth l_1 0),(.bool true),(nth l_1 5),(nth l_1 6),(nth l_1 7)] H32) (
J_1 [(nth l_1 0),(nth l_1 4),(nth l_1 5),(nth l_1 6),(nth l_1 7)] H32)) (
opP (zfa 1 (nth l_1 2)) fun t46=>
opW (zda t46 H32) fun t47 H39=>
opP ((zpa P .eql 9 true).f t47 (.string ⟨#[45]⟩)) fun t48=>
opP (zna t44 (.bool true) t48) fun t49_1=>
wIf t49_1 (
opP (zna t49_1 (.bool true) undef) fun t54_1=>
opP (zna t54_1 (.bool true) undef) fun t59_1=>
opP (zna t41 t59_1 (.bool false)) fun t60_1=>
wIf t60_1 (
J_1 [(nth l_1 0),(.bool true),(nth l_1 5),(nth l_1 6),(nth l_1 7)] H39) (
J_1 [(nth l_1 0),(nth l_1 4),(nth l_1 5),(nth l_1 6),(nth l_1 7)] H39)) (
opP (zfa 1 (nth l_1 2)) fun t51=>
opW (zda t51 H39) fun t52 H47=>
opP ((zpa P .eql 9 true).f t52 (.string ⟨#[95]⟩)) fun t53=>
opP (zna t49_1 (.bool true) t53) fun t54_2=>
wIf t54_2 (
opP (zna t54_2 (.bool true) undef) fun t59_2=>
opP (zna t41 t59_2 (.bool false)) fun t60_2=>
wIf t60_2 (
J_1 [(nth l_1 0),(.bool true),(nth l_1 5),(nth l_1 6),(nth l_1 7)] H47) (
J_1 [(nth l_1 0),(nth l_1 4),(nth l_1 5),(nth l_1 6),(nth l_1 7)] H47)) (
opP (zfa 1 (nth l_1 2)) fun t56=>
opW (zda t56 H47) fun t57 H54=>
opP ((zpa P .eql 9 true).f t57 (.string ⟨#[46]⟩)) fun t58=>
opP (zna t54_2 (.bool true) t58) fun t59_3=>
opP (zna t41 t59_3 (.bool false)) fun t60_3=>
wIf t60_3 (
J_1 [(nth l_1 0),(.bool true),(nth l_1 5),(nth l_1 6),(nth l_1 7)] H54) (
J_1 [(nth l_1 0),(nth l_1 4),(nth l_1 5),(nth l_1 6),(nth l_1 7)] H54))))) (
opP (zna t41 undef (.bool false)) fun t60_4=>
wIf t60_4 (
J_1 [(nth l_1 0),(.bool true),(nth l_1 5),(nth l_1 6),(nth l_1 7)] H28) (
J_1 [(nth l_1 0),(nth l_1 4),(nth l_1 5),(nth l_1 6),(nth l_1 7)] H28))) (
opP (zna t36 undef (.bool false)) fun t41_1=>
opP (zna t41_1 undef (.bool false)) fun t60_5=>
wIf t60_5 (
J_1 [(nth l_1 0),(.bool true),(nth l_1 5),(nth l_1 6),(nth l_1 7)] H23) (
J_1 [(nth l_1 0),(nth l_1 4),(nth l_1 5),(nth l_1 6),(nth l_1 7)] H23))) (fun l_2 H62=>
opP (unA .not (nth l_2 1)) fun t62=>
wIf t62 (
Qr [(.int .i64 41)] H62) (
opP ((zpa P .add 3 true).f (nth l_2 4) (.int .i64 1)) fun t63=>
N [(nth l_2 0),(nth l_2 2),(nth l_2 3),t63] H62)))) (
Qx 0 [(nth l 0)] H)
theorem zRm:LpI P 64 zbi 4 zIl:=.mk (by kernel_rfl) fun l H N Qx Qr=>by kernel_rfl
def zvr(t0:Value)(H:Heap)(K:VH):Prop:=
wCall P zoe [t0] H fun t9 H1=>
zIb (fun J=>
opW (lenSl t9 H1) fun t11 H4=>
opP ((zpa P .eql 3 true).f t11 (.int .i64 0)) fun t12=>
wIf t12 (
opP (zna t12 (.bool true) undef) fun t17=>
wIf t17 (
K (.int .i64 41) H4) (
J [(.int .i64 0),t9] H4)) (
opW (lenSl t9 H4) fun t15 H8=>
opP ((zpa P .gtr 3 true).f t15 (.int .i64 24)) fun t16=>
opP (zna t12 (.bool true) t16) fun t17_1=>
wIf t17_1 (
K (.int .i64 41) H8) (
J [(.int .i64 0),t9] H8))) (fun l H12=>
opW (lenSl (nth l 1) H12) fun t19 H14=>
zHb P true 64 zbi 4 [(nth l 0),(nth l 1),t19,(.int .i64 0)] H14 (fun id l_1 H16=>
cond (Nat.beq id 0) (
K (.int .i64 0) H16) (
False)) (fun l_1 H16=>
K (nth l_1 0) H16))
theorem zPs{t0:Value}{H:Heap}{K:VH}(h:zvr t0 H K):wCall P zhf [t0] H K:=zga rfl (Eq.mpr (by kernel_rfl) h)
def zwr(t0:Value)(H:Heap)(K:VH):Prop:=
opW (zUt t0 H) fun t4 H1=>
opW (zSb .u64 t4 H1) fun t5 H3=>
wCall P zrc [t5,(.int .i64 2)] H3 fun t6 H5=>
opW (zJe t0 H5) fun t8 H7=>
opW (zsa 1 1 t6 t8 H7) fun t9 H9=>
K t9 H9
theorem zQs{t0:Value}{H:Heap}{K:VH}(h:zwr t0 H K):wCall P zVi [t0] H K:=zga rfl (Eq.mpr (by kernel_rfl) h)
noncomputable abbrev zEn:Code:=zMb P zVh 0
def zFn(l:List Value)(H:Heap)(N:LN)(Qx:LX)(Qr:LN):Prop:=
opP ((zpa P .lss 3 true).f (nth l 5) (.int .i64 64)) fun t20=>
wIf t20 (
zIb (fun J=>
opW (lenSl (nth l 0) H) fun t25 H3=>
opP ((zpa P .lss 3 false).f (nth l 5) t25) fun t26=>
wIf t26 (
opP (zQc 1 (nth l 0) (nth l 5)) fun t29=>
opW (zda t29 H3) fun t30 H7=>
J [(nth l 0),(nth l 1),(nth l 2),(nth l 3),(nth l 4),(nth l 5),t30] H7) (
J [(nth l 0),(nth l 1),(nth l 2),(nth l 3),(nth l 4),(nth l 5),(.int .u8 0)] H3)) (fun l_1 H9=>
opP ((zpa P .xor 5 true).f (nth l_1 6) (.int .u8 54)) fun t33=>
opW ((zla P 22 1).f [(0,t33)] H9) fun t34 H12=>
opW (zsa 1 1 (nth l_1 3) t34 H12) fun t35 H14=>
opP ((zpa P .xor 5 true).f (nth l_1 6) (.int .u8 92)) fun t38=>
opW ((zla P 22 1).f [(0,t38)] H14) fun t39 H17=>
opW (zsa 1 1 (nth l_1 4) t39 H17) fun t40 H19=>
opP ((zpa P .add 3 true).f (nth l_1 5) (.int .i64 1)) fun t22=>
N [(nth l_1 0),(nth l_1 1),(nth l_1 2),t35,t40,t22] H19)) (
Qx 0 [(nth l 1),(nth l 2),(nth l 3),(nth l 4)] H)
theorem zYn:LpI P 49 zEn 210 zFn:=.mk (by kernel_rfl) fun l H N Qx Qr=>by kernel_rfl
def zxu(t0 t1:Value)(H:Heap)(K:VH):Prop:=
zCb (zc P 49) H fun t4 H1=>
zIb (fun J=>
opW (lenSl t0 H1) fun t12 H4=>
opP ((zpa P .gtr 3 true).f t12 (.int .i64 64)) fun t13=>
wIf t13 (
wCall P zmb [t0] H4 fun t15 H7=>
zCb (zc P 49) H7 fun t5 H9=>
opW (zha 32 t5 t15 H9) fun u H11=>
opP (zJb 32 1 t5 none none none H11) fun t16=>
J [t16,t1,t4] H11) (
J [t0,t1,t4] H4)) (fun l H14=>
opW ((zla P 22 0).f [] H14) fun t17 H16=>
opW ((zla P 22 0).f [] H16) fun t18 H18=>
zHb P true 49 zEn 210 [(nth l 0),(nth l 1),(nth l 2),t17,t18,(.int .i64 0)] H18 (fun id l_1 H20=>
cond (Nat.beq id 0) (
opW (zsa 1 1 (nth l_1 2) (nth l_1 0) H20) fun t43 H22=>
wCall P zmb [t43] H22 fun t44 H24=>
zCb (zc P 49) H24 fun t10 H26=>
opW (zha 32 t10 t44 H26) fun u_1 H28=>
opP (zJb 32 1 t10 none none none H28) fun t46=>
opW (zsa 1 1 (nth l_1 3) t46 H28) fun t47 H31=>
wCall P zmb [t47] H31 fun t48 H33=>
opW (zha 32 (nth l_1 1) t48 H33) fun u_2 H35=>
opW (zka 32 (nth l_1 1) H35) fun r _=>
K r H35) (
False)) (fun l_1 H20=>
opW (zka 32 (nth l_1 1) H20) fun r_1 _=>
K r_1 H20))
theorem zyu{t0 t1:Value}{H:Heap}{K:VH}(h:zxu t0 t1 H K):wCall P zVh [t0,t1] H K:=zga rfl (Eq.mpr (by kernel_rfl) h)
def zxr(t0:Value)(H:Heap)(K:VH):Prop:=
opP ((zpa P .lss 3 true).f t0 (.int .i64 0)) fun t4=>
wIf t4 (
K (.int .i64 0) H) (
opP ((zpa P .gtr 3 true).f t0 (.int .i64 8)) fun t6=>
wIf t6 (
K (.int .i64 8) H) (
K t0 H))
theorem zRs{t0:Value}{H:Heap}{K:VH}(h:zxr t0 H K):wCall P zEg [t0] H K:=zga rfl (Eq.mpr (by kernel_rfl) h)
noncomputable abbrev ztk:Code:=zMb P zoe 0
def zuk(l:List Value)(H:Heap)(N:LN)(Qx:LX)(Qr:LN):Prop:=
opP ((zpa P .neq 9 true).f (nth l 0) (.string ⟨#[]⟩)) fun t7=>
wIf t7 (
wCall P zYh [(nth l 0)] H fun t9 H2=>
zCb (zc P 139) H2 fun t4 H4=>
opW (zha 3 t4 t9 H4) fun u H6=>
opW (zka 3 t4 H6) fun t11 H8=>
opW ((zla P 136 1).f [(0,t11)] H8) fun t12 H10=>
opW (zsa 3 32 (nth l 2) t12 H10) fun t13 H12=>
opP (zfa 1 t4) fun t15=>
opW (zda t15 H12) fun t16 H15=>
opW (zUt t16 H15) fun t17 H17=>
opP (zvg (nth l 0) (some t17) none none) fun t18=>
N [t18,(nth l 1),t13] H17) (
Qx 0 [(nth l 1),(nth l 2)] H)
theorem zJl:LpI P 20 ztk 12 zuk:=.mk (by kernel_rfl) fun l H N Qx Qr=>by kernel_rfl
def zBp(t0:Value)(H:Heap)(K:VH):Prop:=
opW ((zla P 136 0).f [] H) fun t5 H1=>
zHb P true 20 ztk 12 [t0,(.slice none 0 0),t5] H1 (fun id l H3=>
cond (Nat.beq id 0) (
K (nth l 1) H3) (
False)) (fun l H3=>
K (nth l 0) H3)
theorem zEq{t0:Value}{H:Heap}{K:VH}(h:zBp t0 H K):wCall P zoe [t0] H K:=zga rfl (Eq.mpr (by kernel_rfl) h)
def zzu(t0:Value)(H:Heap)(K:VH):Prop:=
opW ((zla P 22 0).f [] H) fun t4 H1=>
opP ((zpa P .lss 3 true).f t0 (.int .i64 128)) fun t28=>
wIf t28 (
opW (zSb .u8 t0 H1) fun t31 H4=>
opW ((zla P 22 1).f [(0,t31)] H4) fun t32 H6=>
opW (zsa 1 1 t4 t32 H6) fun t33 H8=>
opW (zVa t33 H8) fun t68 H10=>
K t68 H10) (
opP ((zpa P .lss 3 true).f t0 (.int .i64 2048)) fun t36=>
wIf t36 (
opP ((zpa P .quo 3 true).f t0 (.int .i64 64)) fun t39=>
opP ((zpa P .add 3 true).f (.int .i64 192) t39) fun t40=>
opW (zSb .u8 t40 H1) fun t41 H15=>
opP ((zpa P .rem 3 true).f t0 (.int .i64 64)) fun t43=>
opP ((zpa P .add 3 true).f (.int .i64 128) t43) fun t44=>
opW (zSb .u8 t44 H15) fun t45 H19=>
opW ((zla P 22 2).f [(0,t41),(1,t45)] H19) fun t46 H21=>
opW (zsa 1 1 t4 t46 H21) fun t47 H23=>
opW (zVa t47 H23) fun t68_1 H25=>
K t68_1 H25) (
opP ((zpa P .lss 3 true).f t0 (.int .i64 65536)) fun t50=>
wIf t50 (
opP ((zpa P .quo 3 true).f t0 (.int .i64 4096)) fun t53=>
opP ((zpa P .add 3 true).f (.int .i64 224) t53) fun t54=>
opW (zSb .u8 t54 H1) fun t55 H30=>
opP ((zpa P .quo 3 true).f t0 (.int .i64 64)) fun t57=>
opP ((zpa P .rem 3 true).f t57 (.int .i64 64)) fun t58=>
opP ((zpa P .add 3 true).f (.int .i64 128) t58) fun t59=>
opW (zSb .u8 t59 H30) fun t60 H35=>
opP ((zpa P .rem 3 true).f t0 (.int .i64 64)) fun t62=>
opP ((zpa P .add 3 true).f (.int .i64 128) t62) fun t63=>
opW (zSb .u8 t63 H35) fun t64 H39=>
opW ((zla P 22 3).f [(0,t55),(1,t60),(2,t64)] H39) fun t65 H41=>
opW (zsa 1 1 t4 t65 H41) fun t66 H43=>
opW (zVa t66 H43) fun t68_2 H45=>
K t68_2 H45) (
opP ((zpa P .quo 3 true).f t0 (.int .i64 262144)) fun t7=>
opP ((zpa P .add 3 true).f (.int .i64 240) t7) fun t8=>
opW (zSb .u8 t8 H1) fun t9 H49=>
opP ((zpa P .quo 3 true).f t0 (.int .i64 4096)) fun t11=>
opP ((zpa P .rem 3 true).f t11 (.int .i64 64)) fun t12=>
opP ((zpa P .add 3 true).f (.int .i64 128) t12) fun t13=>
opW (zSb .u8 t13 H49) fun t14 H54=>
opP ((zpa P .quo 3 true).f t0 (.int .i64 64)) fun t16=>
opP ((zpa P .rem 3 true).f t16 (.int .i64 64)) fun t17=>
opP ((zpa P .add 3 true).f (.int .i64 128) t17) fun t18=>
opW (zSb .u8 t18 H54) fun t19 H59=>
opP ((zpa P .rem 3 true).f t0 (.int .i64 64)) fun t21=>
opP ((zpa P .add 3 true).f (.int .i64 128) t21) fun t22=>
opW (zSb .u8 t22 H59) fun t23 H63=>
opW ((zla P 22 4).f [(0,t9),(1,t14),(2,t19),(3,t23)] H63) fun t24 H65=>
opW (zsa 1 1 t4 t24 H65) fun t25 H67=>
opW (zVa t25 H67) fun t68_3 H69=>
K t68_3 H69)))
theorem zAu{t0:Value}{H:Heap}{K:VH}(h:zzu t0 H K):wCall P zSk [t0] H K:=zga rfl (Eq.mpr (by kernel_rfl) h)
def zyr(t0 t1:Value)(H:Heap)(K:VH):Prop:=
zCb (zc P 52) H fun t4 H1=>
wCall P zVg [t1] H1 fun t12 H3=>
opP (zee 0 t12) fun t13=>
opP (zee 1 t12) fun t14=>
zIb (fun J=>
opP ((zpa P .neq 3 true).f t14 (.int .i64 0)) fun t16=>
wIf t16 (
opP (zna t16 (.bool true) undef) fun t22=>
J [t0,t1,t4,t13,t22] H3) (
opW (lenSl t1 H3) fun t20 H10=>
opP ((zpa P .gtr 3 false).f t13 t20) fun t21=>
opP (zna t16 (.bool true) t21) fun t22_1=>
J [t0,t1,t4,t13,t22_1] H10)) (fun l H14=>
wIf (nth l 4) (
opP ((zAa P 52).f []) fun t23=>
opW (zha 37 (nth l 2) t23 H14) fun u H17=>
opW (zka 37 (nth l 2) H17) fun r _=>
K (.tuple [r,(.int .i64 0),(.int .i64 141)].toArray) H17) (
opP ((zpa P .sub 3 true).f (nth l 3) (.int .i64 32)) fun t27=>
opP (zTa 1 (nth l 1) none (some t27) none) fun t28=>
wCall P zcf [(nth l 0),t28] H14 fun t29 H22=>
opW (zVa t29 H22) fun t30 H24=>
opP (zTa 1 (nth l 1) none (some (nth l 3)) none) fun t33=>
opW (zVa t33 H24) fun t34 H27=>
zSa (zRa H14 H22) (zBa [t33])∧(opP ((zpa P .neq 9 false).f t30 t34) fun t35=>
wIf t35 (
opP ((zAa P 52).f []) fun t36=>
opW (zha 37 (nth l 2) t36 H27) fun u_1 H31=>
opW (zka 37 (nth l 2) H31) fun r_1 _=>
K (.tuple [r_1,(.int .i64 0),(.int .i64 142)].toArray) H31) (
opP ((zpa P .sub 3 true).f (nth l 3) (.int .i64 32)) fun t40=>
opP (zTa 1 (nth l 1) (some (.int .i64 4)) (some t40) none) fun t41=>
wCall P zHf [t41] H27 fun t42 H36=>
opP (zee 0 t42) fun t43=>
opP (zee 1 t42) fun t44=>
zCb (zc P 52) H36 fun t9 H40=>
opW (zha 37 t9 t43 H40) fun u_2 H42=>
opP ((zpa P .neq 3 true).f t44 (.int .i64 0)) fun t46=>
wIf t46 (
opP ((zAa P 52).f []) fun t47=>
opW (zha 37 (nth l 2) t47 H42) fun u_3 H46=>
opW (zka 37 (nth l 2) H46) fun r_2 _=>
K (.tuple [r_2,(.int .i64 0),t44].toArray) H46) (
opW (zka 37 t9 H42) fun t49 H49=>
opW (zha 37 (nth l 2) t49 H49) fun u_4 H51=>
opW (zka 37 (nth l 2) H51) fun r_3 _=>
K (.tuple [r_3,(nth l 3),(.int .i64 0)].toArray) H51)))))
theorem zSs{t0 t1:Value}{H:Heap}{K:VH}(h:zyr t0 t1 H K):wCall P zWi [t0,t1] H K:=zga rfl (Eq.mpr (by kernel_rfl) h)
noncomputable abbrev zBd:Code:=zMb P zdb 0
noncomputable abbrev zCd:Code:=zMb P zdb 1
noncomputable abbrev zDd:Code:=zMb P zdb 2
noncomputable abbrev zEd:Code:=zMb P zdb 3
def zuf(l:List Value)(H:Heap)(N:LN)(Qx:LX)(Qr:LN):Prop:=
opP (zea (nth l 1)) fun t21=>
opP (zfa 8 t21) fun t22=>
opW (zda t22 H) fun t23 H3=>
opW (lenSl t23 H3) fun t24 H5=>
opP ((zpa P .neq 3 true).f t24 (.int .i64 56)) fun t25=>
wIf t25 (
opW ((zla P 22 1).f [(0,(.int .u8 0))] H5) fun t27 H8=>
wCall P zIa [(nth l 1),t27] H8 fun t28 H10=>
N [(nth l 0),(nth l 1),(nth l 2)] H10) (
Qx 0 [(nth l 0),(nth l 1),(nth l 2)] H5)
theorem zuh:LpI P 67 zBd 28 zuf:=.mk (by kernel_rfl) fun l H N Qx Qr=>by kernel_rfl
def zvf(l:List Value)(H:Heap)(N:LN)(Qx:LX)(Qr:LN):Prop:=
opP ((zpa P .lss 3 true).f (nth l 3) (.int .i64 8)) fun t30=>
wIf t30 (
opP ((zpa P .mul 3 true).f (.int .i64 8) (nth l 3)) fun t35=>
opP ((zpa P .sub 3 true).f (.int .i64 56) t35) fun t36=>
opP ((zpa P .shr 23 false).f (nth l 2) t36) fun t37=>
opW (zSb .u8 t37 H) fun t38 H5=>
opW ((zla P 22 1).f [(0,t38)] H5) fun t39 H7=>
wCall P zIa [(nth l 1),t39] H7 fun t40 H9=>
opP ((zpa P .add 3 true).f (nth l 3) (.int .i64 1)) fun t41=>
N [(nth l 0),(nth l 1),(nth l 2),t41] H9) (
Qx 2 [(nth l 0),(nth l 1)] H)
theorem zvh:LpI P 67 zCd 12 zvf:=.mk (by kernel_rfl) fun l H N Qx Qr=>by kernel_rfl
def zwf(l:List Value)(H:Heap)(N:LN)(Qx:LX)(Qr:LN):Prop:=
opP ((zpa P .lss 3 true).f (nth l 3) (.int .i64 8)) fun t47=>
wIf t47 (
opP (zoi 8 1 (zfl P 162).f (nth l 2) (nth l 3)) fun t49=>
zHb P true 67 zEd 105553116266564 [(nth l 0),(nth l 1),(nth l 3),t49,(nth l 2),(nth l 3),(.int .i64 0)] H (fun id l_1 H3=>
cond (Nat.beq id 6) (
opP ((zpa P .add 3 true).f (nth l_1 3) (.int .i64 1)) fun t65=>
N [(nth l_1 0),(nth l_1 1),(nth l_1 2),t65] H3) (
cond (Nat.beq id 5) (
opP ((zpa P .add 3 true).f (nth l_1 3) (.int .i64 1)) fun t65_1=>
N [(nth l_1 0),(nth l_1 1),(nth l_1 2),t65_1] H3) (
Qx id [(nth l_1 0),(nth l_1 1)] H3))) (fun l_1 H3=>
Qr [(nth l_1 0),(nth l_1 1)] H3)) (
Qx 4 [(nth l 0),(nth l 1)] H)
theorem zwh:LpI P 67 zDd 68 zwf:=.mk (by kernel_rfl) fun l H N Qx Qr=>by kernel_rfl
def zxf(l:List Value)(H:Heap)(N:LN)(Qx:LX)(Qr:LN):Prop:=
opP ((zpa P .lss 3 true).f (nth l 6) (.int .i64 4)) fun t51=>
wIf t51 (
opP ((zpa P .mul 3 true).f (.int .i64 4) (nth l 2)) fun t54=>
opP ((zpa P .add 3 false).f t54 (nth l 6)) fun t56=>
opP ((zpa P .mul 3 true).f (.int .i64 8) (nth l 6)) fun t59=>
opP ((zpa P .sub 3 true).f (.int .i64 24) t59) fun t60=>
opP ((zpa P .shr 162 false).f (nth l 3) t60) fun t61=>
opW (zSb .u8 t61 H) fun t62 H7=>
opP (zEa 32 1 (nth l 1) t56) fun t63=>
opW (zha 1 t63 t62 H7) fun u H10=>
opP ((zpa P .add 3 true).f (nth l 6) (.int .i64 1)) fun t64=>
N [(nth l 0),(nth l 1),(nth l 2),(nth l 3),(nth l 4),(nth l 5),t64] H10) (
Qx 6 [(nth l 0),(nth l 1),(nth l 4),(nth l 5)] H)
theorem zxh:LpI P 67 zEd 105553116266564 zxf:=.mk (by kernel_rfl) fun l H N Qx Qr=>by kernel_rfl
def zyh(t0:Value)(H:Heap)(K:VH):Prop:=
zCb (zc P 49) H fun t2 H1=>
wCall P zAd [t0] H1 fun t11 H3=>
opP (zea t11) fun t13=>
opP (zfa 9 t13) fun t14=>
opW (zda t14 H3) fun t15 H7=>
opP ((zpa P .mul 23 true).f t15 (.int .u64 8)) fun t16=>
opW ((zla P 22 1).f [(0,(.int .u8 128))] H7) fun t18 H10=>
wCall P zIa [t11,t18] H10 fun t19 H12=>
zHb P true 67 zBd 28 [t2,t11,t16] H12 (fun id l H14=>
cond (Nat.beq id 0) (
zHb P true 67 zCd 12 [(nth l 0),(nth l 1),(nth l 2),(.int .i64 0)] H14 (fun id l_1 H16=>
cond (Nat.beq id 2) (
zCb (zc P 49) H16 fun t6 H18=>
opP (zea (nth l_1 1)) fun t43=>
opP (zfa 0 t43) fun t44=>
opW (zka 8 t44 H18) fun t45 H22=>
zHb P true 67 zDd 68 [(nth l_1 0),t6,t45,(.int .i64 0)] H22 (fun id l_2 H24=>
cond (Nat.beq id 4) (
opW (zka 32 (nth l_2 1) H24) fun t66 H26=>
opW (zha 32 (nth l_2 0) t66 H26) fun u H28=>
opW (zka 32 (nth l_2 0) H28) fun r _=>
K r H28) (
False)) (fun l_2 H24=>
opW (zka 32 (nth l_2 0) H24) fun r_1 _=>
K r_1 H24)) (
False)) (fun l_1 H16=>
opW (zka 32 (nth l_1 0) H16) fun r_2 _=>
K r_2 H16)) (
False)) (fun l H14=>
opW (zka 32 (nth l 0) H14) fun r_3 _=>
K r_3 H14)
theorem zbk{t0:Value}{H:Heap}{K:VH}(h:zyh t0 H K):wCall P zdb [t0] H K:=zga rfl (Eq.mpr (by kernel_rfl) h)
def zCp(t0:Value)(H:Heap)(K:VH):Prop:=
zIb (fun J=>
opW (lenSl t0 H) fun t6 H2=>
opP ((zpa P .lss 3 true).f t6 (.int .i64 4)) fun t7=>
wIf t7 (
opP (zna t7 (.bool true) undef) fun t14=>
J [t0,t14] H2) (
opW ((zla P 22 2).f [(0,(.int .u8 66)),(1,(.int .u8 85))] H2) fun t10 H6=>
opW (zmi t10 H6) fun t11 H8=>
wCall P zUe [t0,t11] H8 fun t12 H10=>
opP (unA .not t12) fun t13=>
opP (zna t7 (.bool true) t13) fun t14_1=>
J [t0,t14_1] H10)) (fun l H14=>
wIf (nth l 1) (
K (.tuple [(.int .i64 0),(.int .i64 141)].toArray) H14) (
opP (zTa 1 (nth l 0) (some (.int .i64 2)) (some (.int .i64 4)) none) fun t16=>
wCall P zMj [t16] H14 fun t17 H17=>
wCall P znb [t17,(.int .i64 2)] H17 fun t18 H19=>
opW (zSb .i64 t18 H19) fun t19 H21=>
opP ((zpa P .add 3 true).f t19 (.int .i64 36)) fun t20=>
opP ((zpa P .gtr 3 true).f t20 (.int .i64 2304)) fun t22=>
wIf t22 (
K (.tuple [(.int .i64 0),(.int .i64 141)].toArray) H21) (
K (.tuple [t20,(.int .i64 0)].toArray) H21)))
theorem zFq{t0:Value}{H:Heap}{K:VH}(h:zCp t0 H K):wCall P zWh [t0] H K:=zga rfl (Eq.mpr (by kernel_rfl) h)
noncomputable abbrev zGn:Code:=zMb P zXh 0
def zHn(l:List Value)(H:Heap)(N:LN)(Qx:LX)(Qr:LN):Prop:=
opP ((zpa P .lss 3 true).f (nth l 4) (.int .i64 32)) fun t8=>
wIf t8 (
opP (zEa 32 1 (nth l 0) (nth l 4)) fun t12=>
opW (zda t12 H) fun t13 H3=>
opP (zEa 32 1 (nth l 1) (nth l 4)) fun t15=>
opW (zda t15 H3) fun t16 H6=>
opP ((zpa P .xor 5 false).f t13 t16) fun t17=>
opP ((zpa P .or 5 false).f (nth l 3) t17) fun t18=>
opP ((zpa P .add 3 true).f (nth l 4) (.int .i64 1)) fun t19=>
N [(nth l 0),(nth l 1),(nth l 2),t18,t19] H6) (
Qx 0 [(nth l 2),(nth l 3)] H)
theorem zZn:LpI P 22 zGn 48 zHn:=.mk (by kernel_rfl) fun l H N Qx Qr=>by kernel_rfl
def zBu(t0 t1:Value)(H:Heap)(K:VH):Prop:=
zCb (zza t0) H fun t2 H1=>
zCb (zza t1) H1 fun t3 H3=>
zHb P true 22 zGn 48 [t2,t3,(.bool false),(.int .u8 0),(.int .i64 0)] H3 (fun id l H5=>
cond (Nat.beq id 0) (
opP ((zpa P .eql 5 true).f (nth l 1) (.int .u8 0)) fun t21=>
K t21 H5) (
False)) (fun l H5=>
K (nth l 0) H5)
theorem zCu{t0 t1:Value}{H:Heap}{K:VH}(h:zBu t0 t1 H K):wCall P zXh [t0,t1] H K:=zga rfl (Eq.mpr (by kernel_rfl) h)
noncomputable abbrev zzr:Code:=zMb P zxl 0
def zAr(l:List Value)(H:Heap)(N:LN)(Qx:LX)(Qr:LN):Prop:=
opP ((zpa P .lss 3 false).f (nth l 5) (nth l 4)) fun t17=>
wIf t17 (
opP (zQc 1 (nth l 3) (nth l 5)) fun t18=>
opW (zda t18 H) fun t19 H3=>
wCall P zIa [(nth l 2),t19] H3 fun t22 H5=>
opP ((zpa P .add 3 true).f (nth l 5) (.int .i64 1)) fun t23=>
N [(nth l 0),(nth l 1),(nth l 2),(nth l 3),(nth l 4),t23] H5) (
Qx 0 [(nth l 0),(nth l 1),(nth l 2)] H)
theorem zGq:LpI P 31 zzr 49 zAr:=.mk (by kernel_rfl) fun l H N Qx Qr=>by kernel_rfl
def zyB(t0 t1:Value)(H:Heap)(K:VH):Prop:=
zCb (zc P 49) H fun t4 H1=>
wCall P zif [] H1 fun t9 H3=>
wCall P zjf [t0,(.int .u8 54)] H3 fun t12 H5=>
wCall P zIa [t9,t12] H5 fun t13 H7=>
opW (lenSl t1 H7) fun t15 H9=>
zHb P true 31 zzr 49 [t0,t4,t9,t1,t15,(.int .i64 0)] H9 (fun id l H11=>
cond (Nat.beq id 0) (
wCall P zdb [(nth l 2)] H11 fun t25 H13=>
zCb (zc P 49) H13 fun t8 H15=>
opW (zha 32 t8 t25 H15) fun u H17=>
wCall P zjf [(nth l 0),(.int .u8 92)] H17 fun t27 H19=>
opP (zJb 32 1 t8 none none none H19) fun t28=>
zSa (zRa H17 H19) (zBa [t8])∧(opW ((zla P 171 2).f [(0,t27),(1,t28)] H19) fun t29 H22=>
wCall P znd [t29] H22 fun t30 H24=>
opW (zha 32 (nth l 1) t30 H24) fun u_1 H26=>
opW (zka 32 (nth l 1) H26) fun r _=>
K r H26)) (
False)) (fun l H11=>
opW (zka 32 (nth l 1) H11) fun r_1 _=>
K r_1 H11)
theorem zPy{t0 t1:Value}{H:Heap}{K:VH}(h:zyB t0 t1 H K):wCall P zxl [t0,t1] H K:=zga rfl (Eq.mpr (by kernel_rfl) h)
noncomputable abbrev zzh:Code:=zMb P zMd 0
def zAh(l:List Value)(H:Heap)(N:LN)(Qx:LX)(Qr:LN):Prop:=
opP ((zpa P .lss 3 false).f (nth l 5) (nth l 4)) fun t29=>
wIf t29 (
opP (zfa 36 (nth l 3)) fun t30=>
opW (zda t30 H) fun t31 H3=>
wCall P zqe [(nth l 2)] H3 fun t33 H5=>
zSa (zRa H3 H5) (zBa [t30])∧(opW ((zla P 50 1).f [(0,t33)] H5) fun t34 H7=>
opW (zsa 32 32 t31 t34 H7) fun t35 H9=>
opP (zfa 36 (nth l 3)) fun t36=>
opW (zha 1 t36 t35 H9) fun u H12=>
opP ((zpa P .add 3 true).f (nth l 5) (.int .i64 1)) fun t37=>
N [(nth l 0),(nth l 1),(nth l 2),(nth l 3),(nth l 4),t37] H12)) (
Qx 0 [(nth l 0),(nth l 1),(nth l 2),(nth l 3)] H)
theorem zpj:LpI P 48 zzh 60 zAh:=.mk (by kernel_rfl) fun l H N Qx Qr=>by kernel_rfl
def zvk(t0:Value)(H:Heap)(K:VH):Prop:=
zCb (zc P 52) H fun t2 H1=>
wCall P zMj [t0] H1 fun t7 H3=>
wCall P zpe [t7,(.int .i64 96)] H3 fun t9 H5=>
wCall P znb [t7,(.int .i64 8)] H5 fun t11 H7=>
wCall P znb [t7,(.int .i64 4)] H7 fun t13 H9=>
opW (zSb .i64 t13 H9) fun t14 H11=>
wCall P znb [t7,(.int .i64 2)] H11 fun t16 H13=>
opW (zSb .i64 t16 H13) fun t17 H15=>
opP ((zAa P 52).f [(0,t9),(1,t11),(2,t14),(3,t17)]) fun t18=>
zCb (zc P 52) H15 fun t5 H18=>
opW (zha 37 t5 t18 H18) fun u H20=>
wCall P zqe [t7] H20 fun t20 H22=>
opP (zfa 4 t5) fun t21=>
opW (zha 32 t21 t20 H22) fun u_1 H25=>
opP (zfa 2 t5) fun t22=>
opW (zda t22 H25) fun t23 H28=>
opP (zfa 3 t5) fun t24=>
opW (zda t24 H28) fun t25 H31=>
wCall P zNd [t23,t25] H31 fun t26 H33=>
opW (zze H33 (zWC [t26,(.int .i64 65)])) fun t27 H35=>
zHb P true 48 zzh 60 [t2,(.int .i64 0),t7,t5,t27,(.int .i64 0)] H35 (fun id l H37=>
cond (Nat.beq id 0) (
zIb (fun J=>
wCall P zVe [(nth l 2)] H37 fun t39 H40=>
opP ((zpa P .neq 67 true).f t39 (.int .i64 0)) fun t40=>
wIf t40 (
opP (zna t40 (.bool true) undef) fun t45=>
J [(nth l 0),(nth l 3),t45] H40) (
opW (zka 37 (nth l 3) H40) fun t42 H44=>
wCall P zoc [t42] H44 fun t43 H46=>
opP (unA .not t43) fun t44=>
opP (zna t40 (.bool true) t44) fun t45_1=>
J [(nth l 0),(nth l 3),t45_1] H46)) (fun l_1 H50=>
wIf (nth l_1 2) (
opP ((zAa P 52).f []) fun t46=>
opW (zha 37 (nth l_1 0) t46 H50) fun u_2 H53=>
opW (zka 37 (nth l_1 0) H53) fun r _=>
K (.tuple [r,(.int .i64 131)].toArray) H53) (
opW (zka 37 (nth l_1 1) H50) fun t47 H56=>
opW (zha 37 (nth l_1 0) t47 H56) fun u_3 H58=>
opW (zka 37 (nth l_1 0) H58) fun r_1 _=>
K (.tuple [r_1,(.int .i64 0)].toArray) H58))) (
False)) (fun l H37=>
opW (zka 37 (nth l 0) H37) fun r_2 _=>
K (.tuple [r_2,(nth l 1)].toArray) H37)
theorem zSm{t0:Value}{H:Heap}{K:VH}(h:zvk t0 H K):wCall P zMd [t0] H K:=zga rfl (Eq.mpr (by kernel_rfl) h)
def zwk(t0:Value)(H:Heap)(K:VH):Prop:=
zCb (zza t0) H fun t1 H1=>
zIb (fun J=>
zIb (fun J_1=>
opP (zfa 0 t1) fun t4=>
opW (zda t4 H1) fun t5 H6=>
wCall P zYi [t5] H6 fun t6 H8=>
opP ((zpa P .neq 67 true).f t6 (.int .i64 0)) fun t7=>
wIf t7 (
J_1 [t1,t7] H8) (
opP (zfa 1 t1) fun t8=>
opW (zda t8 H8) fun t9 H12=>
opP ((zpa P .lss 23 true).f t9 (.int .u64 1)) fun t10=>
wIf t10 (
J_1 [t1,t10] H12) (
opP (zfa 1 t1) fun t11=>
opW (zda t11 H12) fun t12 H16=>
opP ((zpa P .gtr 23 true).f t12 (.int .u64 281474976710656)) fun t13=>
J_1 [t1,t13] H16))) (fun l H19=>
wIf (nth l 1) (
K (.bool false) H19) (
zIb (fun J_2=>
opP (zfa 2 (nth l 0)) fun t15=>
opW (zda t15 H19) fun t16 H23=>
opP ((zpa P .lss 3 true).f t16 (.int .i64 1)) fun t17=>
wIf t17 (
opP (zna t17 (.bool true) undef) fun t22=>
J_2 [(nth l 0),t22] H23) (
opP (zfa 2 (nth l 0)) fun t19=>
opW (zda t19 H23) fun t20 H28=>
opP ((zpa P .gtr 3 true).f t20 (.int .i64 65536)) fun t21=>
opP (zna t17 (.bool true) t21) fun t22_1=>
J_2 [(nth l 0),t22_1] H28)) (fun l_1 H32=>
wIf (nth l_1 1) (
K (.bool false) H32) (
opP (zfa 3 (nth l_1 0)) fun t24=>
opW (zda t24 H32) fun t25 H35=>
opP ((zpa P .lss 3 true).f t25 (.int .i64 64)) fun t26=>
wIf t26 (
opP (zna t26 (.bool true) undef) fun t31=>
opP (zna t31 (.bool true) undef) fun t37=>
wIf t37 (
K (.bool false) H35) (
J [(nth l_1 0)] H35)) (
opP (zfa 3 (nth l_1 0)) fun t28=>
opW (zda t28 H35) fun t29 H41=>
opP ((zpa P .gtr 3 true).f t29 (.int .i64 1024)) fun t30=>
opP (zna t26 (.bool true) t30) fun t31_1=>
wIf t31_1 (
opP (zna t31_1 (.bool true) undef) fun t37_1=>
wIf t37_1 (
K (.bool false) H41) (
J [(nth l_1 0)] H41)) (
opP (zfa 3 (nth l_1 0)) fun t33=>
opW (zda t33 H41) fun t34 H47=>
opP ((zpa P .rem 3 true).f t34 (.int .i64 64)) fun t35=>
opP ((zpa P .neq 3 true).f t35 (.int .i64 0)) fun t36=>
opP (zna t31_1 (.bool true) t36) fun t37_2=>
wIf t37_2 (
K (.bool false) H47) (
J [(nth l_1 0)] H47)))))))) (fun l_2 H52=>
opP (zfa 36 (nth l_2 0)) fun t38=>
opW (zda t38 H52) fun t39 H55=>
opW (lenSl t39 H55) fun t40 H57=>
opP (zfa 2 (nth l_2 0)) fun t41=>
opW (zda t41 H57) fun t42 H60=>
opP (zfa 3 (nth l_2 0)) fun t43=>
opW (zda t43 H60) fun t44 H63=>
wCall P zNd [t42,t44] H63 fun t45 H65=>
zSa (zRa H63 H65) (zBa [t38])∧(opP ((zpa P .eql 3 false).f t40 t45) fun t46=>
wIf t46 (
opP (zfa 36 (nth l_2 0)) fun t48=>
opW (zda t48 H65) fun t49 H69=>
opW (lenSl t49 H69) fun t50 H71=>
opP ((zpa P .leq 3 true).f t50 (.int .i64 64)) fun t51=>
opP (zna t46 t51 (.bool false)) fun t52=>
K t52 H71) (
opP (zna t46 undef (.bool false)) fun t52_1=>
K t52_1 H65)))
theorem zTm{t0:Value}{H:Heap}{K:VH}(h:zwk t0 H K):wCall P zoc [t0] H K:=zga rfl (Eq.mpr (by kernel_rfl) h)
def zBr(t0 t1:Value)(H:Heap)(K:VH):Prop:=
wCall P zGg [t0] H fun t6 H1=>
wCall P zGg [t1] H1 fun t8 H3=>
opP ((zpa P .eql 9 false).f t6 t8) fun t9=>
K t9 H3
theorem zTs{t0 t1:Value}{H:Heap}{K:VH}(h:zBr t0 t1 H K):wCall P zXi [t0,t1] H K:=zga rfl (Eq.mpr (by kernel_rfl) h)
def zCr(H:Heap)(K:VH):Prop:=
wCall P zWg [] H fun t1 H1=>
opP ((zAa P 166).f [(0,t1)]) fun t2=>
zCb (zza t2) H1 fun t3 H4=>
K t3 H4
theorem zUs{H:Heap}{K:VH}(h:zCr  H K):wCall P zif [] H K:=zga rfl (Eq.mpr (by kernel_rfl) h)
def zKl(t0 t1:Value)(H:Heap)(K:VH):Prop:=
zCb (zza t0) H fun t2 H1=>
zIb (fun J=>
opW (zka 37 t2 H1) fun t7 H4=>
wCall P zoc [t7] H4 fun t8 H6=>
opP (unA .not t8) fun t9=>
wIf t9 (
opP (zna t9 (.bool true) undef) fun t13=>
opP (zna t13 (.bool true) undef) fun t20=>
J [t1,t2,t20] H6) (
opP ((zpa P .lss 3 true).f t1 (.int .i64 0)) fun t12=>
opP (zna t9 (.bool true) t12) fun t13_1=>
wIf t13_1 (
opP (zna t13_1 (.bool true) undef) fun t20_1=>
J [t1,t2,t20_1] H6) (
opP (zfa 36 t2) fun t16=>
opW (zda t16 H6) fun t17 H15=>
opW (lenSl t17 H15) fun t18 H17=>
opP ((zpa P .geq 3 false).f t1 t18) fun t19=>
opP (zna t13_1 (.bool true) t19) fun t20_2=>
J [t1,t2,t20_2] H17))) (fun l H21=>
wIf (nth l 2) (
K (.tuple [(.int .i64 0),(.int .i64 0)].toArray) H21) (
opP (zfa 3 (nth l 1)) fun t22=>
opW (zda t22 H21) fun t23 H24=>
opP ((zpa P .mul 3 false).f (nth l 0) t23) fun t24=>
opP (zfa 3 (nth l 1)) fun t26=>
opW (zda t26 H24) fun t27 H28=>
opP (zfa 2 (nth l 1)) fun t28=>
opW (zda t28 H28) fun t29 H31=>
opP ((zpa P .sub 3 false).f t29 t24) fun t31=>
opW (zze H31 (zWC [t27,t31])) fun t32 H34=>
K (.tuple [t24,t32].toArray) H34))
theorem zao{t0 t1:Value}{H:Heap}{K:VH}(h:zKl t0 t1 H K):wCall P zWf [t0,t1] H K:=zga rfl (Eq.mpr (by kernel_rfl) h)
noncomputable abbrev zLl:Code:=zMb P znd 0
def zci(l:List Value)(H:Heap)(N:LN)(Qx:LX)(Qr:LN):Prop:=
opP ((zpa P .lss 3 false).f (nth l 4) (nth l 3)) fun t10=>
wIf t10 (
opP (zQc 1 (nth l 2) (nth l 4)) fun t11=>
opW (zda t11 H) fun t12 H3=>
wCall P zIa [(nth l 1),t12] H3 fun t15 H5=>
opP ((zpa P .add 3 true).f (nth l 4) (.int .i64 1)) fun t16=>
N [(nth l 0),(nth l 1),(nth l 2),(nth l 3),t16] H5) (
Qx 0 [(nth l 0),(nth l 1)] H)
theorem zBh:LpI P 19 zLl 12 zci:=.mk (by kernel_rfl) fun l H N Qx Qr=>by kernel_rfl
def zUm(t0:Value)(H:Heap)(K:VH):Prop:=
zCb (zc P 49) H fun t2 H1=>
wCall P zif [] H1 fun t6 H3=>
opW (lenSl t0 H3) fun t8 H5=>
zHb P true 19 zLl 12 [t2,t6,t0,t8,(.int .i64 0)] H5 (fun id l H7=>
cond (Nat.beq id 0) (
wCall P zdb [(nth l 1)] H7 fun t18 H9=>
opW (zha 32 (nth l 0) t18 H9) fun u H11=>
opW (zka 32 (nth l 0) H11) fun r _=>
K r H11) (
False)) (fun l H7=>
opW (zka 32 (nth l 0) H7) fun r_1 _=>
K r_1 H7)
theorem zMl{t0:Value}{H:Heap}{K:VH}(h:zUm t0 H K):wCall P znd [t0] H K:=zga rfl (Eq.mpr (by kernel_rfl) h)
noncomputable abbrev zFe:Code:=zMb P zIa 0
def zGe(l:List Value)(H:Heap)(N:LN)(Qx:LX)(Qr:LN):Prop:=
opP (zea (nth l 0)) fun t24=>
opP (zfa 8 t24) fun t25=>
opW (zda t25 H) fun t26 H3=>
opW (lenSl t26 H3) fun t27 H5=>
opP ((zpa P .geq 3 true).f t27 (.int .i64 64)) fun t28=>
wIf t28 (
opP (zea (nth l 0)) fun t31=>
opP (zfa 0 t31) fun t32=>
opW (zka 8 t32 H5) fun t33 H10=>
opP (zea (nth l 0)) fun t35=>
opP (zfa 8 t35) fun t36=>
opW (zda t36 H10) fun t37 H14=>
opP (zTa 1 t37 none (some (.int .i64 64)) none) fun t38=>
wCall P zsc [t33,t38] H14 fun t39 H17=>
opP (zea (nth l 0)) fun t40=>
opP (zfa 0 t40) fun t41=>
opW (zha 8 t41 t39 H17) fun u H21=>
opP (zea (nth l 0)) fun t44=>
opP (zfa 8 t44) fun t45=>
opW (zda t45 H21) fun t46 H25=>
opP (zTa 1 t46 (some (.int .i64 64)) none none) fun t47=>
opP (zea (nth l 0)) fun t48=>
opP (zfa 8 t48) fun t49=>
opW (zha 1 t49 t47 H25) fun u_1 H30=>
N [(nth l 0)] H30) (
Qx 0 [] H5)
theorem zpg:LpI P 50 zFe 0 zGe:=.mk (by kernel_rfl) fun l H N Qx Qr=>by kernel_rfl
def zcg(t0 t1:Value)(H:Heap)(K:VH):Prop:=
opP (zea t0) fun t5=>
opP (zfa 9 t5) fun t6=>
opW (zda t6 H) fun t7 H3=>
opW (lenSl t1 H3) fun t9 H5=>
opW (zSb .u64 t9 H5) fun t10 H7=>
opP ((zpa P .add 23 false).f t7 t10) fun t11=>
opP (zea t0) fun t12=>
opP (zfa 9 t12) fun t13=>
opW (zha 1 t13 t11 H7) fun u H12=>
opP (zea t0) fun t16=>
opP (zfa 8 t16) fun t17=>
opW (zda t17 H12) fun t18 H16=>
opW (zsa 1 1 t18 t1 H16) fun t20 H18=>
opP (zea t0) fun t21=>
opP (zfa 8 t21) fun t22=>
opW (zha 1 t22 t20 H18) fun u_1 H22=>
zHb P true 50 zFe 0 [t0] H22 (fun id l H24=>
cond (Nat.beq id 0) (
K (.tuple [].toArray) H24) (
False)) (fun l H24=>
K (.tuple [].toArray) H24)
theorem zAi{t0 t1:Value}{H:Heap}{K:VH}(h:zcg t0 t1 H K):wCall P zIa [t0,t1] H K:=zga rfl (Eq.mpr (by kernel_rfl) h)
noncomputable abbrev zqj:Code:=zMb P zYh 0
def zIn(l:List Value)(H:Heap)(N:LN)(Qx:LX)(Qr:LN):Prop:=
opP ((zpa P .lss 3 false).f (nth l 6) (nth l 3)) fun t58=>
wIf t58 (
opP (zxt (nth l 0) (nth l 6)) fun t63=>
opW (zSb .i64 t63 H) fun t64 H3=>
zIb (fun J=>
opP ((zpa P .lss 3 true).f t64 (.int .i64 128)) fun t66=>
wIf t66 (
opP (zna t66 (.bool true) undef) fun t70=>
J [(nth l 0),(nth l 1),(nth l 2),(nth l 3),(nth l 4),(nth l 5),(nth l 6),t64,t70] H3) (
opP ((zpa P .gtr 3 true).f t64 (.int .i64 191)) fun t69=>
opP (zna t66 (.bool true) t69) fun t70_1=>
J [(nth l 0),(nth l 1),(nth l 2),(nth l 3),(nth l 4),(nth l 5),(nth l 6),t64,t70_1] H3)) (fun l_1 H10=>
wIf (nth l_1 8) (
opW (zka 3 (nth l_1 2) H10) fun t71 H12=>
opW (zha 3 (nth l_1 1) t71 H12) fun u H14=>
Qr [(nth l_1 0),(nth l_1 1),(nth l_1 2),(nth l_1 3),(nth l_1 4),(nth l_1 5)] H14) (
opP ((zpa P .mul 3 true).f (.int .i64 64) (nth l_1 4)) fun t73=>
opP ((zpa P .add 3 false).f t73 (nth l_1 7)) fun t75=>
opP ((zpa P .sub 3 true).f t75 (.int .i64 128)) fun t76=>
opP ((zpa P .add 3 true).f (nth l_1 6) (.int .i64 1)) fun t60=>
N [(nth l_1 0),(nth l_1 1),(nth l_1 2),(nth l_1 3),t76,(nth l_1 5),t60] H10))) (
Qx 1 [(nth l 0),(nth l 1),(nth l 2),(nth l 3),(nth l 4),(nth l 5)] H)
theorem zbo:LpI P 98 zqj 245 zIn:=.mk (by kernel_rfl) fun l H N Qx Qr=>by kernel_rfl
def zDu(t0:Value)(H:Heap)(K:VH):Prop:=
zCb (zc P 139) H fun t2 H1=>
opP (zxt t0 (.int .i64 0)) fun t11=>
opW (zSb .i64 t11 H1) fun t12 H4=>
opP (zvg t0 none (some (.int .i64 1)) none) fun t15=>
opP ((zAa P 139).f [(0,t12),(1,t15),(2,(.bool true))]) fun t16=>
zCb (zc P 139) H4 fun t4 H8=>
opW (zha 3 t4 t16 H8) fun u H10=>
opP ((zpa P .lss 3 true).f t12 (.int .i64 128)) fun t18=>
wIf t18 (
opP (zvg t0 none (some (.int .i64 1)) none) fun t21=>
opP ((zAa P 139).f [(0,t12),(1,t21),(2,(.bool false))]) fun t22=>
opW (zha 3 t2 t22 H10) fun u_1 H15=>
opW (zka 3 t2 H15) fun r _=>
K r H15) (
zIb (fun J=>
zIb (fun J_1=>
opP ((zpa P .geq 3 true).f t12 (.int .i64 194)) fun t26=>
wIf t26 (
opP ((zpa P .lss 3 true).f t12 (.int .i64 224)) fun t29=>
opP (zna t26 t29 (.bool false)) fun t30=>
J_1 [t0,t2,t12,t4,(.int .i64 0),(.int .i64 0),(.int .i64 0),t30] H10) (
opP (zna t26 undef (.bool false)) fun t30_1=>
J_1 [t0,t2,t12,t4,(.int .i64 0),(.int .i64 0),(.int .i64 0),t30_1] H10)) (fun l H24=>
wIf (nth l 7) (
opP ((zpa P .sub 3 true).f (nth l 2) (.int .i64 192)) fun t32=>
J [(nth l 0),(nth l 1),(nth l 3),(.int .i64 2),t32,(.int .i64 128)] H24) (
zIb (fun J_2=>
opP ((zpa P .geq 3 true).f (nth l 2) (.int .i64 224)) fun t35=>
wIf t35 (
opP ((zpa P .lss 3 true).f (nth l 2) (.int .i64 240)) fun t38=>
opP (zna t35 t38 (.bool false)) fun t39=>
J_2 [(nth l 0),(nth l 1),(nth l 2),(nth l 3),(nth l 4),(nth l 5),(nth l 6),t39] H24) (
opP (zna t35 undef (.bool false)) fun t39_1=>
J_2 [(nth l 0),(nth l 1),(nth l 2),(nth l 3),(nth l 4),(nth l 5),(nth l 6),t39_1] H24)) (fun l_1 H32=>
wIf (nth l_1 7) (
opP ((zpa P .sub 3 true).f (nth l_1 2) (.int .i64 224)) fun t41=>
J [(nth l_1 0),(nth l_1 1),(nth l_1 3),(.int .i64 3),t41,(.int .i64 2048)] H32) (
zIb (fun J_3=>
opP ((zpa P .geq 3 true).f (nth l_1 2) (.int .i64 240)) fun t44=>
wIf t44 (
opP ((zpa P .lss 3 true).f (nth l_1 2) (.int .i64 245)) fun t47=>
opP (zna t44 t47 (.bool false)) fun t48=>
J_3 [(nth l_1 0),(nth l_1 1),(nth l_1 2),(nth l_1 3),(nth l_1 4),(nth l_1 5),(nth l_1 6),t48] H32) (
opP (zna t44 undef (.bool false)) fun t48_1=>
J_3 [(nth l_1 0),(nth l_1 1),(nth l_1 2),(nth l_1 3),(nth l_1 4),(nth l_1 5),(nth l_1 6),t48_1] H32)) (fun l_2 H40=>
wIf (nth l_2 7) (
opP ((zpa P .sub 3 true).f (nth l_2 2) (.int .i64 240)) fun t50=>
J [(nth l_2 0),(nth l_2 1),(nth l_2 3),(.int .i64 4),t50,(.int .i64 65536)] H40) (
opW (zka 3 (nth l_2 3) H40) fun t23 H43=>
opW (zha 3 (nth l_2 1) t23 H43) fun u_2 H45=>
opW (zka 3 (nth l_2 1) H45) fun r_1 _=>
K r_1 H45))))))) (fun l_3 H48=>
opW (zUt (nth l_3 0) H48) fun t52 H50=>
opP ((zpa P .lss 3 false).f t52 (nth l_3 3)) fun t54=>
wIf t54 (
opW (zka 3 (nth l_3 2) H50) fun t55 H53=>
opW (zha 3 (nth l_3 1) t55 H53) fun u_3 H55=>
opW (zka 3 (nth l_3 1) H55) fun r_2 _=>
K r_2 H55) (
zHb P true 98 zqj 245 [(nth l_3 0),(nth l_3 1),(nth l_3 2),(nth l_3 3),(nth l_3 4),(nth l_3 5),(.int .i64 1)] H50 (fun id l_4 H58=>
cond (Nat.beq id 1) (
zIb (fun J_4=>
opP ((zpa P .lss 3 false).f (nth l_4 4) (nth l_4 5)) fun t79=>
wIf t79 (
opP (zna t79 (.bool true) undef) fun t83=>
opP (zna t83 (.bool true) undef) fun t91=>
J_4 [(nth l_4 0),(nth l_4 1),(nth l_4 2),(nth l_4 3),(nth l_4 4),t91] H58) (
opP ((zpa P .gtr 3 true).f (nth l_4 4) (.int .i64 1114111)) fun t82=>
opP (zna t79 (.bool true) t82) fun t83_1=>
wIf t83_1 (
opP (zna t83_1 (.bool true) undef) fun t91_1=>
J_4 [(nth l_4 0),(nth l_4 1),(nth l_4 2),(nth l_4 3),(nth l_4 4),t91_1] H58) (
opP ((zpa P .geq 3 true).f (nth l_4 4) (.int .i64 55296)) fun t86=>
wIf t86 (
opP ((zpa P .leq 3 true).f (nth l_4 4) (.int .i64 57343)) fun t89=>
opP (zna t86 t89 (.bool false)) fun t90=>
opP (zna t83_1 (.bool true) t90) fun t91_2=>
J_4 [(nth l_4 0),(nth l_4 1),(nth l_4 2),(nth l_4 3),(nth l_4 4),t91_2] H58) (
opP (zna t86 undef (.bool false)) fun t90_1=>
opP (zna t83_1 (.bool true) t90_1) fun t91_3=>
J_4 [(nth l_4 0),(nth l_4 1),(nth l_4 2),(nth l_4 3),(nth l_4 4),t91_3] H58)))) (fun l_5 H73=>
wIf (nth l_5 5) (
opW (zka 3 (nth l_5 2) H73) fun t92 H75=>
opW (zha 3 (nth l_5 1) t92 H75) fun u_4 H77=>
opW (zka 3 (nth l_5 1) H77) fun r_3 _=>
K r_3 H77) (
opP (zvg (nth l_5 0) none (some (nth l_5 3)) none) fun t96=>
opP ((zAa P 139).f [(0,(nth l_5 4)),(1,t96),(2,(.bool false))]) fun t97=>
opW (zha 3 (nth l_5 1) t97 H73) fun u_5 H82=>
opW (zka 3 (nth l_5 1) H82) fun r_4 _=>
K r_4 H82))) (
False)) (fun l_4 H58=>
opW (zka 3 (nth l_4 1) H58) fun r_5 _=>
K r_5 H58))))
theorem zEu{t0:Value}{H:Heap}{K:VH}(h:zDu t0 H K):wCall P zYh [t0] H K:=zga rfl (Eq.mpr (by kernel_rfl) h)
def zJn(t0:Value)(H:Heap)(K:VH):Prop:=
opW (lenSl t0 H) fun t6 H1=>
opP ((zpa P .lss 3 true).f t6 (.int .i64 4)) fun t7=>
wIf t7 (
K (.tuple [(.int .i64 0),(.int .i64 141)].toArray) H1) (
zIb (fun J=>
opP (zQc 1 t0 (.int .i64 0)) fun t9=>
opW (zda t9 H1) fun t10 H6=>
opP ((zpa P .neq 5 true).f t10 (.int .u8 66)) fun t11=>
wIf t11 (
opP (zna t11 (.bool true) undef) fun t17=>
J [t0,t17] H6) (
opP (zQc 1 t0 (.int .i64 1)) fun t14=>
opW (zda t14 H6) fun t15 H11=>
opP ((zpa P .neq 5 true).f t15 (.int .u8 85)) fun t16=>
opP (zna t11 (.bool true) t16) fun t17_1=>
J [t0,t17_1] H11)) (fun l H15=>
wIf (nth l 1) (
K (.tuple [(.int .i64 0),(.int .i64 141)].toArray) H15) (
opP (zQc 1 (nth l 0) (.int .i64 2)) fun t19=>
opW (zda t19 H15) fun t20 H18=>
opW (zSb .i64 t20 H18) fun t21 H20=>
opP ((zpa P .add 3 true).f (.int .i64 36) t21) fun t22=>
opP (zQc 1 (nth l 0) (.int .i64 3)) fun t24=>
opW (zda t24 H20) fun t25 H24=>
opW (zSb .i64 t25 H24) fun t26 H26=>
opP ((zpa P .mul 3 true).f (.int .i64 256) t26) fun t27=>
opP ((zpa P .add 3 false).f t22 t27) fun t28=>
opP ((zpa P .gtr 3 true).f t28 (.int .i64 2304)) fun t30=>
wIf t30 (
K (.tuple [(.int .i64 0),(.int .i64 141)].toArray) H26) (
K (.tuple [t28,(.int .i64 0)].toArray) H26))))
theorem zDp{t0:Value}{H:Heap}{K:VH}(h:zJn t0 H K):wCall P zVg [t0] H K:=zga rfl (Eq.mpr (by kernel_rfl) h)
noncomputable abbrev zxk:Code:=zMb P zHf 0
def zyk(l:List Value)(H:Heap)(N:LN)(Qx:LX)(Qr:LN):Prop:=
zIb (fun J=>
opP (zea (nth l 3)) fun t27=>
opP (zfa 0 t27) fun t28=>
opW (zda t28 H) fun t29 H4=>
opW (lenSl t29 H4) fun t30 H6=>
opP ((zpa P .gtr 3 true).f t30 (.int .i64 0)) fun t31=>
wIf t31 (
opP (zfa 36 (nth l 4)) fun t33=>
opW (zda t33 H6) fun t34 H10=>
opW (lenSl t34 H10) fun t35 H12=>
opP ((zpa P .lss 3 true).f t35 (.int .i64 65)) fun t36=>
opP (zna t31 t36 (.bool false)) fun t37=>
wIf t37 (
J [(nth l 0),(nth l 1),(nth l 2),(nth l 3),(nth l 4)] H12) (
Qx 0 [(nth l 0),(nth l 1),(nth l 2),(nth l 3),(nth l 4)] H12)) (
opP (zna t31 undef (.bool false)) fun t37_1=>
wIf t37_1 (
J [(nth l 0),(nth l 1),(nth l 2),(nth l 3),(nth l 4)] H6) (
Qx 0 [(nth l 0),(nth l 1),(nth l 2),(nth l 3),(nth l 4)] H6))) (fun l_1 H17=>
opP (zfa 36 (nth l_1 4)) fun t38=>
opW (zda t38 H17) fun t39 H20=>
wCall P zkf [(nth l_1 3)] H20 fun t41 H22=>
zSa (zRa H20 H22) (zBa [t38])∧(opW ((zla P 50 1).f [(0,t41)] H22) fun t42 H24=>
opW (zsa 32 32 t39 t42 H24) fun t43 H26=>
opP (zfa 36 (nth l_1 4)) fun t44=>
opW (zha 1 t44 t43 H26) fun u H29=>
N [(nth l_1 0),(nth l_1 1),(nth l_1 2),(nth l_1 3),(nth l_1 4)] H29))
theorem zNl:LpI P 65 zxk 61 zyk:=.mk (by kernel_rfl) fun l H N Qx Qr=>by kernel_rfl
def zEp(t0:Value)(H:Heap)(K:VH):Prop:=
zCb (zc P 52) H fun t2 H1=>
opP ((zAa P 185).f [(0,t0)]) fun t7=>
zCb (zza t7) H1 fun t8 H4=>
wCall P zXg [t8,(.int .i64 65535)] H4 fun t10 H6=>
opP ((zAa P 52).f [(0,t10)]) fun t11=>
zCb (zc P 52) H6 fun t5 H9=>
opW (zha 37 t5 t11 H9) fun u H11=>
wCall P zic [t8,(.int .i64 8)] H11 fun t13 H13=>
opP (zfa 1 t5) fun t14=>
opW (zha 1 t14 t13 H13) fun u_1 H16=>
wCall P zic [t8,(.int .i64 4)] H16 fun t16 H18=>
opW (zSb .i64 t16 H18) fun t17 H20=>
opP (zfa 2 t5) fun t18=>
opW (zha 1 t18 t17 H20) fun u_2 H23=>
wCall P zic [t8,(.int .i64 2)] H23 fun t20 H25=>
opW (zSb .i64 t20 H25) fun t21 H27=>
opP (zfa 3 t5) fun t22=>
opW (zha 1 t22 t21 H27) fun u_3 H30=>
wCall P zkf [t8] H30 fun t24 H32=>
opP (zfa 4 t5) fun t25=>
opW (zha 32 t25 t24 H32) fun u_4 H35=>
zHb P true 65 zxk 61 [t0,t2,(.int .i64 0),t8,t5] H35 (fun id l H37=>
cond (Nat.beq id 0) (
zIb (fun J=>
opP (zea (nth l 3)) fun t46=>
opP (zfa 1 t46) fun t47=>
opW (zda t47 H37) fun t48 H42=>
opP ((zpa P .neq 3 true).f t48 (.int .i64 0)) fun t49=>
wIf t49 (
opP (zna t49 (.bool true) undef) fun t57=>
opP (zna t57 (.bool true) undef) fun t62=>
J [(nth l 1),(nth l 4),t62] H42) (
opW (zka 37 (nth l 4) H42) fun t51 H47=>
wCall P zme [t51] H47 fun t52 H49=>
opW (zVa t52 H49) fun t53 H51=>
opW (zVa (nth l 0) H51) fun t55 H53=>
zSa (zRa H47 H49) (zBa [(nth l 0)])∧(opP ((zpa P .neq 9 false).f t53 t55) fun t56=>
opP (zna t49 (.bool true) t56) fun t57_1=>
wIf t57_1 (
opP (zna t57_1 (.bool true) undef) fun t62_1=>
J [(nth l 1),(nth l 4),t62_1] H53) (
opW (lenSl (nth l 0) H53) fun t60 H58=>
opP ((zpa P .eql 3 true).f t60 (.int .i64 0)) fun t61=>
opP (zna t57_1 (.bool true) t61) fun t62_2=>
J [(nth l 1),(nth l 4),t62_2] H58)))) (fun l_1 H62=>
wIf (nth l_1 2) (
opP ((zAa P 52).f []) fun t63=>
opW (zha 37 (nth l_1 0) t63 H62) fun u_5 H65=>
opW (zka 37 (nth l_1 0) H65) fun r _=>
K (.tuple [r,(.int .i64 131)].toArray) H65) (
opW (zka 37 (nth l_1 1) H62) fun t64 H68=>
opW (zha 37 (nth l_1 0) t64 H68) fun u_6 H70=>
opW (zka 37 (nth l_1 0) H70) fun r_1 _=>
K (.tuple [r_1,(.int .i64 0)].toArray) H70))) (
False)) (fun l H37=>
opW (zka 37 (nth l 1) H37) fun r_2 _=>
K (.tuple [r_2,(nth l 2)].toArray) H37)
theorem zHq{t0:Value}{H:Heap}{K:VH}(h:zEp t0 H K):wCall P zHf [t0] H K:=zga rfl (Eq.mpr (by kernel_rfl) h)
def zOg(t0:Value)(H:Heap)(K:VH):Prop:=
opP (zea t0) fun t4=>
opP (zfa 0 t4) fun t5=>
opW (zka 8 t5 H) fun t6 H3=>
opP (zea t0) fun t8=>
opP (zfa 8 t8) fun t9=>
opW (zda t9 H3) fun t10 H7=>
opW (zsa 1 1 (.slice none 0 0) t10 H7) fun t11 H9=>
zLi (zBa [t5]) (zBa [(.slice none 0 0),t10])∧(opP (zea t0) fun t13=>
opP (zfa 9 t13) fun t14=>
opW (zda t14 H9) fun t15 H13=>
zLi (zBa [(.slice none 0 0),t10]) (zBa [t14])∧znq (zBa [t14]) H7.next H9.next∧(opP ((zAa P 166).f [(0,t6),(1,t11),(2,t15)]) fun t16=>
zCb (zza t16) H13 fun t17 H16=>
K t17 H16))
theorem zrj{t0:Value}{H:Heap}{K:VH}(h:zOg t0 H K):wCall P zAd [t0] H K:=zga rfl (Eq.mpr (by kernel_rfl) h)
def bytes_HasPrefix(t0 t1:Value)(H:Heap)(K:VH):Prop:=
opW (lenSl t0 H) fun t6 H1=>
opW (lenSl t1 H1) fun t8 H3=>
opP ((zpa P .geq 3 false).f t6 t8) fun t9=>
wIf t9 (
opW (lenSl t1 H3) fun t13 H6=>
opP (zTa 1 t0 none (some t13) none) fun t14=>
wCall P zZh [t14,t1] H6 fun t16 H9=>
opP (zna t9 t16 (.bool false)) fun t17=>
K t17 H9) (
opP (zna t9 undef (.bool false)) fun t17_1=>
K t17_1 H3)
theorem zOl{t0 t1:Value}{H:Heap}{K:VH}(h:bytes_HasPrefix t0 t1 H K):wCall P zUe [t0,t1] H K:=zga rfl (Eq.mpr (by kernel_rfl) h)
def zIx(t0:Value)(H:Heap)(K:VH):Prop:=
opP ((zAa P 190).f [(0,t0)]) fun t4=>
zCb (zza t4) H fun t5 H2=>
K t5 H2
theorem zqw{t0:Value}{H:Heap}{K:VH}(h:zIx t0 H K):wCall P zMj [t0] H K:=zga rfl (Eq.mpr (by kernel_rfl) h)
noncomputable abbrev zyb:List Tmp × Code × Code:=rangeAt P znb 0
def zyf(vals args:List Value)(l:Nat)(H:Heap)(K:VH):Prop:=
zyx l H fun H0=>
opW (zda (nth vals 0) H0) fun t15 H2=>
opP ((zpa P .shl 23 true).f t15 (.int .u64 8)) fun t16=>
opW (zSb .u64 (nth args 1) H2) fun t18 H5=>
opP ((zpa P .or 23 false).f t16 t18) fun t19=>
opW (zha 1 (nth vals 0) t19 H5) fun u H8=>
zkI l .normal H8 K
theorem zdi(vals args:List Value)(l:Nat)(H:Heap)(K:VH):zew P 21 zyb.1 zyb.2.1 zyb.2.2 vals args l H K=zyf vals args l H K:=by kernel_rfl
def zCh(t0 t1:Value)(H:Heap)(K:VH):Prop:=
zCb (zc P 23) H fun t5 H1=>
opW (zha 1 t5 (.int .u64 0) H1) fun u H3=>
wCall P zai [t1] H3 fun t10 H5=>
wCall P zXb [t0,t10] H5 fun t11 H7=>
wCall P zod [t11] H7 fun t12 H9=>
zxx P 21 zyb.1 zyb.2.1 zyb.2.2 [t5,undef] t12 H9 (fun H10=>
opW (zda t5 H10) fun t20 H12=>
K t20 H12) (fun id H10=>
cond (Nat.beq id 0) (
opW (zda t5 H10) fun t20_1 H14=>
K t20_1 H14) (
False)) (fun H10=>
K (.int .u64 0) H10)
theorem zck{t0 t1:Value}{H:Heap}{K:VH}(h:zCh t0 t1 H K):wCall P znb [t0,t1] H K:=zga rfl (Eq.mpr (by kernel_rfl) h)
noncomputable abbrev zPl:Code:=zMb P zjf 0
def zQl(l:List Value)(H:Heap)(N:LN)(Qx:LX)(Qr:LN):Prop:=
opP ((zpa P .lss 3 true).f (nth l 3) (.int .i64 64)) fun t19=>
wIf t19 (
opP (zEa 64 1 (nth l 2) (nth l 3)) fun t22=>
opW (zda t22 H) fun t23 H3=>
opP ((zpa P .xor 5 false).f t23 (nth l 0)) fun t25=>
opP (zEa 64 1 (nth l 2) (nth l 3)) fun t26=>
opW (zha 1 t26 t25 H3) fun u H7=>
opP ((zpa P .add 3 true).f (nth l 3) (.int .i64 1)) fun t27=>
N [(nth l 0),(nth l 1),(nth l 2),t27] H7) (
Qx 0 [(nth l 1),(nth l 2)] H)
theorem zVm:LpI P 29 zPl 80 zQl:=.mk (by kernel_rfl) fun l H N Qx Qr=>by kernel_rfl
def zDr(t0 t1:Value)(H:Heap)(K:VH):Prop:=
zIb (fun J=>
opW (lenSl t0 H) fun t9 H2=>
opP ((zpa P .gtr 3 true).f t9 (.int .i64 64)) fun t10=>
wIf t10 (
opW ((zla P 171 1).f [(0,t0)] H2) fun t12 H5=>
wCall P znd [t12] H5 fun t13 H7=>
zCb (zc P 49) H7 fun t5 H9=>
opW (zha 32 t5 t13 H9) fun u H11=>
opP (zJb 32 1 t5 none none none H11) fun t14=>
J [t14,t1,(.slice none 0 0)] H11) (
J [t0,t1,(.slice none 0 0)] H2)) (fun l H14=>
zCb (zc P 195) H14 fun t6 H16=>
opP (zJb 64 1 t6 none none none H16) fun t15=>
opW (zni 1 t15 (nth l 0) H16) fun t17 H19=>
zHb P true 29 zPl 80 [(nth l 1),(nth l 2),t6,(.int .i64 0)] H19 (fun id l_1 H21=>
cond (Nat.beq id 0) (
opP (zJb 64 1 (nth l_1 1) none none none H21) fun t28=>
K t28 H21) (
False)) (fun l_1 H21=>
K (nth l_1 0) H21))
theorem zVs{t0 t1:Value}{H:Heap}{K:VH}(h:zDr t0 t1 H K):wCall P zjf [t0,t1] H K:=zga rfl (Eq.mpr (by kernel_rfl) h)
def zqi(t0 t1:Value)(H:Heap)(K:VH):Prop:=
wCall P znb [t0,(.int .i64 2)] H fun t7 H1=>
opW (zSb .i64 t7 H1) fun t8 H3=>
zIb (fun J=>
opP (zea t0) fun t10=>
opP (zfa 1 t10) fun t11=>
opW (zda t11 H3) fun t12 H8=>
opP ((zpa P .eql 67 true).f t12 (.int .i64 0)) fun t13=>
wIf t13 (
opP ((zpa P .gtr 3 false).f t8 t1) fun t17=>
opP (zna t13 t17 (.bool false)) fun t18=>
J [t0,t8,t18] H8) (
opP (zna t13 undef (.bool false)) fun t18_1=>
J [t0,t8,t18_1] H8)) (fun l H14=>
wIf (nth l 2) (
wCall P zgd [(nth l 0),(.int .i64 52)] H14 fun t20 H16=>
wCall P zXb [(nth l 0),(nth l 1)] H16 fun t23 H18=>
opW (zVa t23 H18) fun t24 H20=>
K t24 H20) (
wCall P zXb [(nth l 0),(nth l 1)] H14 fun t23_1 H22=>
opW (zVa t23_1 H22) fun t24_1 H24=>
K t24_1 H24))
theorem zUk{t0 t1:Value}{H:Heap}{K:VH}(h:zqi t0 t1 H K):wCall P zpe [t0,t1] H K:=zga rfl (Eq.mpr (by kernel_rfl) h)
def zRl(t0:Value)(H:Heap)(K:VH):Prop:=
zCb (zc P 49) H fun t2 H1=>
zCb (zc P 49) H1 fun t3 H3=>
opP (zJb 32 1 t3 none none none H3) fun t4=>
wCall P zWe [t0,(.int .i64 32)] H3 fun t6 H6=>
zSa (zRa H3 H6) (zBa [t3])∧(opW (zni 1 t4 t6 H6) fun t7 H8=>
opW (zka 32 t3 H8) fun t8 H10=>
opW (zha 32 t2 t8 H10) fun u H12=>
opW (zka 32 t2 H12) fun r _=>
K r H12)
theorem zco{t0:Value}{H:Heap}{K:VH}(h:zRl t0 H K):wCall P zqe [t0] H K:=zga rfl (Eq.mpr (by kernel_rfl) h)
def zzk(t0 t1:Value)(H:Heap)(K:VH):Prop:=
zIb (fun J=>
opP ((zpa P .lss 3 true).f t0 (.int .i64 1)) fun t6=>
wIf t6 (
opP (zna t6 (.bool true) undef) fun t10=>
wIf t10 (
K (.int .i64 0) H) (
J [t0,t1] H)) (
opP ((zpa P .lss 3 true).f t1 (.int .i64 1)) fun t9=>
opP (zna t6 (.bool true) t9) fun t10_1=>
wIf t10_1 (
K (.int .i64 0) H) (
J [t0,t1] H))) (fun l H6=>
opP ((zpa P .sub 3 true).f (nth l 0) (.int .i64 1)) fun t12=>
opP ((zpa P .quo 3 false).f t12 (nth l 1)) fun t14=>
opP ((zpa P .add 3 true).f t14 (.int .i64 1)) fun t15=>
K t15 H6)
theorem zWm{t0 t1:Value}{H:Heap}{K:VH}(h:zzk t0 t1 H K):wCall P zNd [t0,t1] H K:=zga rfl (Eq.mpr (by kernel_rfl) h)
def zsj(t0:Value)(H:Heap)(K:VH):Prop:=
opP (zea t0) fun t4=>
opP (zfa 1 t4) fun t5=>
opW (zda t5 H) fun t6 H3=>
opP ((zpa P .eql 67 true).f t6 (.int .i64 0)) fun t7=>
wIf t7 (
opP (zea t0) fun t10=>
opP (zfa 0 t10) fun t11=>
opW (zda t11 H3) fun t12 H8=>
opW (lenSl t12 H8) fun t13 H10=>
opP ((zpa P .gtr 3 true).f t13 (.int .i64 0)) fun t14=>
opP (zna t7 t14 (.bool false)) fun t15=>
wIf t15 (
K (.int .i64 52) H10) (
opP (zea t0) fun t17=>
opP (zfa 1 t17) fun t18=>
opW (zda t18 H10) fun t19 H16=>
K t19 H16)) (
opP (zna t7 undef (.bool false)) fun t15_1=>
wIf t15_1 (
K (.int .i64 52) H3) (
opP (zea t0) fun t17_1=>
opP (zfa 1 t17_1) fun t18_1=>
opW (zda t18_1 H3) fun t19_1 H21=>
K t19_1 H21))
theorem zSl{t0:Value}{H:Heap}{K:VH}(h:zsj t0 H K):wCall P zVe [t0] H K:=zga rfl (Eq.mpr (by kernel_rfl) h)
def zKn(H:Heap)(K:VH):Prop:=
zCb (zc P 164) H fun t0 H1=>
opP ((zAa P 164).f [(0,(.int .u32 1779033703)),(1,(.int .u32 3144134277)),(2,(.int .u32 1013904242)),(3,(.int .u32 2773480762)),(4,(.int .u32 1359893119)),(5,(.int .u32 2600822924)),(6,(.int .u32 528734635)),(7,(.int .u32 1541459225))]) fun t1=>
opW (zha 8 t0 t1 H1) fun u H4=>
opW (zka 8 t0 H4) fun r _=>
K r H4
theorem zFp{H:Heap}{K:VH}(h:zKn  H K):wCall P zWg [] H K:=zga rfl (Eq.mpr (by kernel_rfl) h)
noncomputable abbrev zSd:Code:=zMb P zsc 0
noncomputable abbrev zTd:Code:=zMb P zsc 1
def zdg(l:List Value)(H:Heap)(N:LN)(Qx:LX)(Qr:LN):Prop:=
opP ((zpa P .lss 3 true).f (nth l 5) (.int .i64 64)) fun t19=>
wIf t19 (
opP (zEa 8 1 (nth l 4) (.int .i64 0)) fun t21=>
opW (zda t21 H) fun t22 H3=>
opP (zEa 8 1 (nth l 4) (.int .i64 4)) fun t23=>
opW (zda t23 H3) fun t24 H6=>
opP (zEa 8 1 (nth l 4) (.int .i64 7)) fun t25=>
opW (zda t25 H6) fun t26 H9=>
opW ((zla P 234 3).f [(0,(.int .i64 6)),(1,(.int .i64 11)),(2,(.int .i64 25))] H9) fun t28 H11=>
wCall P zOc [t24,t28] H11 fun t29 H13=>
zSa (zRa H11 H13) (zBa [t25])∧(opP ((zpa P .add 162 false).f t26 t29) fun t30=>
opP (zEa 8 1 (nth l 4) (.int .i64 5)) fun t32=>
opW (zda t32 H13) fun t33 H17=>
zSa (zRa H11 H13) (zBa [t32])∧(znq (zBa [t32]) H9.next H11.next∧(opP ((zpa P .and 162 false).f t24 t33) fun t34=>
opP (unA .xor t24) fun t36=>
opP (zEa 8 1 (nth l 4) (.int .i64 6)) fun t37=>
opW (zda t37 H17) fun t38 H22=>
zSa (zRa H11 H13) (zBa [t37])∧(znq (zBa [t37]) H9.next H11.next∧(opP ((zpa P .and 162 false).f t36 t38) fun t39=>
opP ((zpa P .xor 162 false).f t34 t39) fun t40=>
opP ((zpa P .add 162 false).f t30 t40) fun t41=>
opP (zea (nth l 3)) fun t44=>
opP (zEa 64 1 t44 (nth l 5)) fun t45=>
opW (zda t45 H22) fun t46 H29=>
zSa (zRa H11 H13) (zBa [t45])∧(znq (zBa [t45]) H9.next H11.next∧(opP ((zpa P .add 162 false).f t41 t46) fun t47=>
opP (zEa 64 1 (nth l 2) (nth l 5)) fun t49=>
opW (zda t49 H29) fun t50 H33=>
zSa (zRa H11 H13) (zBa [t49])∧(znq (zBa [t49]) H9.next H11.next∧(opP ((zpa P .add 162 false).f t47 t50) fun t51=>
opW ((zla P 234 3).f [(0,(.int .i64 2)),(1,(.int .i64 13)),(2,(.int .i64 22))] H33) fun t53 H36=>
wCall P zOc [t22,t53] H36 fun t54 H38=>
opP (zEa 8 1 (nth l 4) (.int .i64 1)) fun t56=>
opW (zda t56 H38) fun t57 H41=>
zSa (zRa H36 H38) (zBa [t56])∧(znq (zBa [t56]) H33.next H36.next∧(opP ((zpa P .and 162 false).f t22 t57) fun t58=>
opP (zEa 8 1 (nth l 4) (.int .i64 2)) fun t60=>
opW (zda t60 H41) fun t61 H45=>
zSa (zRa H36 H38) (zBa [t60])∧(znq (zBa [t60]) H33.next H36.next∧(opP ((zpa P .and 162 false).f t22 t61) fun t62=>
opP ((zpa P .xor 162 false).f t58 t62) fun t63=>
opP (zEa 8 1 (nth l 4) (.int .i64 1)) fun t64=>
opW (zda t64 H45) fun t65 H50=>
zSa (zRa H36 H38) (zBa [t64])∧(znq (zBa [t64]) H33.next H36.next∧(opP (zEa 8 1 (nth l 4) (.int .i64 2)) fun t66=>
opW (zda t66 H50) fun t67 H53=>
zSa (zRa H36 H38) (zBa [t66])∧(znq (zBa [t66]) H33.next H36.next∧(opP ((zpa P .and 162 false).f t65 t67) fun t68=>
opP ((zpa P .xor 162 false).f t63 t68) fun t69=>
opP ((zpa P .add 162 false).f t54 t69) fun t70=>
opP (zJb 8 1 (nth l 4) (some (.int .i64 1)) none none H53) fun t71=>
opP (zJb 8 1 (nth l 4) none (some (.int .i64 7)) none H53) fun t72=>
opW (zni 1 t71 t72 H53) fun t73 H60=>
opP (zEa 8 1 (nth l 4) (.int .i64 4)) fun t74=>
opW (zda t74 H60) fun t75 H63=>
opP ((zpa P .add 162 false).f t75 t51) fun t77=>
opP (zEa 8 1 (nth l 4) (.int .i64 4)) fun t78=>
opW (zha 1 t78 t77 H63) fun u H67=>
opP ((zpa P .add 162 false).f t51 t70) fun t81=>
opP (zEa 8 1 (nth l 4) (.int .i64 0)) fun t82=>
opW (zha 1 t82 t81 H67) fun u_1 H71=>
opP ((zpa P .add 3 true).f (nth l 5) (.int .i64 1)) fun t83=>
N [(nth l 0),(nth l 1),(nth l 2),(nth l 3),(nth l 4),t83] H71)))))))))))))))))) (
Qx 0 [(nth l 0),(nth l 1),(nth l 4)] H)
theorem zei:LpI P 97 zSd 148 zdg:=.mk (by kernel_rfl) fun l H N Qx Qr=>by kernel_rfl
def zeg(l:List Value)(H:Heap)(N:LN)(Qx:LX)(Qr:LN):Prop:=
opP ((zpa P .lss 3 true).f (nth l 3) (.int .i64 8)) fun t85=>
wIf t85 (
opP (zEa 8 1 (nth l 0) (nth l 3)) fun t88=>
opW (zda t88 H) fun t89 H3=>
opP (zEa 8 1 (nth l 2) (nth l 3)) fun t91=>
opW (zda t91 H3) fun t92 H6=>
opP ((zpa P .add 162 false).f t89 t92) fun t93=>
opP (zEa 8 1 (nth l 0) (nth l 3)) fun t94=>
opW (zha 1 t94 t93 H6) fun u H10=>
opP ((zpa P .add 3 true).f (nth l 3) (.int .i64 1)) fun t95=>
N [(nth l 0),(nth l 1),(nth l 2),t95] H10) (
Qx 2 [(nth l 0),(nth l 1)] H)
theorem zfi:LpI P 97 zTd 20 zeg:=.mk (by kernel_rfl) fun l H N Qx Qr=>by kernel_rfl
def zri(t0 t1:Value)(H:Heap)(K:VH):Prop:=
zCb (zza t0) H fun t2 H1=>
zCb (zc P 164) H1 fun t4 H3=>
wCall P zre [t1] H3 fun t15 H5=>
wCall P zYg [] H5 fun t16 H7=>
zCb (zc P 208) H7 fun t5 H9=>
opW (zha 64 t5 t15 H9) fun u H11=>
opW (zka 8 t2 H11) fun t17 H13=>
zCb (zc P 164) H13 fun t7 H15=>
opW (zha 8 t7 t17 H15) fun u_1 H17=>
zHb P true 97 zSd 148 [t2,t4,t5,t16,t7,(.int .i64 0)] H17 (fun id l H19=>
cond (Nat.beq id 0) (
zHb P true 97 zTd 20 [(nth l 0),(nth l 1),(nth l 2),(.int .i64 0)] H19 (fun id l_1 H21=>
cond (Nat.beq id 2) (
opW (zka 8 (nth l_1 0) H21) fun t96 H23=>
opW (zha 8 (nth l_1 1) t96 H23) fun u_2 H25=>
opW (zka 8 (nth l_1 1) H25) fun r _=>
K r H25) (
False)) (fun l_1 H21=>
opW (zka 8 (nth l_1 1) H21) fun r_1 _=>
K r_1 H21)) (
False)) (fun l H19=>
opW (zka 8 (nth l 1) H19) fun r_2 _=>
K r_2 H19)
theorem zVk{t0 t1:Value}{H:Heap}{K:VH}(h:zri t0 t1 H K):wCall P zsc [t0,t1] H K:=zga rfl (Eq.mpr (by kernel_rfl) h)
def zLn(t0 t1:Value)(H:Heap)(K:VH):Prop:=
wCall P zic [t0,(.int .i64 2)] H fun t7 H1=>
opW (zSb .i64 t7 H1) fun t8 H3=>
zIb (fun J=>
opP (zea t0) fun t10=>
opP (zfa 1 t10) fun t11=>
opW (zda t11 H3) fun t12 H8=>
opP ((zpa P .eql 3 true).f t12 (.int .i64 0)) fun t13=>
wIf t13 (
opP ((zpa P .gtr 3 false).f t8 t1) fun t17=>
opP (zna t13 t17 (.bool false)) fun t18=>
J [t0,t8,t18] H8) (
opP (zna t13 undef (.bool false)) fun t18_1=>
J [t0,t8,t18_1] H8)) (fun l H14=>
wIf (nth l 2) (
opP (zea (nth l 0)) fun t20=>
opP (zfa 1 t20) fun t21=>
opW (zha 1 t21 (.int .i64 52) H14) fun u H18=>
wCall P zXe [(nth l 0),(nth l 1)] H18 fun t24 H20=>
opW (zVa t24 H20) fun t25 H22=>
K t25 H22) (
wCall P zXe [(nth l 0),(nth l 1)] H14 fun t24_1 H24=>
opW (zVa t24_1 H24) fun t25_1 H26=>
K t25_1 H26))
theorem zGp{t0 t1:Value}{H:Heap}{K:VH}(h:zLn t0 t1 H K):wCall P zXg [t0,t1] H K:=zga rfl (Eq.mpr (by kernel_rfl) h)
noncomputable abbrev zsi:Code:=zMb P zic 0
def zti(l:List Value)(H:Heap)(N:LN)(Qx:LX)(Qr:LN):Prop:=
opP ((zpa P .lss 3 false).f (nth l 5) (nth l 4)) fun t15=>
wIf t15 (
opP (zQc 1 (nth l 3) (nth l 5)) fun t16=>
opW (zda t16 H) fun t17 H3=>
opW (zSb .u64 t17 H3) fun t20 H5=>
opP ((zpa P .mul 23 false).f t20 (nth l 2)) fun t22=>
opP ((zpa P .add 23 false).f (nth l 1) t22) fun t23=>
opP ((zpa P .mul 23 true).f (nth l 2) (.int .u64 256)) fun t25=>
opP ((zpa P .add 3 true).f (nth l 5) (.int .i64 1)) fun t26=>
N [(nth l 0),t23,t25,(nth l 3),(nth l 4),t26] H5) (
Qx 0 [(nth l 0),(nth l 1)] H)
theorem zdk:LpI P 28 zsi 48 zti:=.mk (by kernel_rfl) fun l H N Qx Qr=>by kernel_rfl
def zTl(t0 t1:Value)(H:Heap)(K:VH):Prop:=
wCall P zEg [t1] H fun t11 H1=>
wCall P zXe [t0,t11] H1 fun t12 H3=>
opW (lenSl t12 H3) fun t13 H5=>
zHb P true 28 zsi 48 [(.int .u64 0),(.int .u64 0),(.int .u64 1),t12,t13,(.int .i64 0)] H5 (fun id l H7=>
cond (Nat.beq id 0) (
K (nth l 1) H7) (
False)) (fun l H7=>
K (nth l 0) H7)
theorem zdo{t0 t1:Value}{H:Heap}{K:VH}(h:zTl t0 t1 H K):wCall P zic [t0,t1] H K:=zga rfl (Eq.mpr (by kernel_rfl) h)
noncomputable abbrev zgi:Code:=zMb P zkf 0
def zUl(l:List Value)(H:Heap)(N:LN)(Qx:LX)(Qr:LN):Prop:=
opP ((zpa P .lss 3 false).f (nth l 4) (nth l 3)) fun t11=>
wIf t11 (
opP (zQc 1 (nth l 2) (nth l 4)) fun t13=>
opW (zda t13 H) fun t14 H3=>
opP (zEa 32 1 (nth l 1) (nth l 4)) fun t17=>
opW (zha 1 t17 t14 H3) fun u H6=>
opP ((zpa P .add 3 true).f (nth l 4) (.int .i64 1)) fun t18=>
N [(nth l 0),(nth l 1),(nth l 2),(nth l 3),t18] H6) (
Qx 0 [(nth l 0),(nth l 1)] H)
theorem zXm:LpI P 20 zgi 12 zUl:=.mk (by kernel_rfl) fun l H N Qx Qr=>by kernel_rfl
def zEr(t0:Value)(H:Heap)(K:VH):Prop:=
zCb (zc P 49) H fun t2 H1=>
opP ((zAa P 49).f []) fun t6=>
zCb (zc P 49) H1 fun t3 H4=>
opW (zha 32 t3 t6 H4) fun u H6=>
wCall P zXe [t0,(.int .i64 32)] H6 fun t8 H8=>
opW (lenSl t8 H8) fun t9 H10=>
zHb P true 20 zgi 12 [t2,t3,t8,t9,(.int .i64 0)] H10 (fun id l H12=>
cond (Nat.beq id 0) (
opW (zka 32 (nth l 1) H12) fun t19 H14=>
opW (zha 32 (nth l 0) t19 H14) fun u_1 H16=>
opW (zka 32 (nth l 0) H16) fun r _=>
K r H16) (
False)) (fun l H12=>
opW (zka 32 (nth l 0) H12) fun r_1 _=>
K r_1 H12)
theorem zWs{t0:Value}{H:Heap}{K:VH}(h:zEr t0 H K):wCall P zkf [t0] H K:=zga rfl (Eq.mpr (by kernel_rfl) h)
def bytes_Equal(t0 t1:Value)(H:Heap)(K:VH):Prop:=
opW (zVa t0 H) fun t6 H1=>
opW (zVa t1 H1) fun t8 H3=>
opP ((zpa P .eql 9 false).f t6 t8) fun t9=>
K t9 H3
theorem zIq{t0 t1:Value}{H:Heap}{K:VH}(h:bytes_Equal t0 t1 H K):wCall P zZh [t0,t1] H K:=zga rfl (Eq.mpr (by kernel_rfl) h)
def zJd(t0:Value)(H:Heap)(K:VH):Prop:=
zCb (zza t0) H fun t1 H1=>
K (.func (.func zfb) [].toArray [t1].toArray) H1
theorem zJf{t0:Value}{H:Heap}{K:VH}(h:zJd t0 H K):wCall P zod [t0] H K:=zga rfl (Eq.mpr (by kernel_rfl) h)
def zui(t0 t1:Value)(H:Heap)(K:VH):Prop:=
opW (zze H (zSE [t1,(.int .i64 0)])) fun t7 H1=>
zIb (fun J=>
opP (zea t0) fun t9=>
opP (zfa 1 t9) fun t10=>
opW (zda t10 H1) fun t11 H6=>
opP ((zpa P .neq 67 true).f t11 (.int .i64 0)) fun t12=>
wIf t12 (
opP (zna t12 (.bool true) undef) fun t21=>
J [t0,t7,t21] H6) (
opP (zea t0) fun t16=>
opP (zfa 0 t16) fun t17=>
opW (zda t17 H6) fun t18 H12=>
opW (lenSl t18 H12) fun t19 H14=>
opP ((zpa P .gtr 3 false).f t7 t19) fun t20=>
opP (zna t12 (.bool true) t20) fun t21_1=>
J [t0,t7,t21_1] H14)) (fun l H18=>
wIf (nth l 2) (
wCall P zgd [(nth l 0),(.int .i64 51)] H18 fun t23 H20=>
K (.slice none 0 0) H20) (
opP (zea (nth l 0)) fun t25=>
opP (zfa 0 t25) fun t26=>
opW (zda t26 H18) fun t27 H24=>
opP (zTa 1 t27 none (some (nth l 1)) none) fun t29=>
opP (zea (nth l 0)) fun t32=>
opP (zfa 0 t32) fun t33=>
opW (zda t33 H24) fun t34 H29=>
opP (zTa 1 t34 (some (nth l 1)) none none) fun t36=>
opP (zea (nth l 0)) fun t37=>
opP (zfa 0 t37) fun t38=>
opW (zha 1 t38 t36 H29) fun u H34=>
K t29 H34))
theorem zWk{t0 t1:Value}{H:Heap}{K:VH}(h:zui t0 t1 H K):wCall P zXb [t0,t1] H K:=zga rfl (Eq.mpr (by kernel_rfl) h)
def zHp(t0:Value)(H:Heap)(K:VH):Prop:=
opW (zze H (zWC [t0,(.int .i64 8)])) fun t4 H1=>
opW (zze H1 (zSE [(.int .i64 0),t4])) fun t5 H3=>
K t5 H3
theorem zJq{t0:Value}{H:Heap}{K:VH}(h:zHp t0 H K):wCall P zai [t0] H K:=zga rfl (Eq.mpr (by kernel_rfl) h)
def zvi(t0 t1:Value)(H:Heap)(K:VH):Prop:=
opP (zea t0) fun t5=>
opP (zfa 1 t5) fun t6=>
opW (zda t6 H) fun t7 H3=>
opP ((zpa P .eql 67 true).f t7 (.int .i64 0)) fun t8=>
wIf t8 (
opP (zea t0) fun t11=>
opP (zfa 1 t11) fun t12=>
opW (zha 1 t12 t1 H3) fun u H8=>
opP (zea t0) fun t14=>
opP (zfa 0 t14) fun t15=>
opW (zha 1 t15 (.slice none 0 0) H8) fun u_1 H12=>
K (.tuple [].toArray) H12) (
opP (zea t0) fun t14_1=>
opP (zfa 0 t14_1) fun t15_1=>
opW (zha 1 t15_1 (.slice none 0 0) H3) fun u_2 H16=>
K (.tuple [].toArray) H16)
theorem zXk{t0 t1:Value}{H:Heap}{K:VH}(h:zvi t0 t1 H K):wCall P zgd [t0,t1] H K:=zga rfl (Eq.mpr (by kernel_rfl) h)
def ztj(t0 t1:Value)(H:Heap)(K:VH):Prop:=
wCall P zXb [t0,t1] H fun t7 H1=>
wCall P zWb [t7] H1 fun t8 H3=>
K t8 H3
theorem zVl{t0 t1:Value}{H:Heap}{K:VH}(h:ztj t0 t1 H K):wCall P zWe [t0,t1] H K:=zga rfl (Eq.mpr (by kernel_rfl) h)
noncomputable abbrev zwi:Code:=zMb P zre 0
def zxi(l:List Value)(H:Heap)(N:LN)(Qx:LX)(Qr:LN):Prop:=
opP ((zpa P .lss 3 true).f (nth l 3) (.int .i64 64)) fun t8=>
wIf t8 (
opP ((zpa P .lss 3 true).f (nth l 3) (.int .i64 16)) fun t11=>
wIf t11 (
opP ((zpa P .mul 3 true).f (.int .i64 4) (nth l 3)) fun t15=>
opP (zQc 1 (nth l 0) t15) fun t16=>
opW (zda t16 H) fun t17 H5=>
opW (zSb .u32 t17 H5) fun t18 H7=>
opP ((zpa P .shl 162 true).f t18 (.int .u64 24)) fun t19=>
opP ((zpa P .mul 3 true).f (.int .i64 4) (nth l 3)) fun t22=>
opP ((zpa P .add 3 true).f t22 (.int .i64 1)) fun t23=>
opP (zQc 1 (nth l 0) t23) fun t24=>
opW (zda t24 H7) fun t25 H13=>
opW (zSb .u32 t25 H13) fun t26 H15=>
opP ((zpa P .shl 162 true).f t26 (.int .u64 16)) fun t27=>
opP ((zpa P .or 162 false).f t19 t27) fun t28=>
opP ((zpa P .mul 3 true).f (.int .i64 4) (nth l 3)) fun t31=>
opP ((zpa P .add 3 true).f t31 (.int .i64 2)) fun t32=>
opP (zQc 1 (nth l 0) t32) fun t33=>
opW (zda t33 H15) fun t34 H22=>
opW (zSb .u32 t34 H22) fun t35 H24=>
opP ((zpa P .shl 162 true).f t35 (.int .u64 8)) fun t36=>
opP ((zpa P .or 162 false).f t28 t36) fun t37=>
opP ((zpa P .mul 3 true).f (.int .i64 4) (nth l 3)) fun t40=>
opP ((zpa P .add 3 true).f t40 (.int .i64 3)) fun t41=>
opP (zQc 1 (nth l 0) t41) fun t42=>
opW (zda t42 H24) fun t43 H31=>
opW (zSb .u32 t43 H31) fun t44 H33=>
opP ((zpa P .or 162 false).f t37 t44) fun t45=>
opP (zEa 64 1 (nth l 2) (nth l 3)) fun t46=>
opW (zha 1 t46 t45 H33) fun u H37=>
opP ((zpa P .add 3 true).f (nth l 3) (.int .i64 1)) fun t80=>
N [(nth l 0),(nth l 1),(nth l 2),t80] H37) (
opP ((zpa P .sub 3 true).f (nth l 3) (.int .i64 15)) fun t48=>
opP (zEa 64 1 (nth l 2) t48) fun t49=>
opW (zda t49 H) fun t50 H42=>
opP ((zpa P .sub 3 true).f (nth l 3) (.int .i64 2)) fun t52=>
opP (zEa 64 1 (nth l 2) t52) fun t53=>
opW (zda t53 H42) fun t54 H46=>
opP ((zpa P .sub 3 true).f (nth l 3) (.int .i64 16)) fun t57=>
opP (zEa 64 1 (nth l 2) t57) fun t58=>
opW (zda t58 H46) fun t59 H50=>
opW ((zla P 234 2).f [(0,(.int .i64 7)),(1,(.int .i64 18))] H50) fun t61 H52=>
wCall P zOc [t50,t61] H52 fun t62 H54=>
zSa (zRa H52 H54) (zBa [t58])∧(opP ((zpa P .shr 162 true).f t50 (.int .u64 3)) fun t64=>
opP ((zpa P .xor 162 false).f t62 t64) fun t65=>
opP ((zpa P .add 162 false).f t59 t65) fun t66=>
opP ((zpa P .sub 3 true).f (nth l 3) (.int .i64 7)) fun t68=>
opP (zEa 64 1 (nth l 2) t68) fun t69=>
opW (zda t69 H54) fun t70 H61=>
zSa (zRa H52 H54) (zBa [t69])∧(znq (zBa [t69]) H50.next H52.next∧(opP ((zpa P .add 162 false).f t66 t70) fun t71=>
opW ((zla P 234 2).f [(0,(.int .i64 17)),(1,(.int .i64 19))] H61) fun t73 H64=>
wCall P zOc [t54,t73] H64 fun t74 H66=>
zSa (zRa H64 H66) (zBa [t69])∧(zSa (zRa H64 H66) (zBa [t58])∧(opP ((zpa P .shr 162 true).f t54 (.int .u64 10)) fun t76=>
opP ((zpa P .xor 162 false).f t74 t76) fun t77=>
opP ((zpa P .add 162 false).f t71 t77) fun t78=>
opP (zEa 64 1 (nth l 2) (nth l 3)) fun t79=>
opW (zha 1 t79 t78 H66) fun u_1 H72=>
opP ((zpa P .add 3 true).f (nth l 3) (.int .i64 1)) fun t80_1=>
N [(nth l 0),(nth l 1),(nth l 2),t80_1] H72))))))) (
Qx 0 [(nth l 1),(nth l 2)] H)
theorem zek:LpI P 82 zwi 12 zxi:=.mk (by kernel_rfl) fun l H N Qx Qr=>by kernel_rfl
def zWl(t0:Value)(H:Heap)(K:VH):Prop:=
zCb (zc P 208) H fun t2 H1=>
zCb (zc P 208) H1 fun t3 H3=>
zHb P true 82 zwi 12 [t0,t2,t3,(.int .i64 0)] H3 (fun id l H5=>
cond (Nat.beq id 0) (
opW (zka 64 (nth l 1) H5) fun t81 H7=>
opW (zha 64 (nth l 0) t81 H7) fun u H9=>
opW (zka 64 (nth l 0) H9) fun r _=>
K r H9) (
False)) (fun l H5=>
opW (zka 64 (nth l 0) H5) fun r_1 _=>
K r_1 H5)
theorem zeo{t0:Value}{H:Heap}{K:VH}(h:zWl t0 H K):wCall P zre [t0] H K:=zga rfl (Eq.mpr (by kernel_rfl) h)
def zMn(H:Heap)(K:VH):Prop:=
opP ((zAa P 208).f [(0,(.int .u32 1116352408)),(1,(.int .u32 1899447441)),(2,(.int .u32 3049323471)),(3,(.int .u32 3921009573)),(4,(.int .u32 961987163)),(5,(.int .u32 1508970993)),(6,(.int .u32 2453635748)),(7,(.int .u32 2870763221)),(8,(.int .u32 3624381080)),(9,(.int .u32 310598401)),(10,(.int .u32 607225278)),(11,(.int .u32 1426881987)),(12,(.int .u32 1925078388)),(13,(.int .u32 2162078206)),(14,(.int .u32 2614888103)),(15,(.int .u32 3248222580)),(16,(.int .u32 3835390401)),(17,(.int .u32 4022224774)),(18,(.int .u32 264347078)),(19,(.int .u32 604807628)),(20,(.int .u32 770255983)),(21,(.int .u32 1249150122)),(22,(.int .u32 1555081692)),(23,(.int .u32 1996064986)),(24,(.int .u32 2554220882)),(25,(.int .u32 2821834349)),(26,(.int .u32 2952996808)),(27,(.int .u32 3210313671)),(28,(.int .u32 3336571891)),(29,(.int .u32 3584528711)),(30,(.int .u32 113926993)),(31,(.int .u32 338241895)),(32,(.int .u32 666307205)),(33,(.int .u32 773529912)),(34,(.int .u32 1294757372)),(35,(.int .u32 1396182291)),(36,(.int .u32 1695183700)),(37,(.int .u32 1986661051)),(38,(.int .u32 2177026350)),(39,(.int .u32 2456956037)),(40,(.int .u32 2730485921)),(41,(.int .u32 2820302411)),(42,(.int .u32 3259730800)),(43,(.int .u32 3345764771)),(44,(.int .u32 3516065817)),(45,(.int .u32 3600352804)),(46,(.int .u32 4094571909)),(47,(.int .u32 275423344)),(48,(.int .u32 430227734)),(49,(.int .u32 506948616)),(50,(.int .u32 659060556)),(51,(.int .u32 883997877)),(52,(.int .u32 958139571)),(53,(.int .u32 1322822218)),(54,(.int .u32 1537002063)),(55,(.int .u32 1747873779)),(56,(.int .u32 1955562222)),(57,(.int .u32 2024104815)),(58,(.int .u32 2227730452)),(59,(.int .u32 2361852424)),(60,(.int .u32 2428436474)),(61,(.int .u32 2756734187)),(62,(.int .u32 3204031479)),(63,(.int .u32 3329325298))]) fun t1=>
zCb (zza t1) H fun t2 H2=>
K t2 H2
theorem zIp{H:Heap}{K:VH}(h:zMn  H K):wCall P zYg [] H K:=zga rfl (Eq.mpr (by kernel_rfl) h)
noncomputable abbrev zAk:Code:=zMb P zOc 0
def zBk(l:List Value)(H:Heap)(N:LN)(Qx:LX)(Qr:LN):Prop:=
opP ((zpa P .lss 3 false).f (nth l 5) (nth l 4)) fun t11=>
wIf t11 (
opP (zQc 1 (nth l 3) (nth l 5)) fun t12=>
opW (zda t12 H) fun t13 H3=>
opP (unA .neg t13) fun t17=>
wCall P zFc [(nth l 0),t17] H3 fun t18 H6=>
opP ((zpa P .xor 162 false).f (nth l 2) t18) fun t19=>
opP ((zpa P .add 3 true).f (nth l 5) (.int .i64 1)) fun t20=>
N [(nth l 0),(nth l 1),t19,(nth l 3),(nth l 4),t20] H6) (
Qx 0 [(nth l 1),(nth l 2)] H)
theorem zXl:LpI P 22 zAk 48 zBk:=.mk (by kernel_rfl) fun l H N Qx Qr=>by kernel_rfl
def zJp(t0 t1:Value)(H:Heap)(K:VH):Prop:=
opW (lenSl t1 H) fun t9 H1=>
zHb P true 22 zAk 48 [t0,(.int .u32 0),(.int .u32 0),t1,t9,(.int .i64 0)] H1 (fun id l H3=>
cond (Nat.beq id 0) (
K (nth l 1) H3) (
False)) (fun l H3=>
K (nth l 0) H3)
theorem zKq{t0 t1:Value}{H:Heap}{K:VH}(h:zJp t0 t1 H K):wCall P zOc [t0,t1] H K:=zga rfl (Eq.mpr (by kernel_rfl) h)
def zFu(t0 t1:Value)(H:Heap)(K:VH):Prop:=
zIb (fun J=>
opP ((zpa P .lss 3 true).f t1 (.int .i64 0)) fun t7=>
wIf t7 (
J [t0,(.int .i64 0)] H) (
J [t0,t1] H)) (fun l H3=>
zIb (fun J_1=>
zIb (fun J_2=>
opP (zea (nth l 0)) fun t9=>
opP (zfa 1 t9) fun t10=>
opW (zda t10 H3) fun t11 H9=>
opP ((zpa P .eql 3 true).f t11 (.int .i64 0)) fun t12=>
wIf t12 (
opP (zea (nth l 0)) fun t16=>
opP (zfa 0 t16) fun t17=>
opW (zda t17 H9) fun t18 H14=>
opW (lenSl t18 H14) fun t19 H16=>
opP ((zpa P .gtr 3 false).f (nth l 1) t19) fun t20=>
opP (zna t12 t20 (.bool false)) fun t21=>
J_2 [(nth l 0),(nth l 1),t21] H16) (
opP (zna t12 undef (.bool false)) fun t21_1=>
J_2 [(nth l 0),(nth l 1),t21_1] H9)) (fun l_1 H21=>
wIf (nth l_1 2) (
opP (zea (nth l_1 0)) fun t23=>
opP (zfa 1 t23) fun t24=>
opW (zha 1 t24 (.int .i64 51) H21) fun u H25=>
J_1 [(nth l_1 0),(nth l_1 1)] H25) (
J_1 [(nth l_1 0),(nth l_1 1)] H21))) (fun l_2 H27=>
opP (zea (nth l_2 0)) fun t26=>
opP (zfa 1 t26) fun t27=>
opW (zda t27 H27) fun t28 H31=>
opP ((zpa P .neq 3 true).f t28 (.int .i64 0)) fun t29=>
wIf t29 (
opP (zea (nth l_2 0)) fun t31=>
opP (zfa 0 t31) fun t32=>
opW (zha 1 t32 (.slice none 0 0) H31) fun u_1 H36=>
K (.slice none 0 0) H36) (
opW ((zla P 22 0).f [] H31) fun t33 H38=>
opP (zea (nth l_2 0)) fun t35=>
opP (zfa 0 t35) fun t36=>
opW (zda t36 H38) fun t37 H42=>
opP (zTa 1 t37 none (some (nth l_2 1)) none) fun t39=>
opW (zsa 1 1 t33 t39 H42) fun t40 H45=>
opP (zea (nth l_2 0)) fun t43=>
opP (zfa 0 t43) fun t44=>
opW (zda t44 H45) fun t45 H49=>
opP (zTa 1 t45 (some (nth l_2 1)) none none) fun t47=>
opP (zea (nth l_2 0)) fun t48=>
opP (zfa 0 t48) fun t49=>
opW (zha 1 t49 t47 H49) fun u_2 H54=>
K t40 H54)))
theorem zGu{t0 t1:Value}{H:Heap}{K:VH}(h:zFu t0 t1 H K):wCall P zXe [t0,t1] H K:=zga rfl (Eq.mpr (by kernel_rfl) h)
noncomputable abbrev zIc:Code:=zMb P zfb 0
def zJc(l:List Value)(H:Heap)(N:LN)(Qx:LX)(Qr:LN):Prop:=
opP ((zpa P .geq 3 true).f (nth l 2) (.int .i64 0)) fun t8=>
wIf t8 (
opW (zda (nth l 1) H) fun t13 H2=>
opP (zQc 1 t13 (nth l 2)) fun t15=>
opW (zda t15 H2) fun t16 H5=>
zHH P (zKh (nth l 0) [(nth l 2),t16]) H5 fun t17 H7=>
opP (unA .not t17) fun t18=>
wIf t18 (
Qr [] H7) (
opP ((zpa P .sub 3 true).f (nth l 2) (.int .i64 1)) fun t10=>
N [(nth l 0),(nth l 1),t10] H7)) (
Qx 0 [] H)
theorem zce:LpI P 19 zIc 0 zJc:=.mk (by kernel_rfl) fun l H N Qx Qr=>by kernel_rfl
def zpd(t0 t1:Value)(H:Heap)(K:VH):Prop:=
opW (zda t1 H) fun t4 H1=>
opW (lenSl t4 H1) fun t5 H3=>
opP ((zpa P .sub 3 true).f t5 (.int .i64 1)) fun t6=>
zHb P true 19 zIc 0 [t0,t1,t6] H3 (fun id l H6=>
cond (Nat.beq id 0) (
K (.tuple [].toArray) H6) (
False)) (fun l H6=>
K (.tuple [].toArray) H6)
theorem zlf{t0 t1:Value}{H:Heap}{K:VH}(h:zpd t0 t1 H K):wCall P zfb [t0,t1] H K:=zga rfl (Eq.mpr (by kernel_rfl) h)
def zHe(t0 t1:Value)(H:Heap)(K:VH):Prop:=
opW (zSb .u64 t1 H) fun t7 H1=>
opP ((zpa P .and 119 true).f t7 (.int .u64 31)) fun t8=>
opP ((zpa P .shl 162 false).f t0 t8) fun t11=>
opP ((zpa P .sub 119 true).f (.int .u64 32) t8) fun t14=>
opP ((zpa P .shr 162 false).f t0 t14) fun t15=>
opP ((zpa P .or 162 false).f t11 t15) fun t16=>
K t16 H1
theorem zch{t0 t1:Value}{H:Heap}{K:VH}(h:zHe t0 t1 H K):wCall P zFc [t0,t1] H K:=zga rfl (Eq.mpr (by kernel_rfl) h)
end
end J
