/- texts of the proof, one behind the other -/
import Derived.KernelRfl
import Derived.Test.YtlkkkfmjfpeooaaGreatDoorUA
set_option linter.unusedSimpArgs false
set_option linter.unusedSectionVars false
set_option linter.unusedVariables false
set_option maxRecDepth 100000
namespace J
open Go Go.Ab
noncomputable abbrev P:Program:=Go.Proofs.Tryz.prog
noncomputable section
abbrev zqb:Nat:=3
abbrev zje:Nat:=4
abbrev znc:Nat:=5
abbrev zCb:Nat:=6
abbrev zYd:Nat:=7
abbrev zZc:Nat:=8
abbrev zDb:Nat:=9
abbrev zad:Nat:=10
abbrev zIb:Nat:=11
abbrev zgj:Nat:=12
abbrev zza:Nat:=13
abbrev zGa:Nat:=14
abbrev zRa:Nat:=15
abbrev zrb:Nat:=16
abbrev zHe:Nat:=17
abbrev zJc:Nat:=18
abbrev zOb:Nat:=19
abbrev zXb:Nat:=20
abbrev zAf:Nat:=21
abbrev zke:Nat:=22
abbrev zhj:Nat:=23
abbrev zPc:Nat:=24
abbrev zEb:Nat:=25
abbrev zBf:Nat:=26
abbrev zCf:Nat:=27
abbrev zVj:Nat:=28
abbrev zXh:Nat:=29
abbrev zRk:Nat:=30
abbrev zId:Nat:=31
abbrev zSk:Nat:=32
abbrev zFc:Nat:=33
abbrev zle:Nat:=34
abbrev zKc:Nat:=35
abbrev zwc:Nat:=36
abbrev zme:Nat:=37
abbrev zne:Nat:=38
abbrev zYb:Nat:=39
abbrev zvb:Nat:=40
abbrev zxc:Nat:=41
abbrev zmd:Nat:=42
abbrev zJd:Nat:=43
abbrev zZb:Nat:=44
abbrev zyc:Nat:=45
abbrev zzc:Nat:=46
abbrev zQc:Nat:=47
abbrev zYh:Nat:=48
abbrev zSg:Nat:=49
abbrev zgb:Nat:=50
abbrev zYe:Nat:=51
abbrev zKd:Nat:=52
abbrev zzb:Nat:=53
abbrev zSe:Nat:=54
abbrev zLb:Nat:=55
abbrev zyb:Nat:=56
abbrev zRc:Nat:=57
abbrev zLd:Nat:=58
abbrev zSc:Nat:=59
abbrev zoe:Nat:=60
abbrev zMd:Nat:=61
abbrev zpe:Nat:=62
abbrev zIe:Nat:=63
abbrev zDg:Nat:=64
abbrev zbd:Nat:=65
abbrev zac:Nat:=66
abbrev znd:Nat:=68
abbrev zNd:Nat:=69
abbrev zDf:Nat:=70
abbrev zEg:Nat:=71
abbrev zjh:Nat:=72
abbrev zUb:Nat:=73
abbrev zSb:Nat:=74
abbrev zcd:Nat:=75
abbrev zif:Nat:=76
abbrev zod:Nat:=77
abbrev zij:Nat:=78
abbrev zPa:Nat:=79
abbrev zjb:Nat:=80
abbrev zAc:Nat:=81
abbrev zAd:Nat:=82
abbrev zOf:Nat:=83
abbrev zqe:Nat:=84
abbrev zZh:Nat:=85
abbrev zEf:Nat:=87
abbrev zpd:Nat:=88
abbrev zTg:Nat:=89
abbrev zVb:Nat:=90
abbrev zqd:Nat:=91
abbrev zjj:Nat:=92
abbrev zjf:Nat:=93
abbrev zZd:Nat:=94
abbrev zre:Nat:=97
abbrev zUg:Nat:=98
abbrev zBc:Nat:=99
abbrev zab:Nat:=102
abbrev zoc:Nat:=103
noncomputable instance:Orc:=Seal.orcS
instance (priority:=1) noBase:Base:=⟨fun _=>none,0⟩
theorem zjD{s:ByteArray}(hs:s.size < 4611686018427387904)(H:Heap):Orc.tab 92 [Value.string s] H=some (.int .i64 (Seal.nmF s s.size 0 0)):=by
 show cond (Nat.blt s.size 4611686018427387904) (some (Value.int .i64 (Seal.nmF s s.size 0 0))) none=_
 rw[show Nat.blt s.size 4611686018427387904=true from by rw[blt_eq]; exact decide_eq_true hs]
 rfl
theorem zsp{P:Program}{me:zGf}{f:FuncId}{args:List Value}{H:Heap}{v:Value}(h:Orc.tab f args H=some v):zMx P me (.call f args H)=some ⟨.ret,[v],H⟩:=by
 unfold zMx
 simp only[h]
theorem ztp{H:Heap}{K:VH}{s:ByteArray}(hs:s.size < 4611686018427387904)(hk:K (.int .i64 (Seal.nmF s s.size 0 0)) H):wCall P zjj [.string s] H K:=
 ⟨1,.ret,_,H,zsp (zjD hs H),hk⟩
theorem zay{r:Int}(h1:-2147483648≤r)(h2:r≤2147483647)(H:Heap):Orc.tab 71 [Value.int .i32 r] H=some (.bool (Go.Lib.isLetterU r)):=by
 show cond (decide (-2147483648≤r) && decide (r≤2147483647)) (some (Value.bool (Go.Lib.isLetterU r))) none=_
 rw[decide_eq_true h1,decide_eq_true h2]; rfl
theorem zwA{r:Int}(h1:-2147483648≤r)(h2:r≤2147483647)(H:Heap):Orc.tab 72 [Value.int .i32 r] H=some (.bool (Go.Lib.isDigitU r)):=by
 show cond (decide (-2147483648≤r) && decide (r≤2147483647)) (some (Value.bool (Go.Lib.isDigitU r))) none=_
 rw[decide_eq_true h1,decide_eq_true h2]; rfl
theorem zCv{H:Heap}{K:VH}{r:Int}(h1:-2147483648≤r)(h2:r≤2147483647)(hk:K (.bool (Go.Lib.isLetterU r)) H):wCall P zEg [.int .i32 r] H K:=
 ⟨1,.ret,_,H,zsp (zay h1 h2 H),hk⟩
theorem zby{H:Heap}{K:VH}{r:Int}(h1:-2147483648≤r)(h2:r≤2147483647)(hk:K (.bool (Go.Lib.isDigitU r)) H):wCall P zjh [.int .i32 r] H K:=
 ⟨1,.ret,_,H,zsp (zwA h1 h2 H),hk⟩
noncomputable abbrev zOd:Code:=zmb P zqb 0
noncomputable abbrev zPd:Code:=zmb P zqb 1
noncomputable abbrev zQd:Code:=zmb P zqb 2
noncomputable abbrev zRd:Code:=zmb P zqb 3
noncomputable abbrev zSd:Code:=zmb P zqb 4
def zPf(l:List Value)(H:Heap)(N:LN)(Qx:LX)(Qr:LN):Prop:=
opP ((zma P .lss 3 false).f (nth l 9) (nth l 8)) fun t73=>
wIf t73 (
opP (zld 1 (nth l 7) (nth l 9)) fun t74=>
opW (zba t74 H) fun t75 H3=>
zQb (fun J=>
opW (zhf .i64 t75 H3) fun t77 H6=>
opP ((zma P .lss 3 false).f t77 (nth l 2)) fun t79=>
wIf t79 (
opP (zea (nth l 5)) fun t82=>
opP (zfa 0 t82) fun t83=>
opW (zba t83 H6) fun t84 H11=>
opW (zhf .i64 t75 H11) fun t87 H13=>
opP ((zxa P 45).f [(0,(.int .u8 1))]) fun t88=>
wCall P zDb [t84,(nth l 4),t87,t88] H13 fun t89 H16=>
opP ((zma P .eql 36 true).f t89 (.int .i64 0)) fun t90=>
opP (zla t79 t90 (.bool false)) fun t91=>
J [(nth l 0),(nth l 1),(nth l 2),(nth l 3),(nth l 4),(nth l 5),(nth l 6),(nth l 7),(nth l 8),(nth l 9),t91] H16) (
opP (zla t79 undef (.bool false)) fun t91_1=>
J [(nth l 0),(nth l 1),(nth l 2),(nth l 3),(nth l 4),(nth l 5),(nth l 6),(nth l 7),(nth l 8),(nth l 9),t91_1] H6)) (fun l_1 H21=>
wIf (nth l_1 10) (
opP ((zma P .add 3 true).f (nth l_1 6) (.int .i64 1)) fun t93=>
opP ((zma P .add 3 true).f (nth l_1 9) (.int .i64 1)) fun t94=>
N [(nth l_1 0),(nth l_1 1),(nth l_1 2),(nth l_1 3),(nth l_1 4),(nth l_1 5),t93,(nth l_1 7),(nth l_1 8),t94] H21) (
opP ((zma P .add 3 true).f (nth l_1 9) (.int .i64 1)) fun t94_1=>
N [(nth l_1 0),(nth l_1 1),(nth l_1 2),(nth l_1 3),(nth l_1 4),(nth l_1 5),(nth l_1 6),(nth l_1 7),(nth l_1 8),t94_1] H21))) (
Qx 0 [(nth l 0),(nth l 1),(nth l 2),(nth l 3),(nth l 4),(nth l 5),(nth l 6)] H)
theorem zai:LpI P 270 zOd 478 zPf:=.mk (by kernel_rfl) fun l H N Qx Qr=>by kernel_rfl
def zQf(l:List Value)(H:Heap)(N:LN)(Qx:LX)(Qr:LN):Prop:=
opP ((zma P .lss 3 false).f (nth l 10) (nth l 9)) fun t124=>
wIf t124 (
opW (zpa 37 (nth l 3) H) fun t127 H2=>
wCall P zgj [t127,(nth l 10)] H2 fun t129 H4=>
opP (zxg 0 t129) fun t130=>
opP (zxg 1 t129) fun t131=>
opP (zfa 0 (nth l 0)) fun t134=>
opW (zba t134 H4) fun t135 H9=>
opP ((zma P .add 3 false).f t130 t131) fun t139=>
opP (zWa 1 t135 (some t130) (some t139) none) fun t140=>
opP ((zxa P 54).f [(0,(nth l 10)),(1,t140)]) fun t141=>
opW ((zoa P 50 1).f [(0,(.iface 54 t141))] H9) fun t143 H14=>
opW (zEa 1 16 (nth l 8) t143 H14) fun t144 H16=>
opP ((zma P .add 3 true).f (nth l 10) (.int .i64 1)) fun t145=>
N [(nth l 0),(nth l 1),(nth l 2),(nth l 3),(nth l 4),(nth l 5),(nth l 6),(nth l 7),t144,(nth l 9),t145] H16) (
Qx 2 [(nth l 0),(nth l 1),(nth l 2),(nth l 4),(nth l 5),(nth l 6),(nth l 7),(nth l 8)] H)
theorem zbi:LpI P 270 zPd 6606 zQf:=.mk (by kernel_rfl) fun l H N Qx Qr=>by kernel_rfl
def zRf(l:List Value)(H:Heap)(N:LN)(Qx:LX)(Qr:LN):Prop:=
opP ((zma P .lss 3 false).f (nth l 11) (nth l 10)) fun t154=>
wIf t154 (
opP (zld 1 (nth l 9) (nth l 11)) fun t155=>
opW (zba t155 H) fun t156 H3=>
opP (zea (nth l 4)) fun t158=>
opP (zfa 2 t158) fun t159=>
opW (zba t159 H3) fun t160 H7=>
wCall P zza [t160,t156] H7 fun t162 H9=>
opP (unA .not t162) fun t163=>
wIf t163 (
Qr [(nth l 0),(.bool false),(nth l 2),(nth l 3),(nth l 4),(nth l 5),(nth l 6),(nth l 7),(nth l 8)] H9) (
zdb P true 270 zRd 19981467697883438334816003572292931909358524878 [(nth l 0),(nth l 1),(nth l 2),(nth l 3),(nth l 4),(nth l 5),(nth l 6),(nth l 7),(nth l 8),(nth l 9),(nth l 10),(nth l 11)] H9 (fun id l_1 H12=>
cond (Nat.beq id 6) (
opP ((zma P .add 3 true).f (nth l_1 11) (.int .i64 1)) fun t173=>
N [(nth l_1 0),(nth l_1 1),(nth l_1 2),(nth l_1 3),(nth l_1 4),(nth l_1 5),(nth l_1 6),(nth l_1 7),(nth l_1 8),(nth l_1 9),(nth l_1 10),t173] H12) (
cond (Nat.beq id 5) (
opP ((zma P .add 3 true).f (nth l_1 11) (.int .i64 1)) fun t173_1=>
N [(nth l_1 0),(nth l_1 1),(nth l_1 2),(nth l_1 3),(nth l_1 4),(nth l_1 5),(nth l_1 6),(nth l_1 7),(nth l_1 8),(nth l_1 9),(nth l_1 10),t173_1] H12) (
Qx id [(nth l_1 0),(nth l_1 1),(nth l_1 2),(nth l_1 3),(nth l_1 4),(nth l_1 5),(nth l_1 6),(nth l_1 7),(nth l_1 8)] H12))) (fun l_1 H12=>
Qr [(nth l_1 0),(nth l_1 1),(nth l_1 2),(nth l_1 3),(nth l_1 4),(nth l_1 5),(nth l_1 6),(nth l_1 7),(nth l_1 8)] H12))) (
Qx 4 [(nth l 0),(nth l 1),(nth l 2),(nth l 3),(nth l 4),(nth l 5),(nth l 6),(nth l 7),(nth l 8)] H)
theorem zci:LpI P 270 zQd 72142 zRf:=.mk (by kernel_rfl) fun l H N Qx Qr=>by kernel_rfl
def zSf(l:List Value)(H:Heap)(N:LN)(Qx:LX)(Qr:LN):Prop:=
opP ((zma P .lss 3 false).f (nth l 8) (nth l 7)) fun t241=>
wIf t241 (
opP (zld 1 (nth l 6) (nth l 8)) fun t242=>
opW (zba t242 H) fun t243 H3=>
opP ((zma P .neq 5 true).f t243 (.int .u8 255)) fun t245=>
wIf t245 (
Qr [(nth l 0),(.bool false),(nth l 2),(nth l 3),(nth l 4),(nth l 5)] H3) (
opP ((zma P .add 3 true).f (nth l 8) (.int .i64 1)) fun t246=>
N [(nth l 0),(nth l 1),(nth l 2),(nth l 3),(nth l 4),(nth l 5),(nth l 6),(nth l 7),t246] H3)) (
Qx 8 [(nth l 0),(nth l 1),(nth l 2),(nth l 3),(nth l 4),(nth l 5)] H)
theorem zdi:LpI P 270 zSd 70022 zSf:=.mk (by kernel_rfl) fun l H N Qx Qr=>by kernel_rfl
def zTf(l:List Value)(H:Heap)(N:LN)(Qx:LX)(Qr:LN):Prop:=
opP (zea (nth l 4)) fun t165=>
opP (zfa 3 t165) fun t166=>
opW (zba t166 H) fun t167 H3=>
wCall P zGa [t167] H3 fun t168 H5=>
wIf t168 (
opP ((zma P .add 3 true).f (nth l 8) (.int .i64 1)) fun t170=>
opP ((zma P .gtr 3 true).f t170 (.int .i64 200)) fun t172=>
wIf t172 (
Qr [(nth l 0),(.bool false),(nth l 2),(nth l 3),(nth l 4),(nth l 5),(nth l 6),(nth l 7),t170,(nth l 9),(nth l 10),(nth l 11)] H5) (
N [(nth l 0),(nth l 1),(nth l 2),(nth l 3),(nth l 4),(nth l 5),(nth l 6),(nth l 7),t170,(nth l 9),(nth l 10),(nth l 11)] H5)) (
Qx 6 [(nth l 0),(nth l 1),(nth l 2),(nth l 3),(nth l 4),(nth l 5),(nth l 6),(nth l 7),(nth l 8),(nth l 9),(nth l 10),(nth l 11)] H5)
theorem zei:LpI P 270 zRd 19981467697883438334816003572292931909358524878 zTf:=.mk (by kernel_rfl) fun l H N Qx Qr=>by kernel_rfl
def zri(t0:Value)(H:Heap)(K:VH):Prop:=
zrc (zya t0) H fun t1 H1=>
wCall P zCb [] H1 fun t23 H3=>
opP (unA .not t23) fun t24=>
wIf t24 (
K (.bool false) H3) (
opP (zfa 2 t1) fun t25=>
opW (zba t25 H3) fun t26 H7=>
opW (zhf .i64 t26 H7) fun t27 H9=>
opP ((zma P .rem 3 true).f t27 (.int .i64 12)) fun t28=>
opP ((zma P .add 3 true).f (.int .i64 1) t28) fun t29=>
zQb (fun J=>
opP (zfa 0 t1) fun t30=>
opW (zba t30 H9) fun t31 H15=>
opW (lenSl t31 H15) fun t32 H17=>
opP ((zma P .gtr 3 true).f t32 (.int .i64 1000)) fun t33=>
wIf t33 (
opP (zla t33 (.bool true) undef) fun t41=>
opP (zla t41 (.bool true) undef) fun t47=>
wIf t47 (
K (.bool true) H17) (
J [t1,(.bool false),t29] H17)) (
opP (zfa 0 t1) fun t35=>
opW (zba t35 H17) fun t36 H23=>
opW (lenSl t36 H23) fun t37 H25=>
opP ((zma P .mul 3 true).f (.int .i64 64) t29) fun t39=>
opP ((zma P .gtr 3 false).f t37 t39) fun t40=>
opP (zla t33 (.bool true) t40) fun t41_1=>
wIf t41_1 (
opP (zla t41_1 (.bool true) undef) fun t47_1=>
wIf t47_1 (
K (.bool true) H25) (
J [t1,(.bool false),t29] H25)) (
opP (zfa 4 t1) fun t43=>
opW (zba t43 H25) fun t44 H32=>
opW (lenSl t44 H32) fun t45 H34=>
opP ((zma P .gtr 3 true).f t45 (.int .i64 30)) fun t46=>
opP (zla t41_1 (.bool true) t46) fun t47_2=>
wIf t47_2 (
K (.bool true) H34) (
J [t1,(.bool false),t29] H34)))) (fun l H38=>
opP (zfa 1 (nth l 0)) fun t49=>
opW (zba t49 H38) fun t50 H41=>
opW (zhf .i64 t50 H41) fun t51 H43=>
opP ((zma P .rem 3 true).f t51 (.int .i64 3)) fun t52=>
opP ((zma P .add 3 true).f (.int .i64 1) t52) fun t53=>
opP ((zma P .mul 3 true).f (.int .i64 64) t53) fun t54=>
opP (zfa 0 (nth l 0)) fun t55=>
opW (zba t55 H43) fun t56 H49=>
wCall P zYd [(.string ⟨#[99,111,114,101]⟩),(.int .u64 1),t54,t56] H49 fun t57 H51=>
opP (zxg 0 t57) fun t58=>
opP (zxg 1 t57) fun t59=>
zrc (zc P 31) H51 fun t4 H55=>
opW (zka 37 t4 t58 H55) fun u H57=>
opP ((zma P .neq 3 true).f t59 (.int .i64 0)) fun t61=>
wIf t61 (
K (.bool true) H57) (
zQb (fun J_1=>
opP (zfa 3 (nth l 0)) fun t62=>
opW (zba t62 H57) fun t63 H62=>
wIf t63 (
J_1 [(nth l 0),(nth l 1),(nth l 2),t4,(.int .i64 1)] H62) (
J_1 [(nth l 0),(nth l 1),(nth l 2),t4,(.int .i64 0)] H62)) (fun l_1 H64=>
wCall P zZc [(nth l_1 2),(.int .i64 100),(nth l_1 4),(.int .i64 1)] H64 fun t66 H66=>
opP ((zma P .eql 34 true).f t66 (.pointer none)) fun t68=>
wIf t68 (
K (.bool false) H66) (
opP (zfa 4 (nth l_1 0)) fun t69=>
opW (zba t69 H66) fun t70 H70=>
opW (lenSl t70 H70) fun t71 H72=>
zdb P true 270 zOd 478 [(nth l_1 0),(nth l_1 1),(nth l_1 2),(nth l_1 3),(nth l_1 4),t66,(.int .i64 0),t70,t71,(.int .i64 0)] H72 (fun id l_2 H74=>
cond (Nat.beq id 0) (
opP (zea (nth l_2 5)) fun t96=>
opP (zfa 0 t96) fun t97=>
opW (zba t97 H74) fun t98 H78=>
opP ((zma P .sub 3 true).f (.int .i64 1) (nth l_2 4)) fun t100=>
opP ((zxa P 45).f [(0,(.int .u8 9))]) fun t101=>
wCall P zDb [t98,t100,(.int .i64 0),t101] H78 fun t102 H82=>
opP (zea (nth l_2 5)) fun t104=>
opP (zfa 0 t104) fun t105=>
opW (zba t105 H82) fun t106 H86=>
wCall P zad [t106] H86 fun t107 H88=>
opP (zea (nth l_2 5)) fun t109=>
opP (zfa 0 t109) fun t110=>
opW (zba t110 H88) fun t111 H92=>
opP ((zma P .sub 3 true).f (.int .i64 1) (nth l_2 4)) fun t113=>
wCall P zIb [t111,t113] H92 fun t114 H95=>
opW (zjc t114 H95) fun t115 H97=>
opW (zpa 37 (nth l_2 3) H97) fun t116 H99=>
opP ((zxa P 49).f [(1,t116)]) fun t117=>
opW ((zoa P 50 1).f [(0,(.iface 49 t117))] H99) fun t119 H102=>
opP (zfa 36 (nth l_2 3)) fun t120=>
opW (zba t120 H102) fun t121 H105=>
opW (lenSl t121 H105) fun t122 H107=>
zdb P true 270 zPd 6606 [(nth l_2 0),(nth l_2 1),(nth l_2 2),(nth l_2 3),(nth l_2 4),(nth l_2 5),(nth l_2 6),t115,t119,t122,(.int .i64 0)] H107 (fun id l_3 H109=>
cond (Nat.beq id 2) (
opP ((zxa P 56).f []) fun t147=>
opW ((zoa P 50 1).f [(0,(.iface 56 t147))] H109) fun t149 H112=>
opW (zEa 1 16 (nth l_3 7) t149 H112) fun t150 H114=>
opW (lenSl t150 H114) fun t152 H116=>
zdb P true 270 zQd 72142 [(nth l_3 0),(nth l_3 1),(nth l_3 2),(nth l_3 3),(nth l_3 4),(nth l_3 5),(nth l_3 6),t150,(.int .i64 0),t150,t152,(.int .i64 0)] H116 (fun id l_4 H118=>
cond (Nat.beq id 4) (
opP (zea (nth l_4 4)) fun t175=>
opP (zfa 0 t175) fun t176=>
opW (zba t176 H118) fun t177 H122=>
wCall P zIb [t177,(nth l_4 3)] H122 fun t179 H124=>
zQb (fun J_2=>
opP (zea (nth l_4 4)) fun t181=>
opP (zfa 3 t181) fun t182=>
opW (zba t182 H124) fun t183 H129=>
wCall P zRa [t183] H129 fun t184 H131=>
opP (unA .not t184) fun t185=>
wIf t185 (
opP (zla t185 (.bool true) undef) fun t193=>
opP (zla t193 (.bool true) undef) fun t200=>
opP (zla t200 (.bool true) undef) fun t212=>
opP (zla t212 (.bool true) undef) fun t221=>
opP (zla t221 (.bool true) undef) fun t233=>
wIf t233 (
K (.bool false) H131) (
J_2 [(nth l_4 0),(nth l_4 1),(nth l_4 4),(nth l_4 5),(nth l_4 7),(nth l_4 8),t179] H131)) (
opP (zea (nth l_4 4)) fun t188=>
opP (zfa 3 t188) fun t189=>
opW (zba t189 H131) fun t190 H141=>
wCall P zrb [t190] H141 fun t191 H143=>
opP ((zma P .neq 36 true).f t191 (.int .i64 0)) fun t192=>
opP (zla t185 (.bool true) t192) fun t193_1=>
wIf t193_1 (
opP (zla t193_1 (.bool true) undef) fun t200_1=>
opP (zla t200_1 (.bool true) undef) fun t212_1=>
opP (zla t212_1 (.bool true) undef) fun t221_1=>
opP (zla t221_1 (.bool true) undef) fun t233_1=>
wIf t233_1 (
K (.bool false) H143) (
J_2 [(nth l_4 0),(nth l_4 1),(nth l_4 4),(nth l_4 5),(nth l_4 7),(nth l_4 8),t179] H143)) (
opW (lenSl t179 H143) fun t196 H151=>
opP ((zma P .mul 3 true).f (.int .i64 64) (nth l_4 2)) fun t198=>
opP ((zma P .neq 3 false).f t196 t198) fun t199=>
opP (zla t193_1 (.bool true) t199) fun t200_2=>
wIf t200_2 (
opP (zla t200_2 (.bool true) undef) fun t212_2=>
opP (zla t212_2 (.bool true) undef) fun t221_2=>
opP (zla t221_2 (.bool true) undef) fun t233_2=>
wIf t233_2 (
K (.bool false) H151) (
J_2 [(nth l_4 0),(nth l_4 1),(nth l_4 4),(nth l_4 5),(nth l_4 7),(nth l_4 8),t179] H151)) (
opP (zfa 0 (nth l_4 0)) fun t203=>
opW (zba t203 H151) fun t204 H160=>
opW (lenSl t204 H160) fun t205 H162=>
opP (zWa 1 t179 none (some t205) none) fun t206=>
opW (zjc t206 H162) fun t207 H165=>
opP (zfa 0 (nth l_4 0)) fun t208=>
opW (zba t208 H165) fun t209 H168=>
opW (zjc t209 H168) fun t210 H170=>
opP ((zma P .neq 9 false).f t207 t210) fun t211=>
opP (zla t200_2 (.bool true) t211) fun t212_3=>
wIf t212_3 (
opP (zla t212_3 (.bool true) undef) fun t221_3=>
opP (zla t221_3 (.bool true) undef) fun t233_3=>
wIf t233_3 (
K (.bool false) H170) (
J_2 [(nth l_4 0),(nth l_4 1),(nth l_4 4),(nth l_4 5),(nth l_4 7),(nth l_4 8),t179] H170)) (
opP (zea (nth l_4 4)) fun t215=>
opP (zfa 0 t215) fun t216=>
opW (zba t216 H170) fun t217 H178=>
wCall P zHe [t217] H178 fun t218 H180=>
wCall P zJc [t218] H180 fun t219 H182=>
opP ((zma P .neq 3 true).f t219 (.int .i64 0)) fun t220=>
opP (zla t212_3 (.bool true) t220) fun t221_4=>
wIf t221_4 (
opP (zla t221_4 (.bool true) undef) fun t233_4=>
wIf t233_4 (
K (.bool false) H182) (
J_2 [(nth l_4 0),(nth l_4 1),(nth l_4 4),(nth l_4 5),(nth l_4 7),(nth l_4 8),t179] H182)) (
opP (zea (nth l_4 4)) fun t224=>
opP (zfa 0 t224) fun t225=>
opW (zba t225 H182) fun t226 H189=>
opP ((zma P .sub 3 true).f (.int .i64 1) (nth l_4 3)) fun t228=>
wCall P zIb [t226,t228] H189 fun t229 H192=>
opW (zjc t229 H192) fun t230 H194=>
opP ((zma P .neq 9 false).f t230 (nth l_4 6)) fun t232=>
opP (zla t221_4 (.bool true) t232) fun t233_5=>
wIf t233_5 (
K (.bool false) H194) (
J_2 [(nth l_4 0),(nth l_4 1),(nth l_4 4),(nth l_4 5),(nth l_4 7),(nth l_4 8),t179] H194))))))) (fun l_5 H198=>
opP (zfa 0 (nth l_5 0)) fun t235=>
opW (zba t235 H198) fun t236 H201=>
opW (lenSl t236 H201) fun t237 H203=>
opP (zWa 1 (nth l_5 6) (some t237) none none) fun t238=>
opW (lenSl t238 H203) fun t239 H206=>
zdb P true 270 zSd 70022 [(nth l_5 0),(nth l_5 1),(nth l_5 2),(nth l_5 3),(nth l_5 4),(nth l_5 5),t238,t239,(.int .i64 0)] H206 (fun id l_6 H208=>
cond (Nat.beq id 8) (
opP (zfa 0 (nth l_6 0)) fun t247=>
opW (zba t247 H208) fun t248 H211=>
opW (lenSl t248 H211) fun t249 H213=>
opP ((zma P .add 3 true).f t249 (.int .i64 63)) fun t250=>
opP ((zma P .quo 3 true).f t250 (.int .i64 64)) fun t251=>
opP (zea (nth l_6 2)) fun t253=>
opP (zfa 3 t253) fun t254=>
opW (zba t254 H213) fun t255 H219=>
wCall P zOb [t255] H219 fun t256 H221=>
opP ((zma P .eql 3 false).f t256 t251) fun t258=>
wIf t258 (
opW (lenSl (nth l_6 4) H221) fun t262 H224=>
opP ((zma P .add 3 false).f t262 (nth l_6 3)) fun t264=>
opP ((zma P .add 3 false).f t264 t251) fun t266=>
opP ((zma P .add 3 true).f t266 (.int .i64 2)) fun t267=>
opP ((zma P .eql 3 false).f (nth l_6 5) t267) fun t268=>
opP (zla t258 t268 (.bool false)) fun t269=>
K t269 H224) (
opP (zla t258 undef (.bool false)) fun t269_1=>
K t269_1 H221)) (
False)) (fun l_6 H208=>
K (nth l_6 1) H208))) (
False)) (fun l_4 H118=>
K (nth l_4 1) H118)) (
False)) (fun l_3 H109=>
K (nth l_3 1) H109)) (
False)) (fun l_2 H74=>
K (nth l_2 1) H74))))))
theorem zTk{t0:Value}{H:Heap}{K:VH}(h:zri t0 H K):wCall P zqb [t0] H K:=zha rfl (Eq.mpr (by kernel_rfl) h)
noncomputable abbrev zUf:Code:=zmb P zje 0
def zVf(l:List Value)(H:Heap)(N:LN)(Qx:LX)(Qr:LN):Prop:=
opP ((zma P .lss 3 false).f (nth l 4) (nth l 3)) fun t25=>
wIf t25 (
opP (zld 1 (nth l 2) (nth l 4)) fun t26=>
opW (zba t26 H) fun t27 H3=>
wCall P zZc [(.int .i64 2),(.int .i64 100),(.int .i64 0),(.int .i64 4)] H3 fun t28 H5=>
opP (zea t28) fun t30=>
opP (zfa 2 t30) fun t31=>
opW (zba t31 H5) fun t32 H9=>
wCall P zza [t32,t27] H9 fun t34 H11=>
opP (zea t28) fun t36=>
opP (zfa 3 t36) fun t37=>
opW (zba t37 H11) fun t38 H15=>
wCall P zrb [t38] H15 fun t39 H17=>
opP ((zma P .neq 36 true).f t39 (.int .i64 0)) fun t40=>
wIf t40 (
opP (zla t40 (.bool true) undef) fun t48=>
opP (zla t48 (.bool true) undef) fun t55=>
opP (zla t55 (.bool true) undef) fun t63=>
opP (zla t63 (.bool true) undef) fun t70=>
wIf t70 (
Qr [(.bool false),(nth l 1)] H17) (
opP ((zma P .add 3 true).f (nth l 4) (.int .i64 1)) fun t71=>
N [(nth l 0),(nth l 1),(nth l 2),(nth l 3),t71] H17)) (
opP (zea t28) fun t43=>
opP (zfa 3 t43) fun t44=>
opW (zba t44 H17) fun t45 H27=>
wCall P zGa [t45] H27 fun t46 H29=>
opP (unA .not t46) fun t47=>
opP (zla t40 (.bool true) t47) fun t48_1=>
wIf t48_1 (
opP (zla t48_1 (.bool true) undef) fun t55_1=>
opP (zla t55_1 (.bool true) undef) fun t63_1=>
opP (zla t63_1 (.bool true) undef) fun t70_1=>
wIf t70_1 (
Qr [(.bool false),(nth l 1)] H29) (
opP ((zma P .add 3 true).f (nth l 4) (.int .i64 1)) fun t71_1=>
N [(nth l 0),(nth l 1),(nth l 2),(nth l 3),t71_1] H29)) (
opP (zea t28) fun t51=>
opP (zfa 3 t51) fun t52=>
opW (zba t52 H29) fun t53 H39=>
wCall P zGa [t53] H39 fun t54 H41=>
opP (zla t48_1 (.bool true) t54) fun t55_2=>
wIf t55_2 (
opP (zla t55_2 (.bool true) undef) fun t63_2=>
opP (zla t63_2 (.bool true) undef) fun t70_2=>
wIf t70_2 (
Qr [(.bool false),(nth l 1)] H41) (
opP ((zma P .add 3 true).f (nth l 4) (.int .i64 1)) fun t71_2=>
N [(nth l 0),(nth l 1),(nth l 2),(nth l 3),t71_2] H41)) (
opP (zea t28) fun t58=>
opP (zfa 3 t58) fun t59=>
opW (zba t59 H41) fun t60 H49=>
wCall P zrb [t60] H49 fun t61 H51=>
opP ((zma P .neq 36 true).f t61 (.int .i64 192)) fun t62=>
opP (zla t55_2 (.bool true) t62) fun t63_3=>
wIf t63_3 (
opP (zla t63_3 (.bool true) undef) fun t70_3=>
wIf t70_3 (
Qr [(.bool false),(nth l 1)] H51) (
opP ((zma P .add 3 true).f (nth l 4) (.int .i64 1)) fun t71_3=>
N [(nth l 0),(nth l 1),(nth l 2),(nth l 3),t71_3] H51)) (
opP (zea t28) fun t66=>
opP (zfa 3 t66) fun t67=>
opW (zba t67 H51) fun t68 H59=>
wCall P zRa [t68] H59 fun t69 H61=>
opP (zla t63_3 (.bool true) t69) fun t70_4=>
wIf t70_4 (
Qr [(.bool false),(nth l 1)] H61) (
opP ((zma P .add 3 true).f (nth l 4) (.int .i64 1)) fun t71_4=>
N [(nth l 0),(nth l 1),(nth l 2),(nth l 3),t71_4] H61)))))) (
Qx 0 [(nth l 0),(nth l 1)] H)
theorem zfi:LpI P 119 zUf 3 zVf:=.mk (by kernel_rfl) fun l H N Qx Qr=>by kernel_rfl
def zsi(H:Heap)(K:VH):Prop:=
wCall P zCb [] H fun t7 H1=>
opP (unA .not t7) fun t8=>
wIf t8 (
K (.bool false) H1) (
opW ((zRb P 22).f (.int .i64 130) (.int .i64 130) H1) fun t10 H4=>
wCall P zYd [(.string ⟨#[99,111,114,101]⟩),(.int .u64 1),(.int .i64 64),t10] H4 fun t11 H6=>
opP (zxg 0 t11) fun t12=>
opP (zxg 1 t11) fun t13=>
zrc (zc P 31) H6 fun t1 H10=>
opW (zka 37 t1 t12 H10) fun u H12=>
opP ((zxa P 65).f [(0,(.int .i64 (-1)))]) fun t14=>
opP ((zxa P 54).f []) fun t16=>
opP ((zxa P 56).f []) fun t18=>
opP ((zxa P 49).f []) fun t20=>
opW ((zoa P 50 4).f [(0,(.iface 65 t14)),(1,(.iface 54 t16)),(2,(.iface 56 t18)),(3,(.iface 49 t20))] H12) fun t22 H18=>
opW (lenSl t22 H18) fun t23 H20=>
zdb P true 119 zUf 3 [(.bool false),t1,t22,t23,(.int .i64 0)] H20 (fun id l H22=>
cond (Nat.beq id 0) (
wCall P zZc [(.int .i64 2),(.int .i64 100),(.int .i64 0),(.int .i64 4)] H22 fun t72 H24=>
opP (zea t72) fun t74=>
opP (zfa 2 t74) fun t75=>
opW (zba t75 H24) fun t76 H28=>
opW (zpa 37 (nth l 1) H28) fun t77 H30=>
opP ((zxa P 49).f [(1,t77)]) fun t78=>
wCall P zza [t76,(.iface 49 t78)] H30 fun t80 H33=>
opP (zea t72) fun t82=>
opP (zfa 3 t82) fun t83=>
opW (zba t83 H33) fun t84 H37=>
wCall P zRa [t84] H37 fun t85 H39=>
opP (unA .not t85) fun t86=>
wIf t86 (
opP (zea t72) fun t89=>
opP (zfa 3 t89) fun t90=>
opW (zba t90 H39) fun t91 H44=>
wCall P zGa [t91] H44 fun t92 H46=>
opP (zla t86 t92 (.bool false)) fun t93=>
wIf t93 (
opP (zea t72) fun t96=>
opP (zfa 3 t96) fun t97=>
opW (zba t97 H46) fun t98 H51=>
wCall P zrb [t98] H51 fun t99 H53=>
opP ((zma P .eql 36 true).f t99 (.int .i64 145)) fun t100=>
opP (zla t93 t100 (.bool false)) fun t101=>
wIf t101 (
opP (zea t72) fun t104=>
opP (zfa 3 t104) fun t105=>
opW (zba t105 H53) fun t106 H59=>
wCall P zGa [t106] H59 fun t107 H61=>
opP (unA .not t107) fun t108=>
opP (zla t101 t108 (.bool false)) fun t109=>
wIf t109 (
opP (zea t72) fun t112=>
opP (zfa 0 t112) fun t113=>
opW (zba t113 H61) fun t114 H67=>
wCall P zXb [t114] H67 fun t115 H69=>
opW (lenSl t115 H69) fun t116 H71=>
opP ((zma P .eql 3 true).f t116 (.int .i64 0)) fun t117=>
opP (zla t109 t117 (.bool false)) fun t118=>
K t118 H71) (
opP (zla t109 undef (.bool false)) fun t118_1=>
K t118_1 H61)) (
opP (zla t101 undef (.bool false)) fun t109_1=>
opP (zla t109_1 undef (.bool false)) fun t118_2=>
K t118_2 H53)) (
opP (zla t93 undef (.bool false)) fun t101_1=>
opP (zla t101_1 undef (.bool false)) fun t109_2=>
opP (zla t109_2 undef (.bool false)) fun t118_3=>
K t118_3 H46)) (
opP (zla t86 undef (.bool false)) fun t93_1=>
opP (zla t93_1 undef (.bool false)) fun t101_2=>
opP (zla t101_2 undef (.bool false)) fun t109_3=>
opP (zla t109_3 undef (.bool false)) fun t118_4=>
K t118_4 H39)) (
False)) (fun l H22=>
K (nth l 0) H22))
theorem zUk{H:Heap}{K:VH}(h:zsi  H K):wCall P zje [] H K:=zha rfl (Eq.mpr (by kernel_rfl) h)
noncomputable abbrev zFg:Code:=zmb P znc 0
noncomputable abbrev zse:Code:=zmb P znc 1
noncomputable abbrev zGg:Code:=zmb P znc 2
def zHg(l:List Value)(H:Heap)(N:LN)(Qx:LX)(Qr:LN):Prop:=
opP ((zma P .lss 3 false).f (nth l 7) (nth l 6)) fun t34=>
wIf t34 (
opP (zld 43 (nth l 5) (nth l 7)) fun t36=>
opW (zpa 43 t36 H) fun t37 H3=>
zrc (zc P 75) H3 fun t10 H5=>
opW (zka 43 t10 t37 H5) fun u H7=>
zQb (fun J=>
opP ((zma P .eql 3 false).f (nth l 7) (nth l 0)) fun t40=>
wIf t40 (
opP (zea (nth l 3)) fun t42=>
opP (zfa 1 t42) fun t43=>
opW (zba t43 H7) fun t44 H13=>
opP (zea (nth l 3)) fun t46=>
opP (zfa 4 t46) fun t47=>
opW (zba t47 H13) fun t48 H17=>
wCall P zke [t44,t48] H17 fun t49 H19=>
opP (zea (nth l 3)) fun t51=>
opP (zfa 0 t51) fun t52=>
opW (zba t52 H19) fun t53 H23=>
wCall P zXb [t53] H23 fun t54 H25=>
J [(nth l 0),(nth l 1),(nth l 2),(nth l 3),(.bool true),t10,(nth l 5),(nth l 6),(nth l 7)] H25) (
J [(nth l 0),(nth l 1),(nth l 2),(nth l 3),(nth l 4),t10,(nth l 5),(nth l 6),(nth l 7)] H7)) (fun l_1 H27=>
zQb (fun J_1=>
opP (zfa 0 (nth l_1 5)) fun t55=>
opW (zba t55 H27) fun t56 H31=>
opP ((zma P .eql 3 true).f t56 (.int .i64 1)) fun t57=>
wIf t57 (
opP (zea (nth l_1 3)) fun t59=>
opP (zfa 2 t59) fun t60=>
opW (zba t60 H31) fun t61 H36=>
opP (zfa 2 (nth l_1 5)) fun t62=>
opW (zpa 41 t62 H36) fun t63 H39=>
wCall P zhj [t63] H39 fun t64 H41=>
zeb (zcb H39 H41) (zJa [t60])∧(wCall P zza [t61,t64] H41 fun t65 H43=>
J_1 [(nth l_1 0),(nth l_1 1),(nth l_1 2),(nth l_1 3),(nth l_1 4),(nth l_1 6),(nth l_1 7),(nth l_1 8)] H43)) (
opP (zea (nth l_1 3)) fun t67=>
opP (zfa 3 t67) fun t68=>
opW (zba t68 H31) fun t69 H47=>
wCall P zGa [t69] H47 fun t70 H49=>
J_1 [(nth l_1 0),(nth l_1 1),(nth l_1 2),(nth l_1 3),(nth l_1 4),(nth l_1 6),(nth l_1 7),(nth l_1 8)] H49)) (fun l_2 H51=>
opP (zea (nth l_2 3)) fun t72=>
opP (zfa 0 t72) fun t73=>
opW (zba t73 H51) fun t74 H55=>
wCall P zXb [t74] H55 fun t75 H57=>
opW (lenSl t75 H57) fun t76 H59=>
zdb P true 154 zse 15032385996 [(nth l_2 0),(nth l_2 1),(nth l_2 2),(nth l_2 3),(nth l_2 4),(nth l_2 5),(nth l_2 6),(nth l_2 7),t75,t76,(.int .i64 0)] H59 (fun id l_3 H61=>
cond (Nat.beq id 2) (
opP ((zma P .add 3 true).f (nth l_3 7) (.int .i64 1)) fun t107=>
N [(nth l_3 0),(nth l_3 1),(nth l_3 2),(nth l_3 3),(nth l_3 4),(nth l_3 5),(nth l_3 6),t107] H61) (
cond (Nat.beq id 1) (
opP ((zma P .add 3 true).f (nth l_3 7) (.int .i64 1)) fun t107_1=>
N [(nth l_3 0),(nth l_3 1),(nth l_3 2),(nth l_3 3),(nth l_3 4),(nth l_3 5),(nth l_3 6),t107_1] H61) (
Qx id [(nth l_3 1),(nth l_3 2),(nth l_3 3),(nth l_3 4)] H61))) (fun l_3 H61=>
Qr [(nth l_3 1),(nth l_3 2),(nth l_3 3),(nth l_3 4)] H61)))) (
Qx 0 [(nth l 1),(nth l 2),(nth l 3),(nth l 4)] H)
theorem zKi:LpI P 154 zFg 456 zHg:=.mk (by kernel_rfl) fun l H N Qx Qr=>by kernel_rfl
def zIg(l:List Value)(H:Heap)(N:LN)(Qx:LX)(Qr:LN):Prop:=
opP ((zma P .lss 3 true).f (nth l 4) (.int .i64 30)) fun t126=>
wIf t126 (
opP (zea (nth l 1)) fun t130=>
opP (zfa 3 t130) fun t131=>
opW (zba t131 H) fun t132 H4=>
wCall P zGa [t132] H4 fun t133 H6=>
opP ((zma P .add 3 true).f (nth l 4) (.int .i64 1)) fun t128=>
N [(nth l 0),(nth l 1),(nth l 2),(nth l 3),t128] H6) (
Qx 4 [(nth l 0),(nth l 1),(nth l 2),(nth l 3)] H)
theorem zLi:LpI P 154 zGg 41152 zIg:=.mk (by kernel_rfl) fun l H N Qx Qr=>by kernel_rfl
def zJg(l:List Value)(H:Heap)(N:LN)(Qx:LX)(Qr:LN):Prop:=
opP ((zma P .lss 3 false).f (nth l 10) (nth l 9)) fun t78=>
wIf t78 (
opP (zld 4 (nth l 8) (nth l 10)) fun t79=>
opW (zpa 4 t79 H) fun t80 H3=>
zrc (zc P 79) H3 fun t12 H5=>
opW (zka 4 t12 t80 H5) fun u H7=>
wIf (nth l 4) (
opP (zla (nth l 4) (.bool true) undef) fun t86=>
opP (zla t86 (.bool true) undef) fun t93=>
opP (zla t93 (.bool true) undef) fun t98=>
opP (zla t98 (.bool true) undef) fun t105=>
wIf t105 (
Qr [(nth l 0),(nth l 1),(.bool false),(nth l 3),(nth l 4),(nth l 5),(nth l 6),(nth l 7)] H7) (
opP ((zma P .add 3 true).f (nth l 10) (.int .i64 1)) fun t106=>
N [(nth l 0),(nth l 1),(nth l 2),(nth l 3),(nth l 4),(nth l 5),(nth l 6),(nth l 7),(nth l 8),(nth l 9),t106] H7)) (
opP (zfa 3 t12) fun t83=>
opW (zba t83 H7) fun t84 H15=>
opP ((zma P .neq 3 true).f t84 (.int .i64 5)) fun t85=>
opP (zla (nth l 4) (.bool true) t85) fun t86_1=>
wIf t86_1 (
opP (zla t86_1 (.bool true) undef) fun t93_1=>
opP (zla t93_1 (.bool true) undef) fun t98_1=>
opP (zla t98_1 (.bool true) undef) fun t105_1=>
wIf t105_1 (
Qr [(nth l 0),(nth l 1),(.bool false),(nth l 3),(nth l 4),(nth l 5),(nth l 6),(nth l 7)] H15) (
opP ((zma P .add 3 true).f (nth l 10) (.int .i64 1)) fun t106_1=>
N [(nth l 0),(nth l 1),(nth l 2),(nth l 3),(nth l 4),(nth l 5),(nth l 6),(nth l 7),(nth l 8),(nth l 9),t106_1] H15)) (
opP (zfa 1 t12) fun t88=>
opW (zba t88 H15) fun t89 H24=>
opP (zfa 2 (nth l 1)) fun t90=>
opW (zba t90 H24) fun t91 H27=>
opP ((zma P .neq 3 false).f t89 t91) fun t92=>
opP (zla t86_1 (.bool true) t92) fun t93_2=>
wIf t93_2 (
opP (zla t93_2 (.bool true) undef) fun t98_2=>
opP (zla t98_2 (.bool true) undef) fun t105_2=>
wIf t105_2 (
Qr [(nth l 0),(nth l 1),(.bool false),(nth l 3),(nth l 4),(nth l 5),(nth l 6),(nth l 7)] H27) (
opP ((zma P .add 3 true).f (nth l 10) (.int .i64 1)) fun t106_2=>
N [(nth l 0),(nth l 1),(nth l 2),(nth l 3),(nth l 4),(nth l 5),(nth l 6),(nth l 7),(nth l 8),(nth l 9),t106_2] H27)) (
opP (zfa 2 t12) fun t95=>
opW (zba t95 H27) fun t96 H35=>
opP ((zma P .lss 3 true).f t96 (.int .i64 0)) fun t97=>
opP (zla t93_2 (.bool true) t97) fun t98_3=>
wIf t98_3 (
opP (zla t98_3 (.bool true) undef) fun t105_3=>
wIf t105_3 (
Qr [(nth l 0),(nth l 1),(.bool false),(nth l 3),(nth l 4),(nth l 5),(nth l 6),(nth l 7)] H35) (
opP ((zma P .add 3 true).f (nth l 10) (.int .i64 1)) fun t106_3=>
N [(nth l 0),(nth l 1),(nth l 2),(nth l 3),(nth l 4),(nth l 5),(nth l 6),(nth l 7),(nth l 8),(nth l 9),t106_3] H35)) (
opP (zfa 2 t12) fun t100=>
opW (zba t100 H35) fun t101 H42=>
opP (zfa 0 (nth l 1)) fun t102=>
opW (zba t102 H42) fun t103 H45=>
opP ((zma P .geq 3 false).f t101 t103) fun t104=>
opP (zla t98_3 (.bool true) t104) fun t105_4=>
wIf t105_4 (
Qr [(nth l 0),(nth l 1),(.bool false),(nth l 3),(nth l 4),(nth l 5),(nth l 6),(nth l 7)] H45) (
opP ((zma P .add 3 true).f (nth l 10) (.int .i64 1)) fun t106_4=>
N [(nth l 0),(nth l 1),(nth l 2),(nth l 3),(nth l 4),(nth l 5),(nth l 6),(nth l 7),(nth l 8),(nth l 9),t106_4] H45)))))) (
Qx 2 [(nth l 0),(nth l 1),(nth l 2),(nth l 3),(nth l 4),(nth l 5),(nth l 6),(nth l 7)] H)
theorem zMi:LpI P 154 zse 15032385996 zJg:=.mk (by kernel_rfl) fun l H N Qx Qr=>by kernel_rfl
def zkj(t0 t1 t2:Value)(H:Heap)(K:VH):Prop:=
zrc (zya t0) H fun t3 H1=>
wCall P zCb [] H1 fun t17 H3=>
opP (unA .not t17) fun t18=>
wIf t18 (
K (.bool false) H3) (
opW (zpa 4 t3 H3) fun t19 H6=>
wCall P zAf [t19,t1] H6 fun t21 H8=>
wIf t21 (
K (.bool true) H8) (
opP (zfa 0 t3) fun t22=>
opW (zba t22 H8) fun t23 H11=>
opP (zfa 2 t3) fun t24=>
opW (zba t24 H11) fun t25 H14=>
opP (zfa 3 t3) fun t26=>
opW (zba t26 H14) fun t27 H17=>
wCall P zZc [t23,(.int .i64 100),t25,t27] H17 fun t28 H19=>
opP ((zma P .eql 34 true).f t28 (.pointer none)) fun t30=>
wIf t30 (
K (.bool false) H19) (
opW (lenSl t1 H19) fun t32 H22=>
zdb P true 154 zFg 456 [t2,t3,(.bool false),t28,(.bool false),t1,t32,(.int .i64 0)] H22 (fun id l H24=>
cond (Nat.beq id 0) (
opP (unA .not (nth l 3)) fun t109=>
wIf t109 (
K (.bool true) H24) (
opP (zea (nth l 2)) fun t111=>
opP (zfa 3 t111) fun t112=>
opW (zba t112 H24) fun t113 H29=>
wCall P zRa [t113] H29 fun t114 H31=>
opP (zea (nth l 2)) fun t117=>
opP (zfa 1 t117) fun t118=>
opW (zba t118 H31) fun t119 H35=>
opP (zfa 2 (nth l 0)) fun t120=>
opW (zba t120 H35) fun t121 H38=>
wCall P zPc [t119,(.int .i64 6),t121] H38 fun t122 H40=>
opP (zxg 0 t122) fun t123=>
opP (zxg 1 t122) fun t124=>
zdb P true 154 zGg 41152 [(nth l 1),(nth l 2),t114,t124,(.int .i64 0)] H40 (fun id l_1 H44=>
cond (Nat.beq id 4) (
opP ((zma P .eql 36 true).f (nth l_1 3) (.int .i64 0)) fun t135=>
wIf t135 (
opP (zea (nth l_1 1)) fun t138=>
opP (zfa 3 t138) fun t139=>
opW (zba t139 H44) fun t140 H49=>
wCall P zRa [t140] H49 fun t141 H51=>
opP ((zma P .eql 4 false).f t141 (nth l_1 2)) fun t143=>
opP (zla t135 t143 (.bool false)) fun t144=>
wIf t144 (
opP (zea (nth l_1 1)) fun t147=>
opP (zfa 0 t147) fun t148=>
opW (zba t148 H51) fun t149 H57=>
wCall P zXb [t149] H57 fun t150 H59=>
opW (lenSl t150 H59) fun t151 H61=>
opP ((zma P .eql 3 true).f t151 (.int .i64 0)) fun t152=>
opP (zla t144 t152 (.bool false)) fun t153=>
K t153 H61) (
opP (zla t144 undef (.bool false)) fun t153_1=>
K t153_1 H51)) (
opP (zla t135 undef (.bool false)) fun t144_1=>
opP (zla t144_1 undef (.bool false)) fun t153_2=>
K t153_2 H44)) (
False)) (fun l_1 H44=>
K (nth l_1 0) H44))) (
False)) (fun l H24=>
K (nth l 1) H24))))
theorem zQl{t0 t1 t2:Value}{H:Heap}{K:VH}(h:zkj t0 t1 t2 H K):wCall P znc [t0,t1,t2] H K:=zha rfl (Eq.mpr (by kernel_rfl) h)
noncomputable abbrev zWf:Code:=zmb P zCb 0
def zXf(l:List Value)(H:Heap)(N:LN)(Qx:LX)(Qr:LN):Prop:=
opP ((zma P .lss 3 true).f (nth l 2) (.int .i64 6)) fun t40=>
wIf t40 (
opP (zea (nth l 1)) fun t44=>
opP (zfa 3 t44) fun t45=>
opW (zba t45 H) fun t46 H4=>
wCall P zRa [t46] H4 fun t47 H6=>
wIf t47 (
opP (zla t47 (.bool true) undef) fun t55=>
wIf t55 (
Qr [(.bool false),(nth l 1)] H6) (
opP ((zma P .add 3 true).f (nth l 2) (.int .i64 1)) fun t42=>
N [(nth l 0),(nth l 1),t42] H6)) (
opP (zea (nth l 1)) fun t50=>
opP (zfa 3 t50) fun t51=>
opW (zba t51 H6) fun t52 H12=>
wCall P zGa [t52] H12 fun t53 H14=>
opP (unA .not t53) fun t54=>
opP (zla t47 (.bool true) t54) fun t55_1=>
wIf t55_1 (
Qr [(.bool false),(nth l 1)] H14) (
opP ((zma P .add 3 true).f (nth l 2) (.int .i64 1)) fun t42_1=>
N [(nth l 0),(nth l 1),t42_1] H14))) (
Qx 0 [(nth l 0),(nth l 1)] H)
theorem zgi:LpI P 95 zWf 3 zXf:=.mk (by kernel_rfl) fun l H N Qx Qr=>by kernel_rfl
def zti(H:Heap)(K:VH):Prop:=
wCall P zZc [(.int .i64 2),(.int .i64 100),(.int .i64 1),(.int .i64 4)] H fun t6 H1=>
opP ((zma P .eql 34 true).f t6 (.pointer none)) fun t8=>
wIf t8 (
K (.bool false) H1) (
opW ((zoa P 22 8).f [(0,(.int .u8 97)),(1,(.int .u8 110)),(2,(.int .u8 32)),(3,(.int .u8 105)),(4,(.int .u8 109)),(5,(.int .u8 97)),(6,(.int .u8 103)),(7,(.int .u8 101))] H1) fun t9 H4=>
opW (zjn t9 H4) fun t10 H6=>
wCall P zYd [(.string ⟨#[99,111,114,101]⟩),(.int .u64 1),(.int .i64 64),t10] H6 fun t13 H8=>
opP (zxg 0 t13) fun t14=>
opP (zxg 1 t13) fun t15=>
zrc (zc P 31) H8 fun t3 H12=>
opW (zka 37 t3 t14 H12) fun u H14=>
opP (zea t6) fun t17=>
opP (zfa 2 t17) fun t18=>
opW (zba t18 H14) fun t19 H18=>
opW (zpa 37 t3 H18) fun t20 H20=>
opP ((zxa P 49).f [(0,(.int .i64 4)),(1,t20)]) fun t21=>
wCall P zza [t19,(.iface 49 t21)] H20 fun t23 H23=>
opP (zea t6) fun t25=>
opP (zfa 2 t25) fun t26=>
opW (zba t26 H23) fun t27 H27=>
opP ((zxa P 54).f [(1,t10)]) fun t29=>
wCall P zza [t27,(.iface 54 t29)] H27 fun t31 H30=>
opP (zea t6) fun t33=>
opP (zfa 2 t33) fun t34=>
opW (zba t34 H30) fun t35 H34=>
opP ((zxa P 56).f []) fun t36=>
wCall P zza [t35,(.iface 56 t36)] H34 fun t38 H37=>
zdb P true 95 zWf 3 [(.bool false),t6,(.int .i64 0)] H37 (fun id l H39=>
cond (Nat.beq id 0) (
opP (zea (nth l 1)) fun t57=>
opP (zfa 3 t57) fun t58=>
opW (zba t58 H39) fun t59 H43=>
wCall P zRa [t59] H43 fun t60 H45=>
wIf t60 (
opP (zea (nth l 1)) fun t63=>
opP (zfa 3 t63) fun t64=>
opW (zba t64 H45) fun t65 H49=>
wCall P zGa [t65] H49 fun t66 H51=>
opP (unA .not t66) fun t67=>
opP (zla t60 t67 (.bool false)) fun t68=>
wIf t68 (
opP (zea (nth l 1)) fun t71=>
opP (zfa 3 t71) fun t72=>
opW (zba t72 H51) fun t73 H57=>
wCall P zOb [t73] H57 fun t74 H59=>
opP ((zma P .eql 3 true).f t74 (.int .i64 1)) fun t75=>
opP (zla t68 t75 (.bool false)) fun t76=>
wIf t76 (
opP (zea (nth l 1)) fun t79=>
opP (zfa 3 t79) fun t80=>
opW (zba t80 H59) fun t81 H65=>
wCall P zrb [t81] H65 fun t82 H67=>
opP ((zma P .eql 36 true).f t82 (.int .i64 0)) fun t83=>
opP (zla t76 t83 (.bool false)) fun t84=>
wIf t84 (
opP (zea (nth l 1)) fun t87=>
opP (zfa 0 t87) fun t88=>
opW (zba t88 H67) fun t89 H73=>
wCall P zIb [t89,(.int .i64 1)] H73 fun t90 H75=>
opP (zWa 1 t90 none (some (.int .i64 8)) none) fun t91=>
opW (zjc t91 H75) fun t92 H78=>
opP ((zma P .eql 9 true).f t92 (.string ⟨#[97,110,32,105,109,97,103,101]⟩)) fun t93=>
opP (zla t84 t93 (.bool false)) fun t94=>
K t94 H78) (
opP (zla t84 undef (.bool false)) fun t94_1=>
K t94_1 H67)) (
opP (zla t76 undef (.bool false)) fun t84_1=>
opP (zla t84_1 undef (.bool false)) fun t94_2=>
K t94_2 H59)) (
opP (zla t68 undef (.bool false)) fun t76_1=>
opP (zla t76_1 undef (.bool false)) fun t84_2=>
opP (zla t84_2 undef (.bool false)) fun t94_3=>
K t94_3 H51)) (
opP (zla t60 undef (.bool false)) fun t68_1=>
opP (zla t68_1 undef (.bool false)) fun t76_2=>
opP (zla t76_2 undef (.bool false)) fun t84_3=>
opP (zla t84_3 undef (.bool false)) fun t94_4=>
K t94_4 H45)) (
False)) (fun l H39=>
K (nth l 0) H39))
theorem zVk{H:Heap}{K:VH}(h:zti  H K):wCall P zCb [] H K:=zha rfl (Eq.mpr (by kernel_rfl) h)
noncomputable abbrev zRl:Code:=zmb P zYd 0
def zSl(l:List Value)(H:Heap)(N:LN)(Qx:LX)(Qr:LN):Prop:=
opP ((zma P .lss 3 false).f (nth l 6) (nth l 5)) fun t32=>
wIf t32 (
opP ((zma P .mul 3 false).f (nth l 6) (nth l 0)) fun t37=>
opW (lenSl (nth l 1) H) fun t39 H3=>
zQb (fun J=>
opP ((zma P .sub 3 true).f (nth l 5) (.int .i64 1)) fun t42=>
opP ((zma P .lss 3 false).f (nth l 6) t42) fun t43=>
wIf t43 (
opP ((zma P .add 3 false).f t37 (nth l 0)) fun t46=>
J [(nth l 0),(nth l 1),(nth l 2),(nth l 3),(nth l 4),(nth l 5),(nth l 6),t37,t46] H3) (
J [(nth l 0),(nth l 1),(nth l 2),(nth l 3),(nth l 4),(nth l 5),(nth l 6),t37,t39] H3)) (fun l_1 H9=>
opP (zfa 36 (nth l_1 4)) fun t47=>
opW (zba t47 H9) fun t48 H12=>
opP (zWa 1 (nth l_1 1) (some (nth l_1 7)) (some (nth l_1 8)) none) fun t52=>
wCall P zEb [t52] H12 fun t53 H15=>
zeb (zcb H12 H15) (zJa [t47])∧(opW ((zoa P 29 1).f [(0,t53)] H15) fun t54 H17=>
opW (zEa 32 32 t48 t54 H17) fun t55 H19=>
opP (zfa 36 (nth l_1 4)) fun t56=>
opW (zka 1 t56 t55 H19) fun u H22=>
opP ((zma P .add 3 true).f (nth l_1 6) (.int .i64 1)) fun t34=>
N [(nth l_1 0),(nth l_1 1),(nth l_1 2),(nth l_1 3),(nth l_1 4),(nth l_1 5),t34] H22))) (
Qx 0 [(nth l 2),(nth l 3),(nth l 4)] H)
theorem zQm:LpI P 62 zRl 1792 zSl:=.mk (by kernel_rfl) fun l H N Qx Qr=>by kernel_rfl
def zXq(t0 t1 t2 t3:Value)(H:Heap)(K:VH):Prop:=
zrc (zc P 31) H fun t8 H1=>
opW (lenSl t3 H1) fun t18 H3=>
wCall P zEb [t3] H3 fun t21 H5=>
opP ((zxa P 31).f [(0,t0),(1,t1),(2,t18),(3,t2),(4,t21)]) fun t22=>
zrc (zc P 31) H5 fun t10 H8=>
opW (zka 37 t10 t22 H8) fun u H10=>
opW (lenSl t3 H10) fun t24 H12=>
wCall P zBf [t24,t2] H12 fun t26 H14=>
opP ((zma P .gtr 3 true).f t26 (.int .i64 64)) fun t28=>
wIf t28 (
opP ((zxa P 31).f []) fun t29=>
opW (zka 37 t8 t29 H14) fun u_1 H18=>
opW (zpa 37 t8 H18) fun r _=>
K (.tuple [r,(.int .i64 131)].toArray) H18) (
zdb P true 62 zRl 1792 [t2,t3,t8,(.int .i64 0),t10,t26,(.int .i64 0)] H14 (fun id l H21=>
cond (Nat.beq id 0) (
opW (zpa 37 (nth l 2) H21) fun t57 H23=>
wCall P zCf [t57] H23 fun t58 H25=>
opP (unA .not t58) fun t59=>
wIf t59 (
opP ((zxa P 31).f []) fun t60=>
opW (zka 37 (nth l 0) t60 H25) fun u_2 H29=>
opW (zpa 37 (nth l 0) H29) fun r_1 _=>
K (.tuple [r_1,(.int .i64 131)].toArray) H29) (
opW (zpa 37 (nth l 2) H25) fun t61 H32=>
opW (zka 37 (nth l 0) t61 H32) fun u_3 H34=>
opW (zpa 37 (nth l 0) H34) fun r_2 _=>
K (.tuple [r_2,(.int .i64 0)].toArray) H34)) (
False)) (fun l H21=>
opW (zpa 37 (nth l 0) H21) fun r_3 _=>
K (.tuple [r_3,(nth l 1)].toArray) H21))
theorem zps{t0 t1 t2 t3:Value}{H:Heap}{K:VH}(h:zXq t0 t1 t2 t3 H K):wCall P zYd [t0,t1,t2,t3] H K:=zha rfl (Eq.mpr (by kernel_rfl) h)
def zYq(t0 t1 t2 t3:Value)(H:Heap)(K:VH):Prop:=
wCall P zXh [(.int .i64 60),t1] H fun t18 H1=>
opW ((zoa P 126 2).f [(0,t0),(1,t0)] H1) fun t21 H3=>
wCall P zVj [t18,t21] H3 fun t22 H5=>
opP (zxg 0 t22) fun t23=>
opP (zxg 1 t22) fun t24=>
opP ((zma P .eql 37 true).f t23 (.pointer none)) fun t26=>
wIf t26 (
K (.pointer none) H5) (
opP ((zxa P 90).f [(0,(.int .i64 0)),(1,(.int .i64 1))]) fun t28=>
wCall P zRk [t23,t28] H5 fun t29 H11=>
wCall P zId [t3] H11 fun t31 H13=>
zQb (fun J=>
opP ((zma P .eql 38 true).f t29 (.pointer none)) fun t33=>
wIf t33 (
opP (zla t33 (.bool true) undef) fun t37=>
wIf t37 (
K (.pointer none) H13) (
J [t2,t23,t29,t31] H13)) (
opP ((zma P .eql 39 true).f t31 (.pointer none)) fun t36=>
opP (zla t33 (.bool true) t36) fun t37_1=>
wIf t37_1 (
K (.pointer none) H13) (
J [t2,t23,t29,t31] H13))) (fun l H20=>
wCall P zPc [(nth l 2),(.int .i64 5),(nth l 0)] H20 fun t41 H22=>
opP (zxg 0 t41) fun t42=>
opP (zxg 1 t41) fun t43=>
opP ((zma P .neq 36 true).f t43 (.int .i64 0)) fun t45=>
wIf t45 (
K (.pointer none) H22) (
wCall P zSk [(nth l 2),t42,(nth l 0),(nth l 3)] H22 fun t50 H27=>
opP ((zma P .eql 40 true).f t50 (.pointer none)) fun t52=>
wIf t52 (
K (.pointer none) H27) (
opP ((zxa P 42).f [(0,(nth l 1)),(1,(nth l 2)),(2,(nth l 3)),(3,t50),(4,t42)]) fun t58=>
zrc (zya t58) H27 fun t59 H31=>
K t59 H31))))
theorem zqs{t0 t1 t2 t3:Value}{H:Heap}{K:VH}(h:zYq t0 t1 t2 t3 H K):wCall P zZc [t0,t1,t2,t3] H K:=zha rfl (Eq.mpr (by kernel_rfl) h)
def zui(t0 t1 t2 t3:Value)(H:Heap)(K:VH):Prop:=
zrc (zya t3) H fun t7 H1=>
wCall P zFc [t0,t1,t2] H1 fun t15 H3=>
opP (zxg 0 t15) fun t16=>
opP (zxg 1 t15) fun t17=>
opP ((zma P .neq 36 true).f t17 (.int .i64 0)) fun t19=>
wIf t19 (
K t17 H3) (
opP ((zxa P 79).f [(0,(.int .i64 2)),(1,t1),(2,t2)]) fun t24=>
opP (zea t0) fun t26=>
opP (zfa 0 t26) fun t27=>
opW (zba t27 H3) fun t28 H11=>
opW (zpa 64 t7 H11) fun t30 H13=>
wCall P zKc [t28,t16,t30] H13 fun t31 H15=>
wCall P zle [t0,t24,t31] H15 fun t32 H17=>
K t32 H17)
theorem zWk{t0 t1 t2 t3:Value}{H:Heap}{K:VH}(h:zui t0 t1 t2 t3 H K):wCall P zDb [t0,t1,t2,t3] H K:=zha rfl (Eq.mpr (by kernel_rfl) h)
def zTl(t0:Value)(H:Heap)(K:VH):Prop:=
opP (zea t0) fun t4=>
opP (zfa 0 t4) fun t5=>
opW (zba t5 H) fun t6 H3=>
wCall P zwc [t6] H3 fun t7 H5=>
K t7 H5
theorem zQn{t0:Value}{H:Heap}{K:VH}(h:zTl t0 H K):wCall P zad [t0] H K:=zha rfl (Eq.mpr (by kernel_rfl) h)
noncomputable abbrev zlj:Code:=zmb P zIb 0
def zmj(l:List Value)(H:Heap)(N:LN)(Qx:LX)(Qr:LN):Prop:=
opP ((zma P .lss 3 false).f (nth l 5) (nth l 4)) fun t13=>
wIf t13 (
wCall P zne [(nth l 0),(nth l 1),(nth l 5)] H fun t19 H2=>
opP (zxg 0 t19) fun t20=>
opP (zxg 1 t19) fun t21=>
zrc (zc P 45) H2 fun t7 H6=>
opW (zka 64 t7 t20 H6) fun u H8=>
opP (zhd 64 1 t7 none none none H8) fun t23=>
opW (zEa 1 1 (nth l 3) t23 H8) fun t24 H11=>
opP ((zma P .add 3 true).f (nth l 5) (.int .i64 1)) fun t25=>
N [(nth l 0),(nth l 1),(nth l 2),t24,(nth l 4),t25] H11) (
Qx 0 [(nth l 2),(nth l 3)] H)
theorem zXk:LpI P 27 zlj 48 zmj:=.mk (by kernel_rfl) fun l H N Qx Qr=>by kernel_rfl
def zvn(t0 t1:Value)(H:Heap)(K:VH):Prop:=
wCall P zme [t0,t1] H fun t11 H1=>
zdb P true 27 zlj 48 [t0,t1,(.slice none 0 0),(.slice none 0 0),t11,(.int .i64 0)] H1 (fun id l H3=>
cond (Nat.beq id 0) (
K (nth l 1) H3) (
False)) (fun l H3=>
K (nth l 0) H3)
theorem zup{t0 t1:Value}{H:Heap}{K:VH}(h:zvn t0 t1 H K):wCall P zIb [t0,t1] H K:=zha rfl (Eq.mpr (by kernel_rfl) h)
def zZq(t0 t1:Value)(H:Heap)(K:VH):Prop:=
zrc (zya t0) H fun t2 H1=>
zQb (fun J=>
opW (zpa 37 t2 H1) fun t6 H4=>
wCall P zCf [t6] H4 fun t7 H6=>
opP (unA .not t7) fun t8=>
wIf t8 (
opP (zla t8 (.bool true) undef) fun t12=>
opP (zla t12 (.bool true) undef) fun t19=>
J [t1,t2,t19] H6) (
opP ((zma P .lss 3 true).f t1 (.int .i64 0)) fun t11=>
opP (zla t8 (.bool true) t11) fun t12_1=>
wIf t12_1 (
opP (zla t12_1 (.bool true) undef) fun t19_1=>
J [t1,t2,t19_1] H6) (
opP (zfa 36 t2) fun t15=>
opW (zba t15 H6) fun t16 H15=>
opW (lenSl t16 H15) fun t17 H17=>
opP ((zma P .geq 3 false).f t1 t17) fun t18=>
opP (zla t12_1 (.bool true) t18) fun t19_2=>
J [t1,t2,t19_2] H17))) (fun l H21=>
wIf (nth l 2) (
K (.tuple [(.int .i64 0),(.int .i64 0)].toArray) H21) (
opP (zfa 36 (nth l 1)) fun t21=>
opW (zba t21 H21) fun t22 H24=>
opW (lenSl t22 H24) fun t23 H26=>
opP ((zma P .sub 3 true).f t23 (.int .i64 1)) fun t24=>
opP ((zma P .eql 3 false).f (nth l 0) t24) fun t25=>
wIf t25 (
opP (zfa 3 (nth l 1)) fun t27=>
opW (zba t27 H26) fun t28 H31=>
opP ((zma P .mul 3 false).f (nth l 0) t28) fun t29=>
opP (zfa 2 (nth l 1)) fun t30=>
opW (zba t30 H31) fun t31 H35=>
opP (zfa 3 (nth l 1)) fun t33=>
opW (zba t33 H35) fun t34 H38=>
opP ((zma P .mul 3 false).f (nth l 0) t34) fun t35=>
opP ((zma P .sub 3 false).f t31 t35) fun t36=>
K (.tuple [t29,t36].toArray) H38) (
opP (zfa 3 (nth l 1)) fun t38=>
opW (zba t38 H26) fun t39 H43=>
opP ((zma P .mul 3 false).f (nth l 0) t39) fun t40=>
opP (zfa 3 (nth l 1)) fun t41=>
opW (zba t41 H43) fun t42 H47=>
K (.tuple [t40,t42].toArray) H47)))
theorem zrs{t0 t1:Value}{H:Heap}{K:VH}(h:zZq t0 t1 H K):wCall P zgj [t0,t1] H K:=zha rfl (Eq.mpr (by kernel_rfl) h)
def zte(t0 t1:Value)(H:Heap)(K:VH):Prop:=
wCall P zYb [t0] H fun t6 H1=>
opP ((zma P .eql 3 true).f t6 (.int .i64 0)) fun t7=>
wIf t7 (
K (.bool false) H1) (
opP (zea t0) fun t9=>
opP (zfa 0 t9) fun t10=>
opW (zba t10 H1) fun t11 H6=>
opP (zea t0) fun t14=>
opP (zfa 2 t14) fun t15=>
opW (zba t15 H6) fun t16 H10=>
wCall P zvb [t0,t16] H10 fun t17 H12=>
zeb (zcb H10 H12) (zJa [t10])∧(opP (zld 1 t11 t17) fun t19=>
opW (zka 1 t19 t1 H12) fun u H15=>
opP (zea t0) fun t21=>
opP (zfa 2 t21) fun t22=>
opW (zba t22 H15) fun t23 H19=>
opP ((zma P .add 3 true).f t23 (.int .i64 1)) fun t24=>
opP (zea t0) fun t25=>
opP (zfa 2 t25) fun t26=>
opW (zka 1 t26 t24 H19) fun u_1 H24=>
K (.bool true) H24))
theorem zig{t0 t1:Value}{H:Heap}{K:VH}(h:zte t0 t1 H K):wCall P zza [t0,t1] H K:=zha rfl (Eq.mpr (by kernel_rfl) h)
def zkh(t0:Value)(H:Heap)(K:VH):Prop:=
zQb (fun J=>
opP (zea t0) fun t20=>
opP (zfa 45 t20) fun t21=>
opW (zba t21 H) fun t22 H4=>
opP ((zma P .neq 36 true).f t22 (.int .i64 0)) fun t23=>
wIf t23 (
opP (zla t23 (.bool true) undef) fun t30=>
J [t0,t30] H4) (
opP (zea t0) fun t26=>
opP (zfa 44 t26) fun t27=>
opW (zba t27 H4) fun t28 H10=>
opP ((zma P .eql 3 true).f t28 (.int .i64 4)) fun t29=>
opP (zla t23 (.bool true) t29) fun t30_1=>
J [t0,t30_1] H10)) (fun l H14=>
wIf (nth l 1) (
K (.bool false) H14) (
opP (zea (nth l 0)) fun t33=>
opP (zfa 44 t33) fun t34=>
opW (zba t34 H14) fun t35 H18=>
opP ((zma P .eql 3 true).f t35 (.int .i64 1)) fun t36=>
wIf t36 (
wCall P zxc [(nth l 0)] H18 fun t38 H21=>
K (.bool true) H21) (
opP (zea (nth l 0)) fun t41=>
opP (zfa 44 t41) fun t42=>
opW (zba t42 H18) fun t43 H25=>
opP ((zma P .eql 3 true).f t43 (.int .i64 3)) fun t44=>
wIf t44 (
wCall P zmd [(nth l 0)] H25 fun t46 H28=>
K (.bool true) H28) (
opP (zea (nth l 0)) fun t49=>
opP (zfa 42 t49) fun t50=>
opW (zba t50 H25) fun t51 H32=>
opW (lenSl t51 H32) fun t52 H34=>
opP ((zma P .gtr 3 true).f t52 (.int .i64 0)) fun t53=>
wIf t53 (
wCall P zJd [(nth l 0)] H34 fun t55 H37=>
K (.bool true) H37) (
opP (zea (nth l 0)) fun t7=>
opP (zfa 3 t7) fun t8=>
opW (zba t8 H34) fun t9 H41=>
wCall P zZb [t9] H41 fun t10 H43=>
opP (zxg 0 t10) fun t11=>
opP (zxg 1 t10) fun t12=>
opP (unA .not t12) fun t14=>
wIf t14 (
K (.bool false) H43) (
wCall P zyc [(nth l 0),t11] H43 fun t17 H48=>
K (.bool true) H48))))))
theorem zYj{t0:Value}{H:Heap}{K:VH}(h:zkh t0 H K):wCall P zGa [t0] H K:=zha rfl (Eq.mpr (by kernel_rfl) h)
def zlh(t0:Value)(H:Heap)(K:VH):Prop:=
opP (zea t0) fun t4=>
opP (zfa 44 t4) fun t5=>
opW (zba t5 H) fun t6 H3=>
opP ((zma P .eql 3 true).f t6 (.int .i64 4)) fun t7=>
K t7 H3
theorem zZj{t0:Value}{H:Heap}{K:VH}(h:zlh t0 H K):wCall P zRa [t0] H K:=zha rfl (Eq.mpr (by kernel_rfl) h)
def zvi(t0:Value)(H:Heap)(K:VH):Prop:=
opP (zea t0) fun t4=>
opP (zfa 45 t4) fun t5=>
opW (zba t5 H) fun t6 H3=>
K t6 H3
theorem zYk{t0:Value}{H:Heap}{K:VH}(h:zvi t0 H K):wCall P zrb [t0] H K:=zha rfl (Eq.mpr (by kernel_rfl) h)
def znj(t0:Value)(H:Heap)(K:VH):Prop:=
opP (zea t0) fun t4=>
opP (zfa 0 t4) fun t5=>
opW (zba t5 H) fun t6 H3=>
K t6 H3
theorem zUl{t0:Value}{H:Heap}{K:VH}(h:znj t0 H K):wCall P zHe [t0] H K:=zha rfl (Eq.mpr (by kernel_rfl) h)
def zmf(t0:Value)(H:Heap)(K:VH):Prop:=
opP (zea t0) fun t4=>
opP (zfa 1 t4) fun t5=>
opW (zba t5 H) fun t6 H3=>
opW (lenSl t6 H3) fun t7 H5=>
K t7 H5
theorem zhi{t0:Value}{H:Heap}{K:VH}(h:zmf t0 H K):wCall P zJc [t0] H K:=zha rfl (Eq.mpr (by kernel_rfl) h)
def znf(t0:Value)(H:Heap)(K:VH):Prop:=
opP (zea t0) fun t4=>
opP (zfa 43 t4) fun t5=>
opW (zba t5 H) fun t6 H3=>
K t6 H3
theorem zii{t0:Value}{H:Heap}{K:VH}(h:znf t0 H K):wCall P zOb [t0] H K:=zha rfl (Eq.mpr (by kernel_rfl) h)
def zwn(t0:Value)(H:Heap)(K:VH):Prop:=
opP (zea t0) fun t5=>
opP (zfa 3 t5) fun t6=>
opW (zba t6 H) fun t7 H3=>
opP (zea t0) fun t9=>
opP (zfa 3 t9) fun t10=>
opW (zka 1 t10 (.slice none 0 0) H3) fun u H7=>
K t7 H7
theorem zvp{t0:Value}{H:Heap}{K:VH}(h:zwn t0 H K):wCall P zXb [t0] H K:=zha rfl (Eq.mpr (by kernel_rfl) h)
noncomputable abbrev zyk:Code:=zmb P zAf 0
def zzk(l:List Value)(H:Heap)(N:LN)(Qx:LX)(Qr:LN):Prop:=
opP ((zma P .lss 3 false).f (nth l 3) (nth l 2)) fun t33=>
wIf t33 (
opP (zld 43 (nth l 1) (nth l 3)) fun t34=>
opW (zpa 43 t34 H) fun t35 H3=>
zrc (zc P 75) H3 fun t6 H5=>
opW (zka 43 t6 t35 H5) fun u H7=>
opP (zfa 0 t6) fun t36=>
opW (zba t36 H7) fun t37 H10=>
opP ((zma P .eql 3 true).f t37 (.int .i64 1)) fun t38=>
wIf t38 (
opP (zfa 2 t6) fun t40=>
opP (zfa 0 t40) fun t41=>
opW (zba t41 H10) fun t42 H15=>
opP ((zma P .lss 3 true).f t42 (.int .i64 1)) fun t43=>
wIf t43 (
opP (zla t43 (.bool true) undef) fun t49=>
opP (zla t38 t49 (.bool false)) fun t50=>
opP (zla t50 (.bool true) undef) fun t58=>
opP (zla t58 (.bool true) undef) fun t66=>
opP (zla t66 (.bool true) undef) fun t73=>
wIf t73 (
Qr [(.bool true)] H15) (
opP ((zma P .add 3 true).f (nth l 3) (.int .i64 1)) fun t74=>
N [(nth l 0),(nth l 1),(nth l 2),t74] H15)) (
opP (zfa 2 t6) fun t45=>
opP (zfa 0 t45) fun t46=>
opW (zba t46 H15) fun t47 H26=>
opP ((zma P .gtr 3 true).f t47 (.int .i64 4)) fun t48=>
opP (zla t43 (.bool true) t48) fun t49_1=>
opP (zla t38 t49_1 (.bool false)) fun t50_1=>
wIf t50_1 (
opP (zla t50_1 (.bool true) undef) fun t58_1=>
opP (zla t58_1 (.bool true) undef) fun t66_1=>
opP (zla t66_1 (.bool true) undef) fun t73_1=>
wIf t73_1 (
Qr [(.bool true)] H26) (
opP ((zma P .add 3 true).f (nth l 3) (.int .i64 1)) fun t74_1=>
N [(nth l 0),(nth l 1),(nth l 2),t74_1] H26)) (
opP (zfa 2 t6) fun t52=>
opP (zfa 3 t52) fun t53=>
opP (zfa 36 t53) fun t54=>
opW (zba t54 H26) fun t55 H38=>
opW (lenSl t55 H38) fun t56 H40=>
opP ((zma P .gtr 3 true).f t56 (.int .i64 100)) fun t57=>
opP (zla t50_1 (.bool true) t57) fun t58_2=>
wIf t58_2 (
opP (zla t58_2 (.bool true) undef) fun t66_2=>
opP (zla t66_2 (.bool true) undef) fun t73_2=>
wIf t73_2 (
Qr [(.bool true)] H40) (
opP ((zma P .add 3 true).f (nth l 3) (.int .i64 1)) fun t74_2=>
N [(nth l 0),(nth l 1),(nth l 2),t74_2] H40)) (
opP (zfa 2 t6) fun t60=>
opP (zfa 3 t60) fun t61=>
opP (zfa 0 t61) fun t62=>
opW (zba t62 H40) fun t63 H50=>
opW (ztt t63 H50) fun t64 H52=>
opP ((zma P .gtr 3 true).f t64 (.int .i64 200)) fun t65=>
opP (zla t58_2 (.bool true) t65) fun t66_3=>
wIf t66_3 (
opP (zla t66_3 (.bool true) undef) fun t73_3=>
wIf t73_3 (
Qr [(.bool true)] H52) (
opP ((zma P .add 3 true).f (nth l 3) (.int .i64 1)) fun t74_3=>
N [(nth l 0),(nth l 1),(nth l 2),t74_3] H52)) (
opP (zfa 2 t6) fun t68=>
opP (zfa 40 t68) fun t69=>
opW (zba t69 H52) fun t70 H60=>
opW (lenSl t70 H60) fun t71 H62=>
opP ((zma P .gtr 3 true).f t71 (.int .i64 1100)) fun t72=>
opP (zla t66_3 (.bool true) t72) fun t73_4=>
wIf t73_4 (
Qr [(.bool true)] H62) (
opP ((zma P .add 3 true).f (nth l 3) (.int .i64 1)) fun t74_4=>
N [(nth l 0),(nth l 1),(nth l 2),t74_4] H62)))))) (
opP (zla t38 undef (.bool false)) fun t50_2=>
opP (zfa 2 t6) fun t52_1=>
opP (zfa 3 t52_1) fun t53_1=>
opP (zfa 36 t53_1) fun t54_1=>
opW (zba t54_1 H10) fun t55_1 H71=>
opW (lenSl t55_1 H71) fun t56_1 H73=>
opP ((zma P .gtr 3 true).f t56_1 (.int .i64 100)) fun t57_1=>
opP (zla t50_2 (.bool true) t57_1) fun t58_3=>
wIf t58_3 (
opP (zla t58_3 (.bool true) undef) fun t66_4=>
opP (zla t66_4 (.bool true) undef) fun t73_5=>
wIf t73_5 (
Qr [(.bool true)] H73) (
opP ((zma P .add 3 true).f (nth l 3) (.int .i64 1)) fun t74_5=>
N [(nth l 0),(nth l 1),(nth l 2),t74_5] H73)) (
opP (zfa 2 t6) fun t60_1=>
opP (zfa 3 t60_1) fun t61_1=>
opP (zfa 0 t61_1) fun t62_1=>
opW (zba t62_1 H73) fun t63_1 H83=>
opW (ztt t63_1 H83) fun t64_1 H85=>
opP ((zma P .gtr 3 true).f t64_1 (.int .i64 200)) fun t65_1=>
opP (zla t58_3 (.bool true) t65_1) fun t66_5=>
wIf t66_5 (
opP (zla t66_5 (.bool true) undef) fun t73_6=>
wIf t73_6 (
Qr [(.bool true)] H85) (
opP ((zma P .add 3 true).f (nth l 3) (.int .i64 1)) fun t74_6=>
N [(nth l 0),(nth l 1),(nth l 2),t74_6] H85)) (
opP (zfa 2 t6) fun t68_1=>
opP (zfa 40 t68_1) fun t69_1=>
opW (zba t69_1 H85) fun t70_1 H93=>
opW (lenSl t70_1 H93) fun t71_1 H95=>
opP ((zma P .gtr 3 true).f t71_1 (.int .i64 1100)) fun t72_1=>
opP (zla t66_5 (.bool true) t72_1) fun t73_7=>
wIf t73_7 (
Qr [(.bool true)] H95) (
opP ((zma P .add 3 true).f (nth l 3) (.int .i64 1)) fun t74_7=>
N [(nth l 0),(nth l 1),(nth l 2),t74_7] H95))))) (
Qx 0 [(nth l 0)] H)
theorem zVl:LpI P 75 zyk 16 zzk:=.mk (by kernel_rfl) fun l H N Qx Qr=>by kernel_rfl
def zwp(t0 t1:Value)(H:Heap)(K:VH):Prop:=
zrc (zya t0) H fun t2 H1=>
zQb (fun J=>
opP (zfa 0 t2) fun t7=>
opW (zba t7 H1) fun t8 H5=>
opP ((zma P .lss 3 true).f t8 (.int .i64 1)) fun t9=>
wIf t9 (
opP (zla t9 (.bool true) undef) fun t14=>
opP (zla t14 (.bool true) undef) fun t19=>
opP (zla t19 (.bool true) undef) fun t24=>
opP (zla t24 (.bool true) undef) fun t29=>
wIf t29 (
K (.bool true) H5) (
J [t1,(.bool false)] H5)) (
opP (zfa 0 t2) fun t11=>
opW (zba t11 H5) fun t12 H13=>
opP ((zma P .gtr 3 true).f t12 (.int .i64 20)) fun t13=>
opP (zla t9 (.bool true) t13) fun t14_1=>
wIf t14_1 (
opP (zla t14_1 (.bool true) undef) fun t19_1=>
opP (zla t19_1 (.bool true) undef) fun t24_1=>
opP (zla t24_1 (.bool true) undef) fun t29_1=>
wIf t29_1 (
K (.bool true) H13) (
J [t1,(.bool false)] H13)) (
opP (zfa 2 t2) fun t16=>
opW (zba t16 H13) fun t17 H21=>
opP ((zma P .lss 3 true).f t17 (.int .i64 0)) fun t18=>
opP (zla t14_1 (.bool true) t18) fun t19_2=>
wIf t19_2 (
opP (zla t19_2 (.bool true) undef) fun t24_2=>
opP (zla t24_2 (.bool true) undef) fun t29_2=>
wIf t29_2 (
K (.bool true) H21) (
J [t1,(.bool false)] H21)) (
opP (zfa 2 t2) fun t21=>
opW (zba t21 H21) fun t22 H28=>
opP ((zma P .gtr 3 true).f t22 (.int .i64 1)) fun t23=>
opP (zla t19_2 (.bool true) t23) fun t24_3=>
wIf t24_3 (
opP (zla t24_3 (.bool true) undef) fun t29_3=>
wIf t29_3 (
K (.bool true) H28) (
J [t1,(.bool false)] H28)) (
opW (lenSl t1 H28) fun t27 H33=>
opP ((zma P .gtr 3 true).f t27 (.int .i64 90)) fun t28=>
opP (zla t24_3 (.bool true) t28) fun t29_4=>
wIf t29_4 (
K (.bool true) H33) (
J [t1,(.bool false)] H33)))))) (fun l H37=>
opW (lenSl (nth l 0) H37) fun t31 H39=>
zdb P true 75 zyk 16 [(nth l 1),(nth l 0),t31,(.int .i64 0)] H39 (fun id l_1 H41=>
cond (Nat.beq id 0) (
K (.bool false) H41) (
False)) (fun l_1 H41=>
K (nth l_1 0) H41))
theorem zsq{t0 t1:Value}{H:Heap}{K:VH}(h:zwp t0 t1 H K):wCall P zAf [t0,t1] H K:=zha rfl (Eq.mpr (by kernel_rfl) h)
def zwi(t0 t1:Value)(H:Heap)(K:VH):Prop:=
wCall P zzc [t0,t1] H fun t7 H1=>
opP (unA .not t7) fun t8=>
wIf t8 (
K (.bool false) H1) (
opP ((zxa P 116).f []) fun t10=>
opP (zea t0) fun t11=>
opP (zfa 0 t11) fun t12=>
opW (zka 3 t12 t10 H1) fun u H7=>
K (.bool true) H7)
theorem zZk{t0 t1:Value}{H:Heap}{K:VH}(h:zwi t0 t1 H K):wCall P zke [t0,t1] H K:=zha rfl (Eq.mpr (by kernel_rfl) h)
def zar(t0:Value)(H:Heap)(K:VH):Prop:=
zrc (zya t0) H fun t1 H1=>
opP (zfa 0 t1) fun t3=>
opW (zba t3 H1) fun t4 H4=>
opP ((zma P .eql 3 true).f t4 (.int .i64 1)) fun t6=>
wIf t6 (
opP (zfa 1 t1) fun t7=>
opW (zba t7 H4) fun t8 H8=>
opP ((zxa P 65).f [(0,t8)]) fun t9=>
K (.iface 65 t9) H8) (
opP ((zma P .eql 3 true).f t4 (.int .i64 2)) fun t12=>
wIf t12 (
opP (zfa 2 t1) fun t13=>
opW (zba t13 H4) fun t14 H13=>
opP (zfa 3 t1) fun t15=>
opW (zpa 37 t15 H13) fun t16 H16=>
opP ((zxa P 49).f [(0,t14),(1,t16)]) fun t17=>
K (.iface 49 t17) H16) (
opP ((zma P .eql 3 true).f t4 (.int .i64 3)) fun t20=>
wIf t20 (
opP (zfa 1 t1) fun t21=>
opW (zba t21 H4) fun t22 H21=>
opP (zfa 40 t1) fun t23=>
opW (zba t23 H21) fun t24 H24=>
opP ((zxa P 54).f [(0,t22),(1,t24)]) fun t25=>
K (.iface 54 t25) H24) (
opP ((zxa P 56).f []) fun t27=>
K (.iface 56 t27) H4)))
theorem zss{t0:Value}{H:Heap}{K:VH}(h:zar t0 H K):wCall P zhj [t0] H K:=zha rfl (Eq.mpr (by kernel_rfl) h)
def zxi(t0 t1 t2:Value)(H:Heap)(K:VH):Prop:=
zQb (fun J=>
opP ((zma P .lss 3 true).f t2 (.int .i64 0)) fun t10=>
wIf t10 (
opP (zla t10 (.bool true) undef) fun t14=>
opP (zla t14 (.bool true) undef) fun t18=>
J [t0,t1,t2,t18] H) (
opP ((zma P .geq 3 true).f t2 (.int .i64 2)) fun t13=>
opP (zla t10 (.bool true) t13) fun t14_1=>
wIf t14_1 (
opP (zla t14_1 (.bool true) undef) fun t18_1=>
J [t0,t1,t2,t18_1] H) (
opP ((zma P .lss 3 true).f t1 (.int .i64 1)) fun t17=>
opP (zla t14_1 (.bool true) t17) fun t18_2=>
J [t0,t1,t2,t18_2] H))) (fun l H10=>
wIf (nth l 3) (
K (.tuple [(.int .u64 0),(.int .i64 101)].toArray) H10) (
opP (zea (nth l 0)) fun t21=>
opP (zfa 0 t21) fun t22=>
opW (zpa 3 t22 H10) fun t23 H14=>
wCall P zQc [t23] H14 fun t24 H16=>
wIf t24 (
K (.tuple [(.int .u64 0),(.int .i64 161)].toArray) H16) (
opP (zea (nth l 0)) fun t26=>
opP (zfa 6 t26) fun t27=>
opW (zba t27 H16) fun t28 H20=>
opP ((zma P .add 26 true).f t28 (.int .u64 1)) fun t29=>
opP (zea (nth l 0)) fun t30=>
opP (zfa 6 t30) fun t31=>
opW (zka 1 t31 t29 H20) fun u H25=>
opP (zea (nth l 0)) fun t36=>
opP (zfa 6 t36) fun t37=>
opW (zba t37 H25) fun t38 H29=>
opP ((zxa P 116).f [(0,(nth l 1)),(1,(nth l 2)),(2,t38)]) fun t39=>
opP (zea (nth l 0)) fun t40=>
opP (zfa 0 t40) fun t41=>
opW (zka 3 t41 t39 H29) fun u_1 H34=>
opP (zea (nth l 0)) fun t43=>
opP (zfa 6 t43) fun t44=>
opW (zba t44 H34) fun t45 H38=>
K (.tuple [t45,(.int .i64 0)].toArray) H38)))
theorem zal{t0 t1 t2:Value}{H:Heap}{K:VH}(h:zxi t0 t1 t2 H K):wCall P zPc [t0,t1,t2] H K:=zha rfl (Eq.mpr (by kernel_rfl) h)
noncomputable abbrev zoj:Code:=zmb P zEb 0
noncomputable abbrev zpj:Code:=zmb P zEb 1
noncomputable abbrev zqj:Code:=zmb P zEb 2
noncomputable abbrev zrj:Code:=zmb P zEb 3
noncomputable abbrev zsj:Code:=zmb P zEb 4
noncomputable abbrev ztj:Code:=zmb P zEb 5
noncomputable abbrev zuj:Code:=zmb P zEb 6
noncomputable abbrev zvj:Code:=zmb P zEb 7
def zxn(l:List Value)(H:Heap)(N:LN)(Qx:LX)(Qr:LN):Prop:=
opW (lenSl (nth l 2) H) fun t31 H1=>
opP ((zma P .rem 3 true).f t31 (.int .i64 64)) fun t32=>
opP ((zma P .neq 3 true).f t32 (.int .i64 56)) fun t33=>
wIf t33 (
opW ((zoa P 22 1).f [(0,(.int .u8 0))] H1) fun t35 H5=>
opW (zEa 1 1 (nth l 2) t35 H5) fun t36 H7=>
N [(nth l 0),(nth l 1),t36] H7) (
Qx 0 [(nth l 0),(nth l 1),(nth l 2)] H1)
theorem zRn:LpI P 252 zoj 13 zxn:=.mk (by kernel_rfl) fun l H N Qx Qr=>by kernel_rfl
def zyn(l:List Value)(H:Heap)(N:LN)(Qx:LX)(Qr:LN):Prop:=
opP ((zma P .lss 3 true).f (nth l 4) (.int .i64 8)) fun t42=>
wIf t42 (
opP ((zma P .quo 26 false).f (nth l 2) (nth l 3)) fun t48=>
opP ((zma P .rem 26 true).f t48 (.int .u64 256)) fun t49=>
opW (zhf .u8 t49 H) fun t50 H4=>
opW ((zoa P 22 1).f [(0,t50)] H4) fun t51 H6=>
opW (zEa 1 1 (nth l 1) t51 H6) fun t52 H8=>
opP ((zma P .quo 26 true).f (nth l 3) (.int .u64 256)) fun t54=>
opP ((zma P .add 3 true).f (nth l 4) (.int .i64 1)) fun t44=>
N [(nth l 0),t52,(nth l 2),t54,t44] H8) (
Qx 2 [(nth l 0),(nth l 1)] H)
theorem zSn:LpI P 252 zpj 12 zyn:=.mk (by kernel_rfl) fun l H N Qx Qr=>by kernel_rfl
def zzn(l:List Value)(H:Heap)(N:LN)(Qx:LX)(Qr:LN):Prop:=
opW (lenSl (nth l 1) H) fun t59 H1=>
opP ((zma P .lss 3 false).f (nth l 4) t59) fun t60=>
wIf t60 (
opP ((zxa P 121).f []) fun t63=>
zrc (zc P 121) H1 fun t10 H5=>
opW (zka 64 t10 t63 H5) fun u H7=>
zdb P true 252 zrj 1932 [(nth l 0),(nth l 1),(nth l 2),(nth l 3),(nth l 4),t10,(.int .i64 0)] H7 (fun id l_1 H9=>
cond (Nat.beq id 6) (
opW (zpa 8 (nth l_1 2) H9) fun t129 H11=>
zrc (zc P 119) H11 fun t15 H13=>
opW (zka 8 t15 t129 H13) fun u_1 H15=>
zdb P true 252 ztj 33676 [(nth l_1 0),(nth l_1 1),(nth l_1 2),(nth l_1 3),(nth l_1 4),(nth l_1 5),t15,(.int .i64 0)] H15 (fun id l_2 H17=>
cond (Nat.beq id 10) (
zdb P true 252 zuj 908 [(nth l_2 0),(nth l_2 1),(nth l_2 2),(nth l_2 3),(nth l_2 4),(nth l_2 5),(.int .i64 0)] H17 (fun id l_3 H19=>
cond (Nat.beq id 12) (
opP ((zma P .add 3 true).f (nth l_3 4) (.int .i64 64)) fun t62=>
N [(nth l_3 0),(nth l_3 1),(nth l_3 2),(nth l_3 3),t62] H19) (
cond (Nat.beq id 5) (
opP ((zma P .add 3 true).f (nth l_3 4) (.int .i64 64)) fun t62_1=>
N [(nth l_3 0),(nth l_3 1),(nth l_3 2),(nth l_3 3),t62_1] H19) (
Qx id [(nth l_3 0),(nth l_3 2)] H19))) (fun l_3 H19=>
Qr [(nth l_3 0),(nth l_3 2)] H19)) (
cond (Nat.beq id 5) (
opP ((zma P .add 3 true).f (nth l_2 4) (.int .i64 64)) fun t62_2=>
N [(nth l_2 0),(nth l_2 1),(nth l_2 2),(nth l_2 3),t62_2] H17) (
Qx id [(nth l_2 0),(nth l_2 2)] H17))) (fun l_2 H17=>
Qr [(nth l_2 0),(nth l_2 2)] H17)) (
cond (Nat.beq id 5) (
opP ((zma P .add 3 true).f (nth l_1 4) (.int .i64 64)) fun t62_3=>
N [(nth l_1 0),(nth l_1 1),(nth l_1 2),(nth l_1 3),t62_3] H9) (
Qx id [(nth l_1 0),(nth l_1 2)] H9))) (fun l_1 H9=>
Qr [(nth l_1 0),(nth l_1 2)] H9)) (
Qx 4 [(nth l 0),(nth l 2)] H1)
theorem zTn:LpI P 252 zqj 132 zzn:=.mk (by kernel_rfl) fun l H N Qx Qr=>by kernel_rfl
def zAn(l:List Value)(H:Heap)(N:LN)(Qx:LX)(Qr:LN):Prop:=
opP ((zma P .lss 3 true).f (nth l 3) (.int .i64 32)) fun t235=>
wIf t235 (
opP ((zma P .quo 3 true).f (nth l 3) (.int .i64 4)) fun t239=>
opP (zDa 8 1 (nth l 1) t239) fun t240=>
opW (zba t240 H) fun t241 H4=>
opP ((zma P .rem 3 true).f (nth l 3) (.int .i64 4)) fun t243=>
opP ((zma P .mul 3 true).f (.int .i64 8) t243) fun t244=>
opP ((zma P .sub 3 true).f (.int .i64 24) t244) fun t245=>
opP ((zma P .shr 26 false).f t241 t245) fun t246=>
opP ((zma P .rem 26 true).f t246 (.int .u64 256)) fun t247=>
opW (zhf .u8 t247 H4) fun t248 H11=>
opP (zDa 32 1 (nth l 2) (nth l 3)) fun t249=>
opW (zka 1 t249 t248 H11) fun u H14=>
opP ((zma P .add 3 true).f (nth l 3) (.int .i64 1)) fun t250=>
N [(nth l 0),(nth l 1),(nth l 2),t250] H14) (
Qx 14 [(nth l 0),(nth l 2)] H)
theorem zUn:LpI P 252 zvj 8388612 zAn:=.mk (by kernel_rfl) fun l H N Qx Qr=>by kernel_rfl
def zBn(l:List Value)(H:Heap)(N:LN)(Qx:LX)(Qr:LN):Prop:=
opP ((zma P .lss 3 true).f (nth l 6) (.int .i64 64)) fun t65=>
wIf t65 (
opP ((zma P .lss 3 true).f (nth l 6) (.int .i64 16)) fun t69=>
wIf t69 (
zdb P true 252 zsj 3980 [(nth l 0),(nth l 1),(nth l 2),(nth l 3),(nth l 4),(nth l 5),(nth l 6),(.int .i64 0)] H (fun id l_1 H3=>
cond (Nat.beq id 8) (
opP ((zma P .add 3 true).f (nth l_1 6) (.int .i64 1)) fun t67=>
N [(nth l_1 0),(nth l_1 1),(nth l_1 2),(nth l_1 3),(nth l_1 4),(nth l_1 5),t67] H3) (
cond (Nat.beq id 7) (
opP ((zma P .add 3 true).f (nth l_1 6) (.int .i64 1)) fun t67_1=>
N [(nth l_1 0),(nth l_1 1),(nth l_1 2),(nth l_1 3),(nth l_1 4),(nth l_1 5),t67_1] H3) (
Qx id [(nth l_1 0),(nth l_1 1),(nth l_1 2),(nth l_1 3),(nth l_1 4),(nth l_1 5)] H3))) (fun l_1 H3=>
Qr [(nth l_1 0),(nth l_1 1),(nth l_1 2),(nth l_1 3),(nth l_1 4),(nth l_1 5)] H3)) (
opP ((zma P .sub 3 true).f (nth l 6) (.int .i64 15)) fun t92=>
opP (zDa 64 1 (nth l 5) t92) fun t93=>
opW (zba t93 H) fun t94 H9=>
opP ((zma P .sub 3 true).f (nth l 6) (.int .i64 2)) fun t96=>
opP (zDa 64 1 (nth l 5) t96) fun t97=>
opW (zba t97 H9) fun t98 H13=>
opP ((zma P .sub 3 true).f (nth l 6) (.int .i64 16)) fun t101=>
opP (zDa 64 1 (nth l 5) t101) fun t102=>
opW (zba t102 H13) fun t103 H17=>
wCall P zgb [t94,(.int .u64 7)] H17 fun t105 H19=>
zeb (zcb H17 H19) (zJa [t102])∧(wCall P zgb [t94,(.int .u64 18)] H19 fun t107 H21=>
zeb (zcb H19 H21) (zJa [t102])∧(opP ((zma P .xor 26 false).f t105 t107) fun t108=>
opP ((zma P .shr 26 true).f t94 (.int .u64 3)) fun t110=>
opP ((zma P .xor 26 false).f t108 t110) fun t111=>
opP ((zma P .add 26 false).f t103 t111) fun t112=>
opP ((zma P .sub 3 true).f (nth l 6) (.int .i64 7)) fun t114=>
opP (zDa 64 1 (nth l 5) t114) fun t115=>
opW (zba t115 H21) fun t116 H29=>
zeb (zcb H19 H21) (zJa [t115])∧(zeb (zcb H17 H19) (zJa [t115])∧(opP ((zma P .add 26 false).f t112 t116) fun t117=>
wCall P zgb [t98,(.int .u64 17)] H29 fun t119 H32=>
zeb (zcb H29 H32) (zJa [t115])∧(zeb (zcb H29 H32) (zJa [t102])∧(wCall P zgb [t98,(.int .u64 19)] H32 fun t121 H34=>
zeb (zcb H32 H34) (zJa [t115])∧(zeb (zcb H32 H34) (zJa [t102])∧(opP ((zma P .xor 26 false).f t119 t121) fun t122=>
opP ((zma P .shr 26 true).f t98 (.int .u64 10)) fun t124=>
opP ((zma P .xor 26 false).f t122 t124) fun t125=>
opP ((zma P .add 26 false).f t117 t125) fun t126=>
opP ((zma P .rem 26 true).f t126 (.int .u64 4294967296)) fun t127=>
opP (zDa 64 1 (nth l 5) (nth l 6)) fun t128=>
opW (zka 1 t128 t127 H34) fun u H42=>
opP ((zma P .add 3 true).f (nth l 6) (.int .i64 1)) fun t67_2=>
N [(nth l 0),(nth l 1),(nth l 2),(nth l 3),(nth l 4),(nth l 5),t67_2] H42)))))))))) (
Qx 6 [(nth l 0),(nth l 1),(nth l 2),(nth l 3),(nth l 4),(nth l 5)] H)
theorem zVn:LpI P 252 zrj 1932 zBn:=.mk (by kernel_rfl) fun l H N Qx Qr=>by kernel_rfl
def zCn(l:List Value)(H:Heap)(N:LN)(Qx:LX)(Qr:LN):Prop:=
opP ((zma P .lss 3 true).f (nth l 7) (.int .i64 64)) fun t131=>
wIf t131 (
opP (zDa 8 1 (nth l 6) (.int .i64 4)) fun t134=>
opW (zba t134 H) fun t135 H3=>
opP (zDa 8 1 (nth l 6) (.int .i64 5)) fun t137=>
opW (zba t137 H3) fun t138 H6=>
opP ((zma P .and 26 false).f t135 t138) fun t139=>
opP ((zma P .sub 26 true).f (.int .u64 4294967295) t135) fun t141=>
opP (zDa 8 1 (nth l 6) (.int .i64 6)) fun t142=>
opW (zba t142 H6) fun t143 H11=>
opP ((zma P .and 26 false).f t141 t143) fun t144=>
opP ((zma P .xor 26 false).f t139 t144) fun t145=>
opP (zDa 8 1 (nth l 6) (.int .i64 7)) fun t146=>
opW (zba t146 H11) fun t147 H16=>
wCall P zgb [t135,(.int .u64 6)] H16 fun t149 H18=>
zeb (zcb H16 H18) (zJa [t146])∧(wCall P zgb [t135,(.int .u64 11)] H18 fun t151 H20=>
zeb (zcb H18 H20) (zJa [t146])∧(opP ((zma P .xor 26 false).f t149 t151) fun t152=>
wCall P zgb [t135,(.int .u64 25)] H20 fun t154 H23=>
zeb (zcb H20 H23) (zJa [t146])∧(opP ((zma P .xor 26 false).f t152 t154) fun t155=>
opP ((zma P .add 26 false).f t147 t155) fun t156=>
opP ((zma P .add 26 false).f t156 t145) fun t158=>
opP (zDa 64 1 (nth l 3) (nth l 7)) fun t160=>
opW (zba t160 H23) fun t161 H29=>
zeb (zcb H20 H23) (zJa [t160])∧(zeb (zcb H18 H20) (zJa [t160])∧(zeb (zcb H16 H18) (zJa [t160])∧(opP ((zma P .add 26 false).f t158 t161) fun t162=>
opP (zDa 64 1 (nth l 5) (nth l 7)) fun t164=>
opW (zba t164 H29) fun t165 H33=>
zeb (zcb H20 H23) (zJa [t164])∧(zeb (zcb H18 H20) (zJa [t164])∧(zeb (zcb H16 H18) (zJa [t164])∧(opP ((zma P .add 26 false).f t162 t165) fun t166=>
opP (zDa 8 1 (nth l 6) (.int .i64 0)) fun t167=>
opW (zba t167 H33) fun t168 H37=>
opP (zDa 8 1 (nth l 6) (.int .i64 1)) fun t169=>
opW (zba t169 H37) fun t170 H40=>
opP ((zma P .and 26 false).f t168 t170) fun t171=>
opP (zDa 8 1 (nth l 6) (.int .i64 0)) fun t172=>
opW (zba t172 H40) fun t173 H44=>
opP (zDa 8 1 (nth l 6) (.int .i64 2)) fun t174=>
opW (zba t174 H44) fun t175 H47=>
opP ((zma P .and 26 false).f t173 t175) fun t176=>
opP ((zma P .xor 26 false).f t171 t176) fun t177=>
opP (zDa 8 1 (nth l 6) (.int .i64 1)) fun t178=>
opW (zba t178 H47) fun t179 H52=>
opP (zDa 8 1 (nth l 6) (.int .i64 2)) fun t180=>
opW (zba t180 H52) fun t181 H55=>
opP ((zma P .and 26 false).f t179 t181) fun t182=>
opP ((zma P .xor 26 false).f t177 t182) fun t183=>
opP (zDa 8 1 (nth l 6) (.int .i64 0)) fun t184=>
opW (zba t184 H55) fun t185 H60=>
wCall P zgb [t185,(.int .u64 2)] H60 fun t186 H62=>
opP (zDa 8 1 (nth l 6) (.int .i64 0)) fun t187=>
opW (zba t187 H62) fun t188 H65=>
zeb (zcb H60 H62) (zJa [t187])∧(wCall P zgb [t188,(.int .u64 13)] H65 fun t189 H67=>
opP ((zma P .xor 26 false).f t186 t189) fun t190=>
opP (zDa 8 1 (nth l 6) (.int .i64 0)) fun t191=>
opW (zba t191 H67) fun t192 H71=>
zeb (zcb H65 H67) (zJa [t191])∧(zeb (zcb H60 H62) (zJa [t191])∧(wCall P zgb [t192,(.int .u64 22)] H71 fun t193 H73=>
opP ((zma P .xor 26 false).f t190 t193) fun t194=>
opP ((zma P .add 26 false).f t194 t183) fun t196=>
opP ((zma P .add 26 false).f t166 t196) fun t199=>
opP ((zma P .rem 26 true).f t199 (.int .u64 4294967296)) fun t200=>
opP (zDa 8 1 (nth l 6) (.int .i64 0)) fun t201=>
opW (zba t201 H73) fun t202 H80=>
opP (zDa 8 1 (nth l 6) (.int .i64 1)) fun t203=>
opW (zba t203 H80) fun t204 H83=>
opP (zDa 8 1 (nth l 6) (.int .i64 2)) fun t205=>
opW (zba t205 H83) fun t206 H86=>
opP (zDa 8 1 (nth l 6) (.int .i64 3)) fun t207=>
opW (zba t207 H86) fun t208 H89=>
opP ((zma P .add 26 false).f t208 t166) fun t210=>
opP ((zma P .rem 26 true).f t210 (.int .u64 4294967296)) fun t211=>
opP (zDa 8 1 (nth l 6) (.int .i64 4)) fun t212=>
opW (zba t212 H89) fun t213 H94=>
opP (zDa 8 1 (nth l 6) (.int .i64 5)) fun t214=>
opW (zba t214 H94) fun t215 H97=>
opP (zDa 8 1 (nth l 6) (.int .i64 6)) fun t216=>
opW (zba t216 H97) fun t217 H100=>
opP ((zxa P 119).f [(0,t200),(1,t202),(2,t204),(3,t206),(4,t211),(5,t213),(6,t215),(7,t217)]) fun t218=>
opW (zka 8 (nth l 6) t218 H100) fun u H103=>
opP ((zma P .add 3 true).f (nth l 7) (.int .i64 1)) fun t133=>
N [(nth l 0),(nth l 1),(nth l 2),(nth l 3),(nth l 4),(nth l 5),(nth l 6),t133] H103))))))))))))) (
Qx 10 [(nth l 0),(nth l 1),(nth l 2),(nth l 3),(nth l 4),(nth l 6)] H)
theorem zWn:LpI P 252 ztj 33676 zCn:=.mk (by kernel_rfl) fun l H N Qx Qr=>by kernel_rfl
def zDn(l:List Value)(H:Heap)(N:LN)(Qx:LX)(Qr:LN):Prop:=
opP ((zma P .lss 3 true).f (nth l 6) (.int .i64 8)) fun t220=>
wIf t220 (
opP (zDa 8 1 (nth l 2) (nth l 6)) fun t224=>
opW (zba t224 H) fun t225 H3=>
opP (zDa 8 1 (nth l 5) (nth l 6)) fun t227=>
opW (zba t227 H3) fun t228 H6=>
opP ((zma P .add 26 false).f t225 t228) fun t229=>
opP ((zma P .rem 26 true).f t229 (.int .u64 4294967296)) fun t230=>
opP (zDa 8 1 (nth l 2) (nth l 6)) fun t231=>
opW (zka 1 t231 t230 H6) fun u H11=>
opP ((zma P .add 3 true).f (nth l 6) (.int .i64 1)) fun t232=>
N [(nth l 0),(nth l 1),(nth l 2),(nth l 3),(nth l 4),(nth l 5),t232] H11) (
Qx 12 [(nth l 0),(nth l 1),(nth l 2),(nth l 3),(nth l 4)] H)
theorem zXn:LpI P 252 zuj 908 zDn:=.mk (by kernel_rfl) fun l H N Qx Qr=>by kernel_rfl
def zEn(l:List Value)(H:Heap)(N:LN)(Qx:LX)(Qr:LN):Prop:=
opP ((zma P .lss 3 true).f (nth l 7) (.int .i64 4)) fun t71=>
wIf t71 (
opP (zDa 64 1 (nth l 5) (nth l 6)) fun t76=>
opW (zba t76 H) fun t77 H3=>
opP ((zma P .mul 26 true).f (.int .u64 256) t77) fun t78=>
opP ((zma P .mul 3 true).f (.int .i64 4) (nth l 6)) fun t82=>
opP ((zma P .add 3 false).f (nth l 4) t82) fun t83=>
opP ((zma P .add 3 false).f t83 (nth l 7)) fun t85=>
opP (zld 1 (nth l 1) t85) fun t86=>
opW (zba t86 H3) fun t87 H10=>
opW (zhf .u64 t87 H10) fun t88 H12=>
opP ((zma P .add 26 false).f t78 t88) fun t89=>
opP (zDa 64 1 (nth l 5) (nth l 6)) fun t90=>
opW (zka 1 t90 t89 H12) fun u H16=>
opP ((zma P .add 3 true).f (nth l 7) (.int .i64 1)) fun t73=>
N [(nth l 0),(nth l 1),(nth l 2),(nth l 3),(nth l 4),(nth l 5),(nth l 6),t73] H16) (
Qx 8 [(nth l 0),(nth l 1),(nth l 2),(nth l 3),(nth l 4),(nth l 5),(nth l 6)] H)
theorem zYn:LpI P 252 zsj 3980 zEn:=.mk (by kernel_rfl) fun l H N Qx Qr=>by kernel_rfl
def zNt(t0:Value)(H:Heap)(K:VH):Prop:=
zrc (zc P 28) H fun t2 H1=>
opW ((zoa P 22 0).f [] H1) fun t25 H3=>
opW (zEa 1 1 t25 t0 H3) fun t27 H5=>
opW ((zoa P 22 1).f [(0,(.int .u8 128))] H5) fun t28 H7=>
opW (zEa 1 1 t27 t28 H7) fun t29 H9=>
zdb P true 252 zoj 13 [t0,t2,t29] H9 (fun id l H11=>
cond (Nat.beq id 0) (
opW (lenSl (nth l 0) H11) fun t38 H13=>
opW (zhf .u64 t38 H13) fun t39 H15=>
opP ((zma P .mul 26 true).f t39 (.int .u64 8)) fun t40=>
zdb P true 252 zpj 12 [(nth l 1),(nth l 2),t40,(.int .u64 72057594037927936),(.int .i64 0)] H15 (fun id l_1 H18=>
cond (Nat.beq id 2) (
wCall P zYh [] H18 fun t55 H20=>
wCall P zSg [] H20 fun t56 H22=>
zrc (zc P 119) H22 fun t7 H24=>
zrc (zc P 121) H24 fun t8 H26=>
opW (zka 8 t7 t55 H26) fun u H28=>
opW (zka 64 t8 t56 H28) fun u_1 H30=>
zdb P true 252 zqj 132 [(nth l_1 0),(nth l_1 1),t7,t8,(.int .i64 0)] H30 (fun id l_2 H32=>
cond (Nat.beq id 4) (
opP ((zxa P 28).f []) fun t233=>
zrc (zc P 28) H32 fun t23 H35=>
opW (zka 32 t23 t233 H35) fun u_2 H37=>
zdb P true 252 zvj 8388612 [(nth l_2 0),(nth l_2 1),t23,(.int .i64 0)] H37 (fun id l_3 H39=>
cond (Nat.beq id 14) (
opW (zpa 32 (nth l_3 1) H39) fun t251 H41=>
opW (zka 32 (nth l_3 0) t251 H41) fun u_3 H43=>
opW (zpa 32 (nth l_3 0) H43) fun r _=>
K r H43) (
False)) (fun l_3 H39=>
opW (zpa 32 (nth l_3 0) H39) fun r_1 _=>
K r_1 H39)) (
False)) (fun l_2 H32=>
opW (zpa 32 (nth l_2 0) H32) fun r_2 _=>
K r_2 H32)) (
False)) (fun l_1 H18=>
opW (zpa 32 (nth l_1 0) H18) fun r_3 _=>
K r_3 H18)) (
False)) (fun l H11=>
opW (zpa 32 (nth l 1) H11) fun r_4 _=>
K r_4 H11)
theorem zOt{t0:Value}{H:Heap}{K:VH}(h:zNt t0 H K):wCall P zEb [t0] H K:=zha rfl (Eq.mpr (by kernel_rfl) h)
def zxp(t0 t1:Value)(H:Heap)(K:VH):Prop:=
zQb (fun J=>
opP ((zma P .lss 3 true).f t0 (.int .i64 1)) fun t7=>
wIf t7 (
opP (zla t7 (.bool true) undef) fun t11=>
wIf t11 (
K (.int .i64 0) H) (
J [t0,t1] H)) (
opP ((zma P .lss 3 true).f t1 (.int .i64 1)) fun t10=>
opP (zla t7 (.bool true) t10) fun t11_1=>
wIf t11_1 (
K (.int .i64 0) H) (
J [t0,t1] H))) (fun l H6=>
opP ((zma P .quo 3 false).f (nth l 0) (nth l 1)) fun t14=>
opP ((zma P .rem 3 false).f (nth l 0) (nth l 1)) fun t17=>
opP ((zma P .gtr 3 true).f t17 (.int .i64 0)) fun t18=>
wIf t18 (
opP ((zma P .add 3 true).f t14 (.int .i64 1)) fun t20=>
K t20 H6) (
K t14 H6))
theorem ztq{t0 t1:Value}{H:Heap}{K:VH}(h:zxp t0 t1 H K):wCall P zBf [t0,t1] H K:=zha rfl (Eq.mpr (by kernel_rfl) h)
def zyp(t0:Value)(H:Heap)(K:VH):Prop:=
zrc (zya t0) H fun t1 H1=>
zQb (fun J=>
opP (zfa 0 t1) fun t3=>
opW (zba t3 H1) fun t4 H5=>
wCall P zYe [t4] H5 fun t5 H7=>
opP ((zma P .neq 3 true).f t5 (.int .i64 0)) fun t6=>
wIf t6 (
opP (zla t6 (.bool true) undef) fun t11=>
opP (zla t11 (.bool true) undef) fun t16=>
opP (zla t16 (.bool true) undef) fun t21=>
opP (zla t21 (.bool true) undef) fun t26=>
wIf t26 (
K (.bool false) H7) (
J [t1] H7)) (
opP (zfa 1 t1) fun t8=>
opW (zba t8 H7) fun t9 H15=>
opP ((zma P .lss 26 true).f t9 (.int .u64 1)) fun t10=>
opP (zla t6 (.bool true) t10) fun t11_1=>
wIf t11_1 (
opP (zla t11_1 (.bool true) undef) fun t16_1=>
opP (zla t16_1 (.bool true) undef) fun t21_1=>
opP (zla t21_1 (.bool true) undef) fun t26_1=>
wIf t26_1 (
K (.bool false) H15) (
J [t1] H15)) (
opP (zfa 1 t1) fun t13=>
opW (zba t13 H15) fun t14 H23=>
opP ((zma P .gtr 26 true).f t14 (.int .u64 281474976710656)) fun t15=>
opP (zla t11_1 (.bool true) t15) fun t16_2=>
wIf t16_2 (
opP (zla t16_2 (.bool true) undef) fun t21_2=>
opP (zla t21_2 (.bool true) undef) fun t26_2=>
wIf t26_2 (
K (.bool false) H23) (
J [t1] H23)) (
opP (zfa 2 t1) fun t18=>
opW (zba t18 H23) fun t19 H30=>
opP ((zma P .lss 3 true).f t19 (.int .i64 1)) fun t20=>
opP (zla t16_2 (.bool true) t20) fun t21_3=>
wIf t21_3 (
opP (zla t21_3 (.bool true) undef) fun t26_3=>
wIf t26_3 (
K (.bool false) H30) (
J [t1] H30)) (
opP (zfa 2 t1) fun t23=>
opW (zba t23 H30) fun t24 H36=>
opP ((zma P .gtr 3 true).f t24 (.int .i64 65536)) fun t25=>
opP (zla t21_3 (.bool true) t25) fun t26_4=>
wIf t26_4 (
K (.bool false) H36) (
J [t1] H36)))))) (fun l H40=>
zQb (fun J_1=>
opP (zfa 3 (nth l 0)) fun t27=>
opW (zba t27 H40) fun t28 H44=>
opP ((zma P .lss 3 true).f t28 (.int .i64 64)) fun t29=>
wIf t29 (
opP (zla t29 (.bool true) undef) fun t34=>
opP (zla t34 (.bool true) undef) fun t40=>
wIf t40 (
K (.bool false) H44) (
J_1 [(nth l 0)] H44)) (
opP (zfa 3 (nth l 0)) fun t31=>
opW (zba t31 H44) fun t32 H50=>
opP ((zma P .gtr 3 true).f t32 (.int .i64 1024)) fun t33=>
opP (zla t29 (.bool true) t33) fun t34_1=>
wIf t34_1 (
opP (zla t34_1 (.bool true) undef) fun t40_1=>
wIf t40_1 (
K (.bool false) H50) (
J_1 [(nth l 0)] H50)) (
opP (zfa 3 (nth l 0)) fun t36=>
opW (zba t36 H50) fun t37 H56=>
opP ((zma P .rem 3 true).f t37 (.int .i64 64)) fun t38=>
opP ((zma P .neq 3 true).f t38 (.int .i64 0)) fun t39=>
opP (zla t34_1 (.bool true) t39) fun t40_2=>
wIf t40_2 (
K (.bool false) H56) (
J_1 [(nth l 0)] H56)))) (fun l_1 H61=>
opP (zfa 36 (nth l_1 0)) fun t41=>
opW (zba t41 H61) fun t42 H64=>
opW (lenSl t42 H64) fun t43 H66=>
opP ((zma P .leq 3 true).f t43 (.int .i64 64)) fun t44=>
wIf t44 (
opP (zfa 36 (nth l_1 0)) fun t46=>
opW (zba t46 H66) fun t47 H70=>
opW (lenSl t47 H70) fun t48 H72=>
opP (zfa 2 (nth l_1 0)) fun t49=>
opW (zba t49 H72) fun t50 H75=>
opP (zfa 3 (nth l_1 0)) fun t51=>
opW (zba t51 H75) fun t52 H78=>
wCall P zBf [t50,t52] H78 fun t53 H80=>
zeb (zcb H78 H80) (zJa [t46])∧(opP ((zma P .eql 3 false).f t48 t53) fun t54=>
opP (zla t44 t54 (.bool false)) fun t55=>
K t55 H80)) (
opP (zla t44 undef (.bool false)) fun t55_1=>
K t55_1 H66)))
theorem zuq{t0:Value}{H:Heap}{K:VH}(h:zyp t0 H K):wCall P zCf [t0] H K:=zha rfl (Eq.mpr (by kernel_rfl) h)
noncomputable abbrev zzp:Code:=zmb P zVj 0
def zAp(l:List Value)(H:Heap)(N:LN)(Qx:LX)(Qr:LN):Prop:=
opP ((zma P .lss 3 false).f (nth l 7) (nth l 6)) fun t24=>
wIf t24 (
opP (zld 1 (nth l 5) (nth l 7)) fun t25=>
opW (zba t25 H) fun t26 H3=>
zQb (fun J=>
opP ((zma P .lss 3 true).f t26 (.int .i64 1)) fun t28=>
wIf t28 (
opP (zla t28 (.bool true) undef) fun t36=>
J [(nth l 0),(nth l 1),(nth l 2),(nth l 3),(nth l 4),t26,(nth l 5),(nth l 6),(nth l 7),t36] H3) (
wCall P zKd [(nth l 0)] H3 fun t32 H8=>
opP ((zma P .sub 3 false).f t32 (nth l 4)) fun t34=>
opP ((zma P .gtr 3 false).f t26 t34) fun t35=>
opP (zla t28 (.bool true) t35) fun t36_1=>
J [(nth l 0),(nth l 1),(nth l 2),(nth l 3),(nth l 4),t26,(nth l 5),(nth l 6),(nth l 7),t36_1] H8)) (fun l_1 H13=>
wIf (nth l_1 9) (
Qr [(.pointer none),(.int .i64 71),(nth l_1 3)] H13) (
opP (zea (nth l_1 3)) fun t39=>
opP (zfa 1 t39) fun t40=>
opW (zba t40 H13) fun t41 H17=>
opP ((zxa P 128).f [(0,(nth l_1 4)),(1,(nth l_1 5))]) fun t44=>
opW ((zoa P 96 1).f [(0,t44)] H17) fun t45 H20=>
opW (zEa 2 16 t41 t45 H20) fun t46 H22=>
opP (zea (nth l_1 3)) fun t47=>
opP (zfa 1 t47) fun t48=>
opW (zka 1 t48 t46 H22) fun u H26=>
opP ((zma P .add 3 false).f (nth l_1 4) (nth l_1 5)) fun t51=>
opP ((zma P .add 3 true).f (nth l_1 8) (.int .i64 1)) fun t52=>
N [(nth l_1 0),(nth l_1 1),(nth l_1 2),(nth l_1 3),t51,(nth l_1 6),(nth l_1 7),t52] H26))) (
Qx 0 [(nth l 1),(nth l 2),(nth l 3)] H)
theorem zBp:LpI P 54 zzp 112 zAp:=.mk (by kernel_rfl) fun l H N Qx Qr=>by kernel_rfl
def zVw(t0 t1:Value)(H:Heap)(K:VH):Prop:=
zQb (fun J=>
opW (lenSl t1 H) fun t11 H2=>
opP ((zma P .eql 3 true).f t11 (.int .i64 0)) fun t12=>
wIf t12 (
opP (zla t12 (.bool true) undef) fun t17=>
J [t0,t1,(.pointer none),(.int .i64 0),t17] H2) (
opW (lenSl t1 H2) fun t15 H6=>
opP ((zma P .gtr 3 true).f t15 (.int .i64 16)) fun t16=>
opP (zla t12 (.bool true) t16) fun t17_1=>
J [t0,t1,(.pointer none),(.int .i64 0),t17_1] H6)) (fun l H10=>
wIf (nth l 4) (
K (.tuple [(.pointer none),(.int .i64 71)].toArray) H10) (
opP ((zxa P 98).f [(0,(nth l 0))]) fun t19=>
zrc (zya t19) H10 fun t20 H13=>
opW (lenSl (nth l 1) H13) fun t22 H15=>
zdb P true 54 zzp 112 [(nth l 0),(nth l 2),(nth l 3),t20,(.int .i64 0),(nth l 1),t22,(.int .i64 0)] H15 (fun id l_1 H17=>
cond (Nat.beq id 0) (
K (.tuple [(nth l_1 2),(.int .i64 0)].toArray) H17) (
False)) (fun l_1 H17=>
K (.tuple [(nth l_1 0),(nth l_1 1)].toArray) H17)))
theorem zDv{t0 t1:Value}{H:Heap}{K:VH}(h:zVw t0 t1 H K):wCall P zVj [t0,t1] H K:=zha rfl (Eq.mpr (by kernel_rfl) h)
noncomputable abbrev zFn:Code:=zmb P zXh 0
def zGn(l:List Value)(H:Heap)(N:LN)(Qx:LX)(Qr:LN):Prop:=
opP ((zma P .lss 3 false).f (nth l 3) (nth l 2)) fun t22=>
wIf t22 (
opP (zea (nth l 1)) fun t25=>
opP (zfa 0 t25) fun t26=>
opW (zba t26 H) fun t27 H4=>
wCall P zzb [] H4 fun t29 H6=>
zeb (zcb H4 H6) (zJa [t26])∧(wCall P zzb [] H6 fun t30 H8=>
zeb (zcb H6 H8) (zJa [t26])∧(opP ((zxa P 131).f [(0,t29),(1,t30)]) fun t31=>
opP (zld 129 t27 (nth l 3)) fun t32=>
opW (zka 129 t32 t31 H8) fun u H12=>
opP ((zma P .add 3 true).f (nth l 3) (.int .i64 1)) fun t33=>
N [(nth l 0),(nth l 1),(nth l 2),t33] H12))) (
Qx 0 [(nth l 0),(nth l 1)] H)
theorem zZn:LpI P 35 zFn 48 zGn:=.mk (by kernel_rfl) fun l H N Qx Qr=>by kernel_rfl
def zPt(t0 t1:Value)(H:Heap)(K:VH):Prop:=
opW (zIc H (zaC [t0,(.int .i64 4096)])) fun t8 H1=>
opW (zIc H1 (zJE [(.int .i64 0),t8])) fun t9 H3=>
opW ((zRb P 111).f t9 t9 H3) fun t10 H5=>
opW (zIc H5 (zaC [t1,(.int .i64 100000)])) fun t12 H7=>
opW (zIc H7 (zJE [(.int .i64 0),t12])) fun t13 H9=>
opP ((zxa P 114).f [(0,t10),(2,t13),(3,(.int .i64 (-1)))]) fun t14=>
zrc (zya t14) H9 fun t15 H12=>
opP (zea t15) fun t17=>
opP (zfa 0 t17) fun t18=>
opW (zba t18 H12) fun t19 H16=>
opW (lenSl t19 H16) fun t20 H18=>
zdb P true 35 zFn 48 [(.pointer none),t15,t20,(.int .i64 0)] H18 (fun id l H20=>
cond (Nat.beq id 0) (
K (nth l 1) H20) (
False)) (fun l H20=>
K (nth l 0) H20)
theorem zQt{t0 t1:Value}{H:Heap}{K:VH}(h:zPt t0 t1 H K):wCall P zXh [t0,t1] H K:=zha rfl (Eq.mpr (by kernel_rfl) h)
def zRt(t0 t1:Value)(H:Heap)(K:VH):Prop:=
zrc (zya t1) H fun t3 H1=>
opW (zpa 2 t3 H1) fun t6 H3=>
opP ((zxa P 118).f [(1,t0),(2,t6)]) fun t7=>
zrc (zya t7) H3 fun t8 H6=>
K t8 H6
theorem zSt{t0 t1:Value}{H:Heap}{K:VH}(h:zRt t0 t1 H K):wCall P zRk [t0,t1] H K:=zha rfl (Eq.mpr (by kernel_rfl) h)
def zmh(t0:Value)(H:Heap)(K:VH):Prop:=
opW (zIc H (zaC [t0,(.int .i64 16)])) fun t4 H1=>
opW (zIc H1 (zJE [(.int .i64 1),t4])) fun t5 H3=>
opW ((zRb P 50).f t5 t5 H3) fun t6 H5=>
opP ((zxa P 104).f [(0,t6)]) fun t7=>
zrc (zya t7) H5 fun t8 H8=>
K t8 H8
theorem zak{t0:Value}{H:Heap}{K:VH}(h:zmh t0 H K):wCall P zId [t0] H K:=zha rfl (Eq.mpr (by kernel_rfl) h)
def zTt(t0 t1 t2 t3:Value)(H:Heap)(K:VH):Prop:=
opP ((zxa P 107).f [(0,t0),(1,t1),(2,t2),(3,t3)]) fun t13=>
zrc (zya t13) H fun t14 H2=>
K t14 H2
theorem zUt{t0 t1 t2 t3:Value}{H:Heap}{K:VH}(h:zTt t0 t1 t2 t3 H K):wCall P zSk [t0,t1,t2,t3] H K:=zha rfl (Eq.mpr (by kernel_rfl) h)
def zAk(t0 t1 t2:Value)(H:Heap)(K:VH):Prop:=
wCall P zSe [t0,t1] H fun t11 H1=>
opP (unA .not t11) fun t12=>
wIf t12 (
K (.tuple [(.int .i64 0),(.int .i64 71)].toArray) H1) (
zQb (fun J=>
opP ((zma P .lss 3 true).f t2 (.int .i64 0)) fun t15=>
wIf t15 (
opP (zla t15 (.bool true) undef) fun t27=>
J [t0,t1,t2,t27] H1) (
opP (zea t0) fun t19=>
opP (zfa 1 t19) fun t20=>
opW (zba t20 H1) fun t21 H9=>
opP (zld 2 t21 t1) fun t23=>
opP (zfa 1 t23) fun t24=>
opW (zba t24 H9) fun t25 H13=>
opP ((zma P .geq 3 false).f t2 t25) fun t26=>
opP (zla t15 (.bool true) t26) fun t27_1=>
J [t0,t1,t2,t27_1] H13)) (fun l H17=>
wIf (nth l 3) (
K (.tuple [(.int .i64 0),(.int .i64 61)].toArray) H17) (
opP (zea (nth l 0)) fun t29=>
opP (zfa 1 t29) fun t30=>
opW (zba t30 H17) fun t31 H21=>
opP (zld 2 t31 (nth l 1)) fun t33=>
opP (zfa 0 t33) fun t34=>
opW (zba t34 H21) fun t35 H25=>
opP ((zma P .add 3 false).f t35 (nth l 2)) fun t37=>
K (.tuple [t37,(.int .i64 0)].toArray) H25)))
theorem zRm{t0 t1 t2:Value}{H:Heap}{K:VH}(h:zAk t0 t1 t2 H K):wCall P zFc [t0,t1,t2] H K:=zha rfl (Eq.mpr (by kernel_rfl) h)
def zWl(t0 t1 t2:Value)(H:Heap)(K:VH):Prop:=
zrc (zya t1) H fun t4 H1=>
opP ((zma P .eql 36 true).f t2 (.int .i64 0)) fun t8=>
wIf t8 (
opP (zea t0) fun t10=>
opP (zfa 2 t10) fun t11=>
opW (zba t11 H1) fun t12 H6=>
opP (zfa 3 t4) fun t13=>
opW (zka 1 t13 t12 H6) fun u H9=>
opP (zea t0) fun t16=>
opP (zfa 3 t16) fun t17=>
opW (zba t17 H9) fun t18 H13=>
opW (zpa 4 t4 H13) fun t19 H15=>
opW ((zoa P 66 1).f [(0,t19)] H15) fun t20 H17=>
opW (zEa 4 32 t18 t20 H17) fun t21 H19=>
opP (zea t0) fun t22=>
opP (zfa 3 t22) fun t23=>
opW (zka 1 t23 t21 H19) fun u_1 H23=>
K t2 H23) (
K t2 H1)
theorem zao{t0 t1 t2:Value}{H:Heap}{K:VH}(h:zWl t0 t1 t2 H K):wCall P zle [t0,t1,t2] H K:=zha rfl (Eq.mpr (by kernel_rfl) h)
def zof(t0 t1 t2:Value)(H:Heap)(K:VH):Prop:=
zrc (zya t2) H fun t5 H1=>
wCall P zLb [t0,t1] H1 fun t10 H3=>
opP ((zma P .eql 133 true).f t10 (.pointer none)) fun t13=>
wIf t13 (
K (.int .i64 61) H3) (
opP (zea t0) fun t16=>
opP (zfa 4 t16) fun t17=>
opW (zba t17 H3) fun t18 H8=>
wIf t18 (
K (.int .i64 62) H8) (
opP (zea t10) fun t21=>
opP (zfa 64 t21) fun t22=>
opW (zpa 64 t22 H8) fun t23 H12=>
wCall P zzb [] H12 fun t24 H14=>
zeb (zcb H12 H14) (zJa [t22])∧(opP ((zma P .neq 45 false).f t23 t24) fun t25=>
wIf t25 (
K (.int .i64 63) H14) (
wCall P zyb [t0] H14 fun t28 H17=>
opP (unA .not t28) fun t29=>
wIf t29 (
K (.int .i64 62) H17) (
opW (zpa 64 t5 H17) fun t32 H20=>
wCall P zRc [t0,t1,t32] H20 fun t33 H22=>
K (.int .i64 0) H22)))))
theorem zji{t0 t1 t2:Value}{H:Heap}{K:VH}(h:zof t0 t1 t2 H K):wCall P zKc [t0,t1,t2] H K:=zha rfl (Eq.mpr (by kernel_rfl) h)
noncomputable abbrev zpf:Code:=zmb P zwc 0
def zqf(l:List Value)(H:Heap)(N:LN)(Qx:LX)(Qr:LN):Prop:=
opP ((zma P .lss 3 false).f (nth l 4) (nth l 3)) fun t20=>
wIf t20 (
opP (zld 65 (nth l 2) (nth l 4)) fun t21=>
opW (zpa 65 t21 H) fun t22 H3=>
zrc (zc P 137) H3 fun t4 H5=>
opW (zka 65 t4 t22 H5) fun u H7=>
opP (zea (nth l 0)) fun t24=>
opP (zfa 0 t24) fun t25=>
opW (zba t25 H7) fun t26 H11=>
opP (zfa 0 t4) fun t27=>
opW (zba t27 H11) fun t28 H14=>
opP (zfa 1 t4) fun t29=>
opW (zpa 64 t29 H14) fun t30 H17=>
opP (zld 129 t26 t28) fun t31=>
opP (zfa 0 t31) fun t32=>
opW (zka 64 t32 t30 H17) fun u_1 H21=>
opP ((zma P .add 3 true).f (nth l 4) (.int .i64 1)) fun t33=>
N [(nth l 0),(nth l 1),(nth l 2),(nth l 3),t33] H21) (
Qx 0 [(nth l 0),(nth l 1)] H)
theorem znh:LpI P 37 zpf 5 zqf:=.mk (by kernel_rfl) fun l H N Qx Qr=>by kernel_rfl
def zoh(t0:Value)(H:Heap)(K:VH):Prop:=
zQb (fun J=>
opP (zea t0) fun t6=>
opP (zfa 4 t6) fun t7=>
opW (zba t7 H) fun t8 H4=>
wIf t8 (
opP (zla t8 (.bool true) undef) fun t13=>
wIf t13 (
K (.int .i64 62) H4) (
J [t0,(.int .i64 0)] H4)) (
wCall P zyb [t0] H4 fun t11 H7=>
opP (unA .not t11) fun t12=>
opP (zla t8 (.bool true) t12) fun t13_1=>
wIf t13_1 (
K (.int .i64 62) H7) (
J [t0,(.int .i64 0)] H7))) (fun l H11=>
opP (zea (nth l 0)) fun t15=>
opP (zfa 1 t15) fun t16=>
opW (zba t16 H11) fun t17 H15=>
opW (lenSl t17 H15) fun t18 H17=>
zdb P true 37 zpf 5 [(nth l 0),(nth l 1),t17,t18,(.int .i64 0)] H17 (fun id l_1 H19=>
cond (Nat.beq id 0) (
opP (zea (nth l_1 0)) fun t35=>
opP (zfa 1 t35) fun t36=>
opW (zka 1 t36 (.slice none 0 0) H19) fun u H23=>
K (.int .i64 0) H23) (
False)) (fun l_1 H19=>
K (nth l_1 1) H19))
theorem zbk{t0:Value}{H:Heap}{K:VH}(h:zoh t0 H K):wCall P zwc [t0] H K:=zha rfl (Eq.mpr (by kernel_rfl) h)
def zXl(t0 t1:Value)(H:Heap)(K:VH):Prop:=
wCall P zSe [t0,t1] H fun t7 H1=>
opP (unA .not t7) fun t8=>
wIf t8 (
K (.int .i64 0) H1) (
opP (zea t0) fun t10=>
opP (zfa 1 t10) fun t11=>
opW (zba t11 H1) fun t12 H6=>
opP (zld 2 t12 t1) fun t14=>
opP (zfa 1 t14) fun t15=>
opW (zba t15 H6) fun t16 H10=>
K t16 H10)
theorem zbo{t0 t1:Value}{H:Heap}{K:VH}(h:zXl t0 t1 H K):wCall P zme [t0,t1] H K:=zha rfl (Eq.mpr (by kernel_rfl) h)
def zYl(t0 t1 t2:Value)(H:Heap)(K:VH):Prop:=
zrc (zc P 45) H fun t6 H1=>
wCall P zFc [t0,t1,t2] H1 fun t14 H3=>
opP (zxg 0 t14) fun t15=>
opP (zxg 1 t14) fun t16=>
opP ((zma P .neq 36 true).f t16 (.int .i64 0)) fun t18=>
wIf t18 (
opP ((zxa P 45).f []) fun t19=>
opW (zka 64 t6 t19 H3) fun u H9=>
opW (zpa 64 t6 H9) fun r _=>
K (.tuple [r,t16].toArray) H9) (
opP (zea t0) fun t22=>
opP (zfa 0 t22) fun t23=>
opW (zba t23 H3) fun t24 H14=>
wCall P zLd [t24,t15] H14 fun t26 H16=>
opP (zxg 0 t26) fun t27=>
opP (zxg 1 t26) fun t28=>
opW (zka 64 t6 t27 H16) fun u_1 H20=>
opW (zpa 64 t6 H20) fun r_1 _=>
K (.tuple [r_1,t28].toArray) H20)
theorem zco{t0 t1 t2:Value}{H:Heap}{K:VH}(h:zYl t0 t1 t2 H K):wCall P zne [t0,t1,t2] H K:=zha rfl (Eq.mpr (by kernel_rfl) h)
def zue(t0:Value)(H:Heap)(K:VH):Prop:=
opP (zea t0) fun t4=>
opP (zfa 3 t4) fun t5=>
opW (zba t5 H) fun t6 H3=>
wIf t6 (
K (.int .i64 0) H3) (
opP (zea t0) fun t8=>
opP (zfa 0 t8) fun t9=>
opW (zba t9 H3) fun t10 H7=>
opW (lenSl t10 H7) fun t11 H9=>
opP (zea t0) fun t13=>
opP (zfa 2 t13) fun t14=>
opW (zba t14 H9) fun t15 H13=>
opP ((zma P .sub 3 false).f t11 t15) fun t16=>
K t16 H13)
theorem zjg{t0:Value}{H:Heap}{K:VH}(h:zue t0 H K):wCall P zYb [t0] H K:=zha rfl (Eq.mpr (by kernel_rfl) h)
def zae(t0 t1:Value)(H:Heap)(K:VH):Prop:=
opP (zea t0) fun t6=>
opP (zfa 1 t6) fun t7=>
opW (zba t7 H) fun t8 H3=>
opP ((zma P .add 3 false).f t8 t1) fun t10=>
opP (zea t0) fun t12=>
opP (zfa 0 t12) fun t13=>
opW (zba t13 H3) fun t14 H8=>
opW (lenSl t14 H8) fun t15 H10=>
opP ((zma P .rem 3 false).f t10 t15) fun t16=>
K t16 H10
theorem zYf{t0 t1:Value}{H:Heap}{K:VH}(h:zae t0 t1 H K):wCall P zvb [t0,t1] H K:=zha rfl (Eq.mpr (by kernel_rfl) h)
noncomputable abbrev zrf:Code:=zmb P zxc 0
def zsf(l:List Value)(H:Heap)(N:LN)(Qx:LX)(Qr:LN):Prop:=
opP ((zma P .lss 3 false).f (nth l 2) (nth l 1)) fun t15=>
wIf t15 (
opP (zea (nth l 0)) fun t19=>
opP (zfa 0 t19) fun t20=>
opW (zba t20 H) fun t21 H4=>
opP (zea (nth l 0)) fun t23=>
opP (zfa 2 t23) fun t24=>
opW (zba t24 H4) fun t25 H8=>
wCall P zoe [t21,t25,(nth l 2)] H8 fun t27 H10=>
opP (zxg 0 t27) fun t28=>
opP (zxg 1 t27) fun t29=>
zrc (zc P 45) H10 fun t3 H14=>
opW (zka 64 t3 t28 H14) fun u H16=>
zQb (fun J=>
opP ((zma P .eql 36 true).f t29 (.int .i64 0)) fun t31=>
wIf t31 (
opW (zpa 64 t3 H16) fun t33 H20=>
wCall P zzb [] H20 fun t34 H22=>
zeb (zcb H20 H22) (zJa [t3])∧(opP ((zma P .neq 45 false).f t33 t34) fun t35=>
opP (zla t31 t35 (.bool false)) fun t36=>
J [(nth l 0),(nth l 2),(nth l 1),(nth l 2),t36] H22)) (
opP (zla t31 undef (.bool false)) fun t36_1=>
J [(nth l 0),(nth l 2),(nth l 1),(nth l 2),t36_1] H16)) (fun l_1 H27=>
wIf (nth l_1 4) (
opP (zea (nth l_1 0)) fun t39=>
opP (zfa 0 t39) fun t40=>
opW (zba t40 H27) fun t41 H31=>
opP (zea (nth l_1 0)) fun t43=>
opP (zfa 1 t43) fun t44=>
opW (zba t44 H31) fun t45 H35=>
wCall P zMd [t41,t45,(nth l_1 1)] H35 fun t47 H37=>
opP (zea (nth l_1 0)) fun t48=>
opP (zfa 45 t48) fun t49=>
opW (zka 1 t49 t47 H37) fun u_1 H41=>
Qr [(nth l_1 0)] H41) (
opP ((zma P .add 3 true).f (nth l_1 3) (.int .i64 1)) fun t50=>
N [(nth l_1 0),(nth l_1 2),t50] H27))) (
Qx 0 [(nth l 0)] H)
theorem zph:LpI P 54 zrf 1 zsf:=.mk (by kernel_rfl) fun l H N Qx Qr=>by kernel_rfl
def zqh(t0:Value)(H:Heap)(K:VH):Prop:=
opP (zea t0) fun t6=>
opP (zfa 0 t6) fun t7=>
opW (zba t7 H) fun t8 H3=>
opP (zea t0) fun t10=>
opP (zfa 2 t10) fun t11=>
opW (zba t11 H3) fun t12 H7=>
wCall P zSc [t8,t12] H7 fun t13 H9=>
zdb P true 54 zrf 1 [t0,t13,(.int .i64 0)] H9 (fun id l H11=>
cond (Nat.beq id 0) (
opP (zea (nth l 0)) fun t52=>
opP (zfa 44 t52) fun t53=>
opW (zka 1 t53 (.int .i64 2) H11) fun u H15=>
K (.tuple [].toArray) H15) (
False)) (fun l H11=>
K (.tuple [].toArray) H11)
theorem zck{t0:Value}{H:Heap}{K:VH}(h:zqh t0 H K):wCall P zxc [t0] H K:=zha rfl (Eq.mpr (by kernel_rfl) h)
def zKg(t0:Value)(H:Heap)(K:VH):Prop:=
opP (zea t0) fun t5=>
opP (zfa 0 t5) fun t6=>
opW (zba t6 H) fun t7 H3=>
opP (zea t0) fun t9=>
opP (zfa 1 t9) fun t10=>
opW (zba t10 H3) fun t11 H7=>
wCall P zpe [t7,t11] H7 fun t12 H9=>
opP (zea t0) fun t13=>
opP (zfa 45 t13) fun t14=>
opW (zka 1 t14 t12 H9) fun u H13=>
opP (zea t0) fun t16=>
opP (zfa 45 t16) fun t17=>
opW (zba t17 H13) fun t18 H17=>
opP ((zma P .neq 36 true).f t18 (.int .i64 0)) fun t19=>
wIf t19 (
K (.tuple [].toArray) H17) (
opP (zea t0) fun t21=>
opP (zfa 0 t21) fun t22=>
opW (zba t22 H17) fun t23 H22=>
opP (zea t0) fun t25=>
opP (zfa 2 t25) fun t26=>
opW (zba t26 H22) fun t27 H26=>
wCall P zIe [t23,t27] H26 fun t28 H28=>
zQb (fun J=>
opW (lenSl t28 H28) fun t30 H31=>
opP (zea t0) fun t32=>
opP (zfa 4 t32) fun t33=>
opP (zfa 2 t33) fun t34=>
opW (zba t34 H31) fun t35 H36=>
opP ((zma P .lss 3 false).f t30 t35) fun t36=>
wIf t36 (
opP (zla t36 (.bool true) undef) fun t53=>
J [t0,t53] H36) (
opP (zea t0) fun t40=>
opP (zfa 4 t40) fun t41=>
opP (zfa 2 t41) fun t42=>
opW (zba t42 H36) fun t43 H43=>
opP (zWa 1 t28 none (some t43) none) fun t44=>
opW ((zoa P 154 1).f [(0,t44)] H43) fun t45 H46=>
wCall P zDg [t45] H46 fun t46 H48=>
opP (zea t0) fun t48=>
opP (zfa 4 t48) fun t49=>
opP (zfa 4 t49) fun t50=>
opW (zpa 32 t50 H48) fun t51 H53=>
zeb (zcb H46 H48) (zJa [t50])∧(zIu (zJa [t50]) H43.next H46.next∧(opP ((zma P .neq 28 false).f t46 t51) fun t52=>
opP (zla t36 (.bool true) t52) fun t53_1=>
J [t0,t53_1] H53)))) (fun l H57=>
wIf (nth l 1) (
opP (zea (nth l 0)) fun t55=>
opP (zfa 45 t55) fun t56=>
opW (zka 1 t56 (.int .i64 153) H57) fun u_1 H61=>
K (.tuple [].toArray) H61) (
opP (zea (nth l 0)) fun t58=>
opP (zfa 44 t58) fun t59=>
opW (zka 1 t59 (.int .i64 4) H57) fun u_2 H65=>
K (.tuple [].toArray) H65)))
theorem zwj{t0:Value}{H:Heap}{K:VH}(h:zKg t0 H K):wCall P zmd [t0] H K:=zha rfl (Eq.mpr (by kernel_rfl) h)
def zrh(t0:Value)(H:Heap)(K:VH):Prop:=
opP (zea t0) fun t4=>
opP (zfa 0 t4) fun t5=>
opW (zba t5 H) fun t6 H3=>
opP (zea t0) fun t8=>
opP (zfa 1 t8) fun t9=>
opW (zba t9 H3) fun t10 H7=>
opP (zea t0) fun t12=>
opP (zfa 43 t12) fun t13=>
opW (zba t13 H7) fun t14 H11=>
opP (zea t0) fun t16=>
opP (zfa 42 t16) fun t17=>
opW (zba t17 H11) fun t18 H15=>
opP (zld 64 t18 (.int .i64 0)) fun t19=>
opW (zpa 64 t19 H15) fun t20 H18=>
wCall P zbd [t6,t10,t14,t20] H18 fun t21 H20=>
opP (zea t0) fun t22=>
opP (zfa 45 t22) fun t23=>
opW (zka 1 t23 t21 H20) fun u H24=>
opP (zea t0) fun t25=>
opP (zfa 45 t25) fun t26=>
opW (zba t26 H24) fun t27 H28=>
opP ((zma P .eql 36 true).f t27 (.int .i64 0)) fun t28=>
wIf t28 (
opP (zea t0) fun t31=>
opP (zfa 42 t31) fun t32=>
opW (zba t32 H28) fun t33 H33=>
opP (zWa 64 t33 (some (.int .i64 1)) none none) fun t34=>
opP (zea t0) fun t35=>
opP (zfa 42 t35) fun t36=>
opW (zka 1 t36 t34 H33) fun u_1 H38=>
opP (zea t0) fun t38=>
opP (zfa 43 t38) fun t39=>
opW (zba t39 H38) fun t40 H42=>
opP ((zma P .add 3 true).f t40 (.int .i64 1)) fun t41=>
opP (zea t0) fun t42=>
opP (zfa 43 t42) fun t43=>
opW (zka 1 t43 t41 H42) fun u_2 H47=>
K (.tuple [].toArray) H47) (
K (.tuple [].toArray) H28)
theorem zdk{t0:Value}{H:Heap}{K:VH}(h:zrh t0 H K):wCall P zJd [t0] H K:=zha rfl (Eq.mpr (by kernel_rfl) h)
def zve(t0:Value)(H:Heap)(K:VH):Prop:=
wCall P zac [t0] H fun t9 H1=>
opP (zxg 0 t9) fun t10=>
opP (zxg 1 t9) fun t11=>
wIf t11 (
opP (zea t0) fun t14=>
opP (zfa 0 t14) fun t15=>
opW (zba t15 H1) fun t16 H7=>
opP (zea t0) fun t18=>
opP (zfa 1 t18) fun t19=>
opW (zba t19 H7) fun t20 H11=>
opP (zld 1 t16 t20) fun t22=>
opW (zka 1 t22 .nilIface H11) fun u H14=>
wCall P zvb [t0,(.int .i64 1)] H14 fun t25 H16=>
opP (zea t0) fun t26=>
opP (zfa 1 t26) fun t27=>
opW (zka 1 t27 t25 H16) fun u_1 H20=>
opP (zea t0) fun t29=>
opP (zfa 2 t29) fun t30=>
opW (zba t30 H20) fun t31 H24=>
opP ((zma P .sub 3 true).f t31 (.int .i64 1)) fun t32=>
opP (zea t0) fun t33=>
opP (zfa 2 t33) fun t34=>
opW (zka 1 t34 t32 H24) fun u_2 H29=>
K (.tuple [t10,t11].toArray) H29) (
K (.tuple [t10,t11].toArray) H1)
theorem zkg{t0:Value}{H:Heap}{K:VH}(h:zve t0 H K):wCall P zZb [t0] H K:=zha rfl (Eq.mpr (by kernel_rfl) h)
def zJe(t0 t1:Value)(H:Heap)(K:VH):Prop:=
zrc (zya t0) H fun t2 H1=>
opW (zba t2 H1) fun t7 H3=>
opP (zea t7) fun t8=>
opP (zfa 44 t8) fun t9=>
opW (zba t9 H3) fun t10 H7=>
opP ((zma P .eql 3 true).f t10 (.int .i64 0)) fun t11=>
wIf t11 (
opP (zMb 49 (zTc P 49) t1) fun t48=>
opP (zxg 1 t48) fun t49=>
wIf t49 (
opW (zba t2 H7) fun t12 H12=>
opW (zba t2 H12) fun t13 H14=>
opP (zDd 49 t1) fun t15=>
wCall P znd [t13,t15] H14 fun t16 H17=>
zeb (zcb H14 H17) (zJa [t2])∧(opP (zea t12) fun t17=>
opP (zfa 45 t17) fun t18=>
opW (zka 1 t18 t16 H17) fun u H21=>
K (.tuple [].toArray) H21)) (
opW (zba t2 H7) fun t44 H23=>
opP (zea t44) fun t45=>
opP (zfa 45 t45) fun t46=>
opW (zka 1 t46 (.int .i64 192) H23) fun u_1 H27=>
K (.tuple [].toArray) H27)) (
opP (zMb 54 (zTc P 54) t1) fun t21=>
opP (zxg 0 t21) fun t22=>
opP (zxg 1 t21) fun t23=>
zrc (zc P 54) H7 fun t4 H32=>
opW (zka 2 t4 t22 H32) fun u_2 H34=>
wIf t23 (
opW (zba t2 H34) fun t25 H36=>
opW (zba t2 H36) fun t26 H38=>
opW (zpa 2 t4 H38) fun t27 H40=>
wCall P zNd [t26,t27] H40 fun t28 H42=>
zeb (zcb H40 H42) (zJa [t2])∧(opP (zea t25) fun t29=>
opP (zfa 45 t29) fun t30=>
opW (zka 1 t30 t28 H42) fun u_3 H46=>
K (.tuple [].toArray) H46)) (
opP (zMb 56 (zTc P 56) t1) fun t48_1=>
opP (zxg 1 t48_1) fun t49_1=>
wIf t49_1 (
opP (zDd 56 t1) fun t32=>
opW (zba t2 H34) fun t33 H51=>
opP (zea t33) fun t34=>
opP (zfa 41 t34) fun t35=>
opW (zba t35 H51) fun t36 H55=>
opW (zba t2 H55) fun t37 H57=>
opP (zea t37) fun t38=>
opP (zfa 4 t38) fun t39=>
opP (zfa 36 t39) fun t40=>
opW (zba t40 H57) fun t41 H62=>
opW (lenSl t41 H62) fun t42 H64=>
opP ((zma P .lss 3 false).f t36 t42) fun t43=>
wIf t43 (
opW (zba t2 H64) fun t44_1 H67=>
opP (zea t44_1) fun t45_1=>
opP (zfa 45 t45_1) fun t46_1=>
opW (zka 1 t46_1 (.int .i64 192) H67) fun u_4 H71=>
K (.tuple [].toArray) H71) (
opW (zba t2 H64) fun t47 H73=>
opP (zea t47) fun t48_2=>
opP (zfa 44 t48_2) fun t49_2=>
opW (zka 1 t49_2 (.int .i64 3) H73) fun u_5 H77=>
K (.tuple [].toArray) H77)) (
opW (zba t2 H34) fun t44_2 H79=>
opP (zea t44_2) fun t45_2=>
opP (zfa 45 t45_2) fun t46_2=>
opW (zka 1 t46_2 (.int .i64 192) H79) fun u_6 H83=>
K (.tuple [].toArray) H83)))
theorem zek(t0 t1:Value)(H:Heap)(K:VH):vcB P Seal.heedS zyc [t0,t1] H K=zJe t0 t1 H K:=by kernel_rfl
theorem zfk{t0 t1:Value}{H:Heap}{K:VH}(h:zJe t0 t1 H K):wCall P zyc [t0,t1] H K:=ztn rfl ((zek t0 t1 H K).mpr h)
def zsh(t0 t1:Value)(H:Heap)(K:VH):Prop:=
opP (zea t0) fun t6=>
opP (zfa 0 t6) fun t7=>
opW (zpa 3 t7 H) fun t8 H3=>
wCall P zQc [t8] H3 fun t9 H5=>
wIf t9 (
opP (zea t0) fun t12=>
opP (zfa 0 t12) fun t13=>
opP (zfa 2 t13) fun t14=>
opW (zba t14 H5) fun t15 H10=>
opP ((zma P .eql 26 false).f t15 t1) fun t17=>
opP (zla t9 t17 (.bool false)) fun t18=>
K t18 H10) (
opP (zla t9 undef (.bool false)) fun t18_1=>
K t18_1 H5)
theorem zgk{t0 t1:Value}{H:Heap}{K:VH}(h:zsh t0 t1 H K):wCall P zzc [t0,t1] H K:=zha rfl (Eq.mpr (by kernel_rfl) h)
def zyi(t0:Value)(H:Heap)(K:VH):Prop:=
zrc (zya t0) H fun t1 H1=>
opP (zfa 2 t1) fun t3=>
opW (zba t3 H1) fun t4 H4=>
opP ((zma P .neq 26 true).f t4 (.int .u64 0)) fun t5=>
K t5 H4
theorem zbl{t0:Value}{H:Heap}{K:VH}(h:zyi t0 H K):wCall P zQc [t0] H K:=zha rfl (Eq.mpr (by kernel_rfl) h)
def zCp(H:Heap)(K:VH):Prop:=
zrc (zc P 119) H fun t0 H1=>
opP ((zxa P 119).f [(0,(.int .u64 1779033703)),(1,(.int .u64 3144134277)),(2,(.int .u64 1013904242)),(3,(.int .u64 2773480762)),(4,(.int .u64 1359893119)),(5,(.int .u64 2600822924)),(6,(.int .u64 528734635)),(7,(.int .u64 1541459225))]) fun t1=>
opW (zka 8 t0 t1 H1) fun u H4=>
opW (zpa 8 t0 H4) fun r _=>
K r H4
theorem zvq{H:Heap}{K:VH}(h:zCp  H K):wCall P zYh [] H K:=zha rfl (Eq.mpr (by kernel_rfl) h)
end
end J
set_option maxRecDepth 100000
namespace J
open Go Go.Ab
noncomputable section
def zHn(H:Heap)(K:VH):Prop:=
zrc (zc P 121) H fun t0 H1=>
opP ((zxa P 121).f [(0,(.int .u64 1116352408)),(1,(.int .u64 1899447441)),(2,(.int .u64 3049323471)),(3,(.int .u64 3921009573)),(4,(.int .u64 961987163)),(5,(.int .u64 1508970993)),(6,(.int .u64 2453635748)),(7,(.int .u64 2870763221)),(8,(.int .u64 3624381080)),(9,(.int .u64 310598401)),(10,(.int .u64 607225278)),(11,(.int .u64 1426881987)),(12,(.int .u64 1925078388)),(13,(.int .u64 2162078206)),(14,(.int .u64 2614888103)),(15,(.int .u64 3248222580)),(16,(.int .u64 3835390401)),(17,(.int .u64 4022224774)),(18,(.int .u64 264347078)),(19,(.int .u64 604807628)),(20,(.int .u64 770255983)),(21,(.int .u64 1249150122)),(22,(.int .u64 1555081692)),(23,(.int .u64 1996064986)),(24,(.int .u64 2554220882)),(25,(.int .u64 2821834349)),(26,(.int .u64 2952996808)),(27,(.int .u64 3210313671)),(28,(.int .u64 3336571891)),(29,(.int .u64 3584528711)),(30,(.int .u64 113926993)),(31,(.int .u64 338241895)),(32,(.int .u64 666307205)),(33,(.int .u64 773529912)),(34,(.int .u64 1294757372)),(35,(.int .u64 1396182291)),(36,(.int .u64 1695183700)),(37,(.int .u64 1986661051)),(38,(.int .u64 2177026350)),(39,(.int .u64 2456956037)),(40,(.int .u64 2730485921)),(41,(.int .u64 2820302411)),(42,(.int .u64 3259730800)),(43,(.int .u64 3345764771)),(44,(.int .u64 3516065817)),(45,(.int .u64 3600352804)),(46,(.int .u64 4094571909)),(47,(.int .u64 275423344)),(48,(.int .u64 430227734)),(49,(.int .u64 506948616)),(50,(.int .u64 659060556)),(51,(.int .u64 883997877)),(52,(.int .u64 958139571)),(53,(.int .u64 1322822218)),(54,(.int .u64 1537002063)),(55,(.int .u64 1747873779)),(56,(.int .u64 1955562222)),(57,(.int .u64 2024104815)),(58,(.int .u64 2227730452)),(59,(.int .u64 2361852424)),(60,(.int .u64 2428436474)),(61,(.int .u64 2756734187)),(62,(.int .u64 3204031479)),(63,(.int .u64 3329325298))]) fun t1=>
opW (zka 64 t0 t1 H1) fun u H4=>
opW (zpa 64 t0 H4) fun r _=>
K r H4
theorem zDp{H:Heap}{K:VH}(h:zHn  H K):wCall P zSg [] H K:=zha rfl (Eq.mpr (by kernel_rfl) h)
def zEp(t0 t1:Value)(H:Heap)(K:VH):Prop:=
opP ((zma P .shr 26 false).f t0 t1) fun t7=>
opP ((zma P .sub 26 true).f (.int .u64 32) t1) fun t10=>
opP ((zma P .shl 26 false).f t0 t10) fun t11=>
opP ((zma P .or 26 false).f t7 t11) fun t12=>
opP ((zma P .rem 26 true).f t12 (.int .u64 4294967296)) fun t13=>
K t13 H
theorem zwq{t0 t1:Value}{H:Heap}{K:VH}(h:zEp t0 t1 H K):wCall P zgb [t0,t1] H K:=zha rfl (Eq.mpr (by kernel_rfl) h)
noncomputable abbrev zki:Code:=zmb P zYe 0
def zZl(l:List Value)(H:Heap)(N:LN)(Qx:LX)(Qr:LN):Prop:=
opP ((zma P .lss 3 false).f (nth l 3) (nth l 2)) fun t21=>
wIf t21 (
opP (zld 3 (nth l 1) (nth l 3)) fun t23=>
opW (zpa 3 t23 H) fun t24 H3=>
zrc (zc P 149) H3 fun t5 H5=>
opW (zka 3 t5 t24 H5) fun u H7=>
opP (zfa 0 t5) fun t25=>
opW (zba t25 H7) fun t26 H10=>
opW (zhf .i32 t26 H10) fun t27 H12=>
zQb (fun J=>
opP (zfa 2 t5) fun t28=>
opW (zba t28 H12) fun t29 H16=>
opP (unA .not t29) fun t30=>
wIf t30 (
wCall P zEg [t27] H16 fun t33 H19=>
opP (zla t30 t33 (.bool false)) fun t34=>
J [(nth l 0),(nth l 3),t5,t27,t34,(nth l 1),(nth l 2),(nth l 3)] H19) (
opP (zla t30 undef (.bool false)) fun t34_1=>
J [(nth l 0),(nth l 3),t5,t27,t34_1,(nth l 1),(nth l 2),(nth l 3)] H16)) (fun l_1 H23=>
zQb (fun J_1=>
opP ((zma P .gtr 3 true).f (nth l_1 1) (.int .i64 0)) fun t36=>
wIf t36 (
opP (zfa 2 (nth l_1 2)) fun t38=>
opW (zba t38 H23) fun t39 H28=>
opP (unA .not t39) fun t40=>
opP (zla t36 t40 (.bool false)) fun t41=>
wIf t41 (
wCall P zjh [(nth l_1 3)] H28 fun t44 H32=>
wIf t44 (
opP (zla t44 (.bool true) undef) fun t49=>
opP (zla t49 (.bool true) undef) fun t54=>
opP (zla t54 (.bool true) undef) fun t59=>
opP (zla t41 t59 (.bool false)) fun t60=>
wIf t60 (
J_1 [(nth l_1 0),(.bool true),(nth l_1 5),(nth l_1 6),(nth l_1 7)] H32) (
J_1 [(nth l_1 0),(nth l_1 4),(nth l_1 5),(nth l_1 6),(nth l_1 7)] H32)) (
opP (zfa 1 (nth l_1 2)) fun t46=>
opW (zba t46 H32) fun t47 H39=>
opP ((zma P .eql 9 true).f t47 (.string ⟨#[45]⟩)) fun t48=>
opP (zla t44 (.bool true) t48) fun t49_1=>
wIf t49_1 (
opP (zla t49_1 (.bool true) undef) fun t54_1=>
opP (zla t54_1 (.bool true) undef) fun t59_1=>
opP (zla t41 t59_1 (.bool false)) fun t60_1=>
wIf t60_1 (
J_1 [(nth l_1 0),(.bool true),(nth l_1 5),(nth l_1 6),(nth l_1 7)] H39) (
J_1 [(nth l_1 0),(nth l_1 4),(nth l_1 5),(nth l_1 6),(nth l_1 7)] H39)) (
opP (zfa 1 (nth l_1 2)) fun t51=>
opW (zba t51 H39) fun t52 H47=>
opP ((zma P .eql 9 true).f t52 (.string ⟨#[95]⟩)) fun t53=>
opP (zla t49_1 (.bool true) t53) fun t54_2=>
wIf t54_2 (
opP (zla t54_2 (.bool true) undef) fun t59_2=>
opP (zla t41 t59_2 (.bool false)) fun t60_2=>
wIf t60_2 (
J_1 [(nth l_1 0),(.bool true),(nth l_1 5),(nth l_1 6),(nth l_1 7)] H47) (
J_1 [(nth l_1 0),(nth l_1 4),(nth l_1 5),(nth l_1 6),(nth l_1 7)] H47)) (
opP (zfa 1 (nth l_1 2)) fun t56=>
opW (zba t56 H47) fun t57 H54=>
opP ((zma P .eql 9 true).f t57 (.string ⟨#[46]⟩)) fun t58=>
opP (zla t54_2 (.bool true) t58) fun t59_3=>
opP (zla t41 t59_3 (.bool false)) fun t60_3=>
wIf t60_3 (
J_1 [(nth l_1 0),(.bool true),(nth l_1 5),(nth l_1 6),(nth l_1 7)] H54) (
J_1 [(nth l_1 0),(nth l_1 4),(nth l_1 5),(nth l_1 6),(nth l_1 7)] H54))))) (
opP (zla t41 undef (.bool false)) fun t60_4=>
wIf t60_4 (
J_1 [(nth l_1 0),(.bool true),(nth l_1 5),(nth l_1 6),(nth l_1 7)] H28) (
J_1 [(nth l_1 0),(nth l_1 4),(nth l_1 5),(nth l_1 6),(nth l_1 7)] H28))) (
opP (zla t36 undef (.bool false)) fun t41_1=>
opP (zla t41_1 undef (.bool false)) fun t60_5=>
wIf t60_5 (
J_1 [(nth l_1 0),(.bool true),(nth l_1 5),(nth l_1 6),(nth l_1 7)] H23) (
J_1 [(nth l_1 0),(nth l_1 4),(nth l_1 5),(nth l_1 6),(nth l_1 7)] H23))) (fun l_2 H62=>
opP (unA .not (nth l_2 1)) fun t62=>
wIf t62 (
Qr [(.int .i64 41)] H62) (
opP ((zma P .add 3 true).f (nth l_2 4) (.int .i64 1)) fun t63=>
N [(nth l_2 0),(nth l_2 2),(nth l_2 3),t63] H62)))) (
Qx 0 [(nth l 0)] H)
theorem zSm:LpI P 64 zki 4 zZl:=.mk (by kernel_rfl) fun l H N Qx Qr=>by kernel_rfl
def zbr(t0:Value)(H:Heap)(K:VH):Prop:=
wCall P zDf [t0] H fun t9 H1=>
zQb (fun J=>
opW (lenSl t9 H1) fun t11 H4=>
opP ((zma P .eql 3 true).f t11 (.int .i64 0)) fun t12=>
wIf t12 (
opP (zla t12 (.bool true) undef) fun t17=>
wIf t17 (
K (.int .i64 41) H4) (
J [(.int .i64 0),t9] H4)) (
opW (lenSl t9 H4) fun t15 H8=>
opP ((zma P .gtr 3 true).f t15 (.int .i64 24)) fun t16=>
opP (zla t12 (.bool true) t16) fun t17_1=>
wIf t17_1 (
K (.int .i64 41) H8) (
J [(.int .i64 0),t9] H8))) (fun l H12=>
opW (lenSl (nth l 1) H12) fun t19 H14=>
zdb P true 64 zki 4 [(nth l 0),(nth l 1),t19,(.int .i64 0)] H14 (fun id l_1 H16=>
cond (Nat.beq id 0) (
K (.int .i64 0) H16) (
False)) (fun l_1 H16=>
K (nth l_1 0) H16))
theorem zts{t0:Value}{H:Heap}{K:VH}(h:zbr t0 H K):wCall P zYe [t0] H K:=zha rfl (Eq.mpr (by kernel_rfl) h)
def zth(t0:Value)(H:Heap)(K:VH):Prop:=
opP (zea t0) fun t4=>
opP (zfa 0 t4) fun t5=>
opW (zba t5 H) fun t6 H3=>
opW (lenSl t6 H3) fun t7 H5=>
K t7 H5
theorem zhk{t0:Value}{H:Heap}{K:VH}(h:zth t0 H K):wCall P zKd [t0] H K:=zha rfl (Eq.mpr (by kernel_rfl) h)
noncomputable abbrev zBk:Code:=zmb P zzb 0
def zCk(l:List Value)(H:Heap)(N:LN)(Qx:LX)(Qr:LN):Prop:=
opP ((zma P .lss 3 true).f (nth l 2) (.int .i64 64)) fun t4=>
wIf t4 (
opP (zDa 64 1 (nth l 1) (nth l 2)) fun t7=>
opW (zka 1 t7 (.int .u8 255) H) fun u H3=>
opP ((zma P .add 3 true).f (nth l 2) (.int .i64 1)) fun t8=>
N [(nth l 0),(nth l 1),t8] H3) (
Qx 0 [(nth l 0),(nth l 1)] H)
theorem zam:LpI P 10 zBk 3 zCk:=.mk (by kernel_rfl) fun l H N Qx Qr=>by kernel_rfl
def zFp(H:Heap)(K:VH):Prop:=
zrc (zc P 45) H fun t0 H1=>
zrc (zc P 45) H1 fun t1 H3=>
zdb P true 10 zBk 3 [t0,t1,(.int .i64 0)] H3 (fun id l H5=>
cond (Nat.beq id 0) (
opW (zpa 64 (nth l 1) H5) fun t9 H7=>
opW (zka 64 (nth l 0) t9 H7) fun u H9=>
opW (zpa 64 (nth l 0) H9) fun r _=>
K r H9) (
False)) (fun l H5=>
opW (zpa 64 (nth l 0) H5) fun r_1 _=>
K r_1 H5)
theorem zxq{H:Heap}{K:VH}(h:zFp  H K):wCall P zzb [] H K:=zha rfl (Eq.mpr (by kernel_rfl) h)
def zIn(t0 t1:Value)(H:Heap)(K:VH):Prop:=
opP ((zma P .geq 3 true).f t1 (.int .i64 0)) fun t6=>
wIf t6 (
opP (zea t0) fun t10=>
opP (zfa 1 t10) fun t11=>
opW (zba t11 H) fun t12 H4=>
opW (lenSl t12 H4) fun t13 H6=>
opP ((zma P .lss 3 false).f t1 t13) fun t14=>
opP (zla t6 t14 (.bool false)) fun t15=>
K t15 H6) (
opP (zla t6 undef (.bool false)) fun t15_1=>
K t15_1 H)
theorem zGp{t0 t1:Value}{H:Heap}{K:VH}(h:zIn t0 t1 H K):wCall P zSe [t0,t1] H K:=zha rfl (Eq.mpr (by kernel_rfl) h)
def zuh(t0 t1:Value)(H:Heap)(K:VH):Prop:=
zQb (fun J=>
opP ((zma P .lss 3 true).f t1 (.int .i64 0)) fun t6=>
wIf t6 (
opP (zla t6 (.bool true) undef) fun t15=>
wIf t15 (
K (.pointer none) H) (
J [t0,t1] H)) (
opP (zea t0) fun t10=>
opP (zfa 0 t10) fun t11=>
opW (zba t11 H) fun t12 H6=>
opW (lenSl t12 H6) fun t13 H8=>
opP ((zma P .geq 3 false).f t1 t13) fun t14=>
opP (zla t6 (.bool true) t14) fun t15_1=>
wIf t15_1 (
K (.pointer none) H8) (
J [t0,t1] H8))) (fun l H12=>
opP (zea (nth l 0)) fun t17=>
opP (zfa 0 t17) fun t18=>
opW (zba t18 H12) fun t19 H16=>
opP (zld 129 t19 (nth l 1)) fun t21=>
K t21 H16)
theorem zik{t0 t1:Value}{H:Heap}{K:VH}(h:zuh t0 t1 H K):wCall P zLb [t0,t1] H K:=zha rfl (Eq.mpr (by kernel_rfl) h)
def zvh(t0:Value)(H:Heap)(K:VH):Prop:=
zQb (fun J=>
opP (zea t0) fun t5=>
opP (zfa 4 t5) fun t6=>
opW (zba t6 H) fun t7 H4=>
wIf t7 (
opP (zla t7 (.bool true) undef) fun t14=>
opP (zea t0) fun t15=>
opP (zfa 4 t15) fun t16=>
opW (zka 1 t16 t14 H4) fun u H9=>
J [t0] H9) (
opP (zea t0) fun t10=>
opP (zfa 3 t10) fun t11=>
opW (zba t11 H4) fun t12 H13=>
opP ((zma P .eql 3 true).f t12 (.int .i64 0)) fun t13=>
opP (zla t7 (.bool true) t13) fun t14_1=>
opP (zea t0) fun t15_1=>
opP (zfa 4 t15_1) fun t16_1=>
opW (zka 1 t16_1 t14_1 H13) fun u_1 H19=>
J [t0] H19)) (fun l H21=>
zQb (fun J_1=>
zQb (fun J_2=>
opP (zea (nth l 0)) fun t18=>
opP (zfa 4 t18) fun t19=>
opW (zba t19 H21) fun t20 H27=>
opP (unA .not t20) fun t21=>
wIf t21 (
opP (zea (nth l 0)) fun t24=>
opP (zfa 3 t24) fun t25=>
opW (zba t25 H27) fun t26 H32=>
opP ((zma P .gtr 3 true).f t26 (.int .i64 0)) fun t27=>
opP (zla t21 t27 (.bool false)) fun t28=>
J_2 [(nth l 0),t28] H32) (
opP (zla t21 undef (.bool false)) fun t28_1=>
J_2 [(nth l 0),t28_1] H27)) (fun l_1 H37=>
wIf (nth l_1 1) (
opP (zea (nth l_1 0)) fun t30=>
opP (zfa 3 t30) fun t31=>
opW (zba t31 H37) fun t32 H41=>
opP ((zma P .sub 3 true).f t32 (.int .i64 1)) fun t33=>
opP (zea (nth l_1 0)) fun t34=>
opP (zfa 3 t34) fun t35=>
opW (zka 1 t35 t33 H41) fun u_2 H46=>
J_1 [(nth l_1 0)] H46) (
J_1 [(nth l_1 0)] H37))) (fun l_2 H48=>
opP (zea (nth l_2 0)) fun t37=>
opP (zfa 4 t37) fun t38=>
opW (zba t38 H48) fun t39 H52=>
opP (unA .not t39) fun t40=>
K t40 H52))
theorem zjk{t0:Value}{H:Heap}{K:VH}(h:zvh t0 H K):wCall P zyb [t0] H K:=zha rfl (Eq.mpr (by kernel_rfl) h)
def zzi(t0 t1 t2:Value)(H:Heap)(K:VH):Prop:=
zrc (zya t2) H fun t5 H1=>
opP (zea t0) fun t7=>
opP (zfa 0 t7) fun t8=>
opW (zba t8 H1) fun t9 H5=>
opW (zpa 64 t5 H5) fun t11 H7=>
opP (zld 129 t9 t1) fun t12=>
opP (zfa 64 t12) fun t13=>
opW (zka 64 t13 t11 H7) fun u H11=>
opP (zea t0) fun t16=>
opP (zfa 1 t16) fun t17=>
opW (zba t17 H11) fun t18 H15=>
opW (zpa 64 t5 H15) fun t20 H17=>
opP ((zxa P 137).f [(0,t1),(1,t20)]) fun t21=>
opW ((zoa P 112 1).f [(0,t21)] H17) fun t22 H20=>
opW (zEa 65 72 t18 t22 H20) fun t23 H22=>
opP (zea t0) fun t24=>
opP (zfa 1 t24) fun t25=>
opW (zka 1 t25 t23 H22) fun u_1 H26=>
K (.tuple [].toArray) H26
theorem zcl{t0 t1 t2:Value}{H:Heap}{K:VH}(h:zzi t0 t1 t2 H K):wCall P zRc [t0,t1,t2] H K:=zha rfl (Eq.mpr (by kernel_rfl) h)
def zwh(t0 t1:Value)(H:Heap)(K:VH):Prop:=
zrc (zc P 45) H fun t4 H1=>
wCall P zLb [t0,t1] H1 fun t9 H3=>
opP ((zma P .eql 133 true).f t9 (.pointer none)) fun t11=>
wIf t11 (
opP ((zxa P 45).f []) fun t12=>
opW (zka 64 t4 t12 H3) fun u H7=>
opW (zpa 64 t4 H7) fun r _=>
K (.tuple [r,(.int .i64 61)].toArray) H7) (
opP (zea t9) fun t14=>
opP (zfa 64 t14) fun t15=>
opW (zpa 64 t15 H3) fun t16 H12=>
opW (zka 64 t4 t16 H12) fun u_1 H14=>
opW (zpa 64 t4 H14) fun r_1 _=>
K (.tuple [r_1,(.int .i64 0)].toArray) H14)
theorem zkk{t0 t1:Value}{H:Heap}{K:VH}(h:zwh t0 t1 H K):wCall P zLd [t0,t1] H K:=zha rfl (Eq.mpr (by kernel_rfl) h)
def zAi(t0 t1:Value)(H:Heap)(K:VH):Prop:=
opP (zea t0) fun t6=>
opP (zfa 3 t6) fun t7=>
opW (zba t7 H) fun t8 H3=>
wCall P zUb [t0,t1] H3 fun t11 H5=>
zeb (zcb H3 H5) (zJa [t7])∧(wCall P zme [t8,t11] H5 fun t12 H7=>
K t12 H7)
theorem zdl{t0 t1:Value}{H:Heap}{K:VH}(h:zAi t0 t1 H K):wCall P zSc [t0,t1] H K:=zha rfl (Eq.mpr (by kernel_rfl) h)
def zBi(t0 t1 t2:Value)(H:Heap)(K:VH):Prop:=
zrc (zc P 45) H fun t6 H1=>
wCall P zUb [t0,t1] H1 fun t11 H3=>
opP ((zma P .lss 3 true).f t11 (.int .i64 0)) fun t13=>
wIf t13 (
opP ((zxa P 45).f []) fun t14=>
opW (zka 64 t6 t14 H3) fun u H7=>
opW (zpa 64 t6 H7) fun r _=>
K (.tuple [r,(.int .i64 101)].toArray) H7) (
opP (zea t0) fun t16=>
opP (zfa 3 t16) fun t17=>
opW (zba t17 H3) fun t18 H12=>
wCall P zne [t18,t11,t2] H12 fun t21 H14=>
opP (zxg 0 t21) fun t22=>
opP (zxg 1 t21) fun t23=>
opW (zka 64 t6 t22 H14) fun u_1 H18=>
opW (zpa 64 t6 H18) fun r_1 _=>
K (.tuple [r_1,t23].toArray) H18)
theorem zel{t0 t1 t2:Value}{H:Heap}{K:VH}(h:zBi t0 t1 t2 H K):wCall P zoe [t0,t1,t2] H K:=zha rfl (Eq.mpr (by kernel_rfl) h)
def zxh(t0 t1 t2:Value)(H:Heap)(K:VH):Prop:=
zrc (zya t0) H fun t3 H1=>
zrc (zya t2) H1 fun t5 H3=>
opW (zba t3 H3) fun t7 H5=>
wCall P zSb [t7,t1,(.func (.func zcd) [].toArray [t3,t5].toArray)] H5 fun t10 H7=>
K t10 H7
theorem zlk{t0 t1 t2:Value}{H:Heap}{K:VH}(h:zxh t0 t1 t2 H K):wCall P zMd [t0,t1,t2] H K:=zha rfl (Eq.mpr (by kernel_rfl) h)
def zCi(t0 t1:Value)(H:Heap)(K:VH):Prop:=
zrc (zya t0) H fun t2 H1=>
opW (zba t2 H1) fun t5 H3=>
wCall P zSb [t5,t1,(.func (.func zod) [].toArray [t2].toArray)] H3 fun t8 H5=>
K t8 H5
theorem zfl{t0 t1:Value}{H:Heap}{K:VH}(h:zCi t0 t1 H K):wCall P zpe [t0,t1] H K:=zha rfl (Eq.mpr (by kernel_rfl) h)
def zxj(t0 t1:Value)(H:Heap)(K:VH):Prop:=
opP (zea t0) fun t6=>
opP (zfa 3 t6) fun t7=>
opW (zba t7 H) fun t8 H3=>
wCall P zUb [t0,t1] H3 fun t11 H5=>
zeb (zcb H3 H5) (zJa [t7])∧(wCall P zIb [t8,t11] H5 fun t12 H7=>
K t12 H7)
theorem zbm{t0 t1:Value}{H:Heap}{K:VH}(h:zxj t0 t1 H K):wCall P zIe [t0,t1] H K:=zha rfl (Eq.mpr (by kernel_rfl) h)
noncomputable abbrev zcm:Code:=zmb P zDg 0
def zdm(l:List Value)(H:Heap)(N:LN)(Qx:LX)(Qr:LN):Prop:=
opP ((zma P .lss 3 false).f (nth l 4) (nth l 3)) fun t10=>
wIf t10 (
opP (zld 1 (nth l 2) (nth l 4)) fun t11=>
opW (zba t11 H) fun t12 H3=>
wCall P zPa [(nth l 1),t12] H3 fun t15 H5=>
opP ((zma P .add 3 true).f (nth l 4) (.int .i64 1)) fun t16=>
N [(nth l 0),(nth l 1),(nth l 2),(nth l 3),t16] H5) (
Qx 0 [(nth l 0),(nth l 1)] H)
theorem zTm:LpI P 19 zcm 12 zdm:=.mk (by kernel_rfl) fun l H N Qx Qr=>by kernel_rfl
def zcr(t0:Value)(H:Heap)(K:VH):Prop:=
zrc (zc P 28) H fun t2 H1=>
wCall P zij [] H1 fun t6 H3=>
opW (lenSl t0 H3) fun t8 H5=>
zdb P true 19 zcm 12 [t2,t6,t0,t8,(.int .i64 0)] H5 (fun id l H7=>
cond (Nat.beq id 0) (
wCall P zjb [(nth l 1)] H7 fun t18 H9=>
opW (zka 32 (nth l 0) t18 H9) fun u H11=>
opW (zpa 32 (nth l 0) H11) fun r _=>
K r H11) (
False)) (fun l H7=>
opW (zpa 32 (nth l 0) H7) fun r_1 _=>
K r_1 H7)
theorem zus{t0:Value}{H:Heap}{K:VH}(h:zcr t0 H K):wCall P zDg [t0] H K:=zha rfl (Eq.mpr (by kernel_rfl) h)
def zZf(t0 t1 t2 t3:Value)(H:Heap)(K:VH):Prop:=
zrc (zya t0) H fun t4 H1=>
zrc (zya t2) H1 fun t6 H3=>
zrc (zya t3) H3 fun t7 H5=>
opW (zba t4 H5) fun t9 H7=>
wCall P zSb [t9,t1,(.func (.func zAc) [].toArray [t4,t6,t7].toArray)] H7 fun t12 H9=>
K t12 H9
theorem zNi{t0 t1 t2 t3:Value}{H:Heap}{K:VH}(h:zZf t0 t1 t2 t3 H K):wCall P zbd [t0,t1,t2,t3] H K:=zha rfl (Eq.mpr (by kernel_rfl) h)
def zwe(t0:Value)(H:Heap)(K:VH):Prop:=
opP (zea t0) fun t6=>
opP (zfa 2 t6) fun t7=>
opW (zba t7 H) fun t8 H3=>
opP ((zma P .eql 3 true).f t8 (.int .i64 0)) fun t9=>
wIf t9 (
K (.tuple [.nilIface,(.bool false)].toArray) H3) (
opP (zea t0) fun t12=>
opP (zfa 0 t12) fun t13=>
opW (zba t13 H3) fun t14 H8=>
opP (zea t0) fun t16=>
opP (zfa 1 t16) fun t17=>
opW (zba t17 H8) fun t18 H12=>
opP (zld 1 t14 t18) fun t19=>
opW (zba t19 H12) fun t20 H15=>
K (.tuple [t20,(.bool true)].toArray) H15)
theorem zlg{t0:Value}{H:Heap}{K:VH}(h:zwe t0 H K):wCall P zac [t0] H K:=zha rfl (Eq.mpr (by kernel_rfl) h)
def zLg(t0 t1:Value)(H:Heap)(K:VH):Prop:=
zrc (zya t1) H fun t3 H1=>
opP (zfa 1 t3) fun t6=>
opW (zpa 37 t6 H1) fun t7 H4=>
wCall P zAd [t7] H4 fun t8 H6=>
opP (unA .not t8) fun t9=>
wIf t9 (
K (.int .i64 192) H6) (
opP (zfa 1 t3) fun t11=>
opP (zfa 2 t11) fun t12=>
opW (zba t12 H6) fun t13 H11=>
opP (zea t0) fun t15=>
opP (zfa 0 t15) fun t16=>
opW (zba t16 H11) fun t17 H15=>
opP (zea t0) fun t19=>
opP (zfa 2 t19) fun t20=>
opW (zba t20 H15) fun t21 H19=>
wCall P zSc [t17,t21] H19 fun t22 H21=>
zeb (zcb H19 H21) (zJa [t12])∧(opP ((zma P .mul 3 true).f (.int .i64 64) t22) fun t23=>
opP ((zma P .gtr 3 false).f t13 t23) fun t24=>
wIf t24 (
K (.int .i64 145) H21) (
opP (zfa 1 t3) fun t27=>
opW (zpa 37 t27 H21) fun t28 H26=>
opP (zea t0) fun t29=>
opP (zfa 4 t29) fun t30=>
opW (zka 37 t30 t28 H26) fun u H30=>
opP (zea t0) fun t31=>
opP (zfa 44 t31) fun t32=>
opW (zka 1 t32 (.int .i64 1) H30) fun u_1 H34=>
K (.int .i64 0) H34)))
theorem zyj{t0 t1:Value}{H:Heap}{K:VH}(h:zLg t0 t1 H K):wCall P znd [t0,t1] H K:=zha rfl (Eq.mpr (by kernel_rfl) h)
def zyh(t0 t1:Value)(H:Heap)(K:VH):Prop:=
zrc (zya t1) H fun t3 H1=>
opP (zea t0) fun t9=>
opP (zfa 4 t9) fun t10=>
opW (zpa 37 t10 H1) fun t11 H5=>
opP (zfa 0 t3) fun t12=>
opW (zba t12 H5) fun t13 H8=>
wCall P zOf [t11,t13] H8 fun t14 H10=>
opP (zxg 0 t14) fun t15=>
opP (zxg 1 t14) fun t16=>
zQb (fun J=>
opP (zfa 0 t3) fun t17=>
opW (zba t17 H10) fun t18 H16=>
opP (zea t0) fun t20=>
opP (zfa 41 t20) fun t21=>
opW (zba t21 H16) fun t22 H20=>
opP ((zma P .neq 3 false).f t18 t22) fun t23=>
wIf t23 (
opP (zla t23 (.bool true) undef) fun t27=>
opP (zla t27 (.bool true) undef) fun t34=>
wIf t34 (
K (.int .i64 192) H20) (
J [t0,t3] H20)) (
opP ((zma P .eql 3 true).f t16 (.int .i64 0)) fun t26=>
opP (zla t23 (.bool true) t26) fun t27_1=>
wIf t27_1 (
opP (zla t27_1 (.bool true) undef) fun t34_1=>
wIf t34_1 (
K (.int .i64 192) H20) (
J [t0,t3] H20)) (
opP (zfa 1 t3) fun t29=>
opW (zba t29 H20) fun t30 H29=>
opW (lenSl t30 H29) fun t31 H31=>
opP ((zma P .neq 3 false).f t31 t16) fun t33=>
opP (zla t27_1 (.bool true) t33) fun t34_2=>
wIf t34_2 (
K (.int .i64 192) H31) (
J [t0,t3] H31)))) (fun l H35=>
opP (zfa 1 (nth l 1)) fun t36=>
opW (zba t36 H35) fun t37 H38=>
wCall P zqe [t37] H38 fun t38 H40=>
opP (zea (nth l 0)) fun t39=>
opP (zfa 42 t39) fun t40=>
opW (zka 1 t40 t38 H40) fun u H44=>
opP (zea (nth l 0)) fun t42=>
opP (zfa 41 t42) fun t43=>
opW (zba t43 H44) fun t44 H48=>
opP ((zma P .add 3 true).f t44 (.int .i64 1)) fun t45=>
opP (zea (nth l 0)) fun t46=>
opP (zfa 41 t46) fun t47=>
opW (zka 1 t47 t45 H48) fun u_1 H53=>
K (.int .i64 0) H53)
theorem zmk{t0 t1:Value}{H:Heap}{K:VH}(h:zyh t0 t1 H K):wCall P zNd [t0,t1] H K:=zha rfl (Eq.mpr (by kernel_rfl) h)
noncomputable abbrev zDk:Code:=zmb P zDf 0
def zEk(l:List Value)(H:Heap)(N:LN)(Qx:LX)(Qr:LN):Prop:=
opP ((zma P .neq 9 true).f (nth l 0) (.string ⟨#[]⟩)) fun t7=>
wIf t7 (
wCall P zZh [(nth l 0)] H fun t9 H2=>
zrc (zc P 149) H2 fun t4 H4=>
opW (zka 3 t4 t9 H4) fun u H6=>
opW (zpa 3 t4 H6) fun t11 H8=>
opW ((zoa P 146 1).f [(0,t11)] H8) fun t12 H10=>
opW (zEa 3 32 (nth l 2) t12 H10) fun t13 H12=>
opP (zfa 1 t4) fun t15=>
opW (zba t15 H12) fun t16 H15=>
opW (ztt t16 H15) fun t17 H17=>
opP (zqg (nth l 0) (some t17) none none) fun t18=>
N [t18,(nth l 1),t13] H17) (
Qx 0 [(nth l 1),(nth l 2)] H)
theorem zem:LpI P 20 zDk 12 zEk:=.mk (by kernel_rfl) fun l H N Qx Qr=>by kernel_rfl
def zHp(t0:Value)(H:Heap)(K:VH):Prop:=
opW ((zoa P 146 0).f [] H) fun t5 H1=>
zdb P true 20 zDk 12 [t0,(.slice none 0 0),t5] H1 (fun id l H3=>
cond (Nat.beq id 0) (
K (nth l 1) H3) (
False)) (fun l H3=>
K (nth l 0) H3)
theorem zyq{t0:Value}{H:Heap}{K:VH}(h:zHp t0 H K):wCall P zDf [t0] H K:=zha rfl (Eq.mpr (by kernel_rfl) h)
def zDi(t0 t1:Value)(H:Heap)(K:VH):Prop:=
zQb (fun J=>
opP ((zma P .lss 3 true).f t1 (.int .i64 0)) fun t6=>
wIf t6 (
opP (zla t6 (.bool true) undef) fun t10=>
wIf t10 (
K (.int .i64 (-1)) H) (
J [t0,t1] H)) (
opP ((zma P .geq 3 true).f t1 (.int .i64 2)) fun t9=>
opP (zla t6 (.bool true) t9) fun t10_1=>
wIf t10_1 (
K (.int .i64 (-1)) H) (
J [t0,t1] H))) (fun l H6=>
opP (zea (nth l 0)) fun t13=>
opP (zfa 4 t13) fun t14=>
opP (zDa 2 1 t14 (nth l 1)) fun t15=>
opW (zba t15 H6) fun t16 H11=>
K t16 H11)
theorem zgl{t0 t1:Value}{H:Heap}{K:VH}(h:zDi t0 t1 H K):wCall P zUb [t0,t1] H K:=zha rfl (Eq.mpr (by kernel_rfl) h)
def zVg(t0 t1 t2:Value)(H:Heap)(K:VH):Prop:=
wCall P zzc [t0,t1] H fun t10 H1=>
opP (unA .not t10) fun t11=>
wIf t11 (
K (.int .i64 161) H1) (
opP (zea t0) fun t13=>
opP (zfa 3 t13) fun t14=>
opW (zba t14 H1) fun t15 H6=>
opP (zea t0) fun t17=>
opP (zfa 0 t17) fun t18=>
opP (zfa 0 t18) fun t19=>
opW (zba t19 H6) fun t20 H11=>
wCall P zEf [t15,t20] H11 fun t21 H13=>
opP (zea t0) fun t23=>
opP (zfa 3 t23) fun t24=>
opW (zba t24 H13) fun t25 H17=>
opP (zea t0) fun t30=>
opP (zfa 0 t30) fun t31=>
opP (zfa 1 t31) fun t32=>
opW (zba t32 H17) fun t33 H22=>
opP (zea t0) fun t34=>
opP (zfa 4 t34) fun t35=>
opP (zDa 2 1 t35 t33) fun t36=>
opW (zba t36 H22) fun t37 H27=>
zmE P (zIf t2 [t37]) H27 fun t38 H29=>
wCall P zEf [t25,t21] H29 fun u H31=>
K t38 H31)
theorem zUm(t0 t1 t2:Value)(H:Heap)(K:VH):vcB P Seal.asS zSb [t0,t1,t2] H K=zVg t0 t1 t2 H K:=by kernel_rfl
theorem zVm{t0 t1 t2:Value}{H:Heap}{K:VH}(h:zVg t0 t1 t2 H K):wCall P zSb [t0,t1,t2] H K:=ztn rfl ((zUm t0 t1 t2 H K).mpr h)
def zag(t0 t1 t2:Value)(H:Heap)(K:VH):Prop:=
opW (zba t1 H) fun t5 H1=>
opP (zea t5) fun t6=>
opP (zfa 3 t6) fun t7=>
opW (zba t7 H1) fun t8 H5=>
opW (zba t2 H5) fun t10 H7=>
wCall P zif [t8,t0,t10] H7 fun t11 H9=>
K t11 H9
theorem zOi{t0 t1 t2:Value}{H:Heap}{K:VH}(h:zag t0 t1 t2 H K):wCall P zcd [t0,t1,t2] H K:=zha rfl (Eq.mpr (by kernel_rfl) h)
def zFk(t0 t1 t2:Value)(H:Heap)(K:VH):Prop:=
wCall P zFc [t0,t1,t2] H fun t13 H1=>
opP (zxg 0 t13) fun t14=>
opP (zxg 1 t13) fun t15=>
opP ((zma P .neq 36 true).f t15 (.int .i64 0)) fun t17=>
wIf t17 (
K t15 H1) (
opP ((zxa P 79).f [(0,(.int .i64 1)),(1,t1),(2,t2)]) fun t22=>
opP (zea t0) fun t24=>
opP (zfa 0 t24) fun t25=>
opW (zba t25 H1) fun t26 H9=>
wCall P zpd [t26,t14] H9 fun t28 H11=>
wCall P zle [t0,t22,t28] H11 fun t29 H13=>
K t29 H13)
theorem zWm{t0 t1 t2:Value}{H:Heap}{K:VH}(h:zFk t0 t1 t2 H K):wCall P zif [t0,t1,t2] H K:=zha rfl (Eq.mpr (by kernel_rfl) h)
def zMg(t0 t1:Value)(H:Heap)(K:VH):Prop:=
opW (zba t1 H) fun t4 H1=>
opP (zea t4) fun t5=>
opP (zfa 3 t5) fun t6=>
opW (zba t6 H1) fun t7 H5=>
wCall P zad [t7] H5 fun t8 H7=>
K t8 H7
theorem zzj{t0 t1:Value}{H:Heap}{K:VH}(h:zMg t0 t1 H K):wCall P zod [t0,t1] H K:=zha rfl (Eq.mpr (by kernel_rfl) h)
def zdr(H:Heap)(K:VH):Prop:=
wCall P zTg [] H fun t1 H1=>
opP ((zxa P 169).f [(0,t1)]) fun t2=>
zrc (zya t2) H1 fun t3 H4=>
K t3 H4
theorem zvs{H:Heap}{K:VH}(h:zdr  H K):wCall P zij [] H K:=zha rfl (Eq.mpr (by kernel_rfl) h)
noncomputable abbrev zye:Code:=zmb P zPa 0
def zze(l:List Value)(H:Heap)(N:LN)(Qx:LX)(Qr:LN):Prop:=
opP (zea (nth l 0)) fun t24=>
opP (zfa 8 t24) fun t25=>
opW (zba t25 H) fun t26 H3=>
opW (lenSl t26 H3) fun t27 H5=>
opP ((zma P .geq 3 true).f t27 (.int .i64 64)) fun t28=>
wIf t28 (
opP (zea (nth l 0)) fun t31=>
opP (zfa 0 t31) fun t32=>
opW (zpa 8 t32 H5) fun t33 H10=>
opP (zea (nth l 0)) fun t35=>
opP (zfa 8 t35) fun t36=>
opW (zba t36 H10) fun t37 H14=>
opP (zWa 1 t37 none (some (.int .i64 64)) none) fun t38=>
wCall P zVb [t33,t38] H14 fun t39 H17=>
opP (zea (nth l 0)) fun t40=>
opP (zfa 0 t40) fun t41=>
opW (zka 8 t41 t39 H17) fun u H21=>
opP (zea (nth l 0)) fun t44=>
opP (zfa 8 t44) fun t45=>
opW (zba t45 H21) fun t46 H25=>
opP (zWa 1 t46 (some (.int .i64 64)) none none) fun t47=>
opP (zea (nth l 0)) fun t48=>
opP (zfa 8 t48) fun t49=>
opW (zka 1 t49 t47 H25) fun u_1 H30=>
N [(nth l 0)] H30) (
Qx 0 [] H5)
theorem zmg:LpI P 50 zye 0 zze:=.mk (by kernel_rfl) fun l H N Qx Qr=>by kernel_rfl
def zbg(t0 t1:Value)(H:Heap)(K:VH):Prop:=
opP (zea t0) fun t5=>
opP (zfa 9 t5) fun t6=>
opW (zba t6 H) fun t7 H3=>
opW (lenSl t1 H3) fun t9 H5=>
opW (zhf .u64 t9 H5) fun t10 H7=>
opP ((zma P .add 26 false).f t7 t10) fun t11=>
opP (zea t0) fun t12=>
opP (zfa 9 t12) fun t13=>
opW (zka 1 t13 t11 H7) fun u H12=>
opP (zea t0) fun t16=>
opP (zfa 8 t16) fun t17=>
opW (zba t17 H12) fun t18 H16=>
opW (zEa 1 1 t18 t1 H16) fun t20 H18=>
opP (zea t0) fun t21=>
opP (zfa 8 t21) fun t22=>
opW (zka 1 t22 t20 H18) fun u_1 H22=>
zdb P true 50 zye 0 [t0] H22 (fun id l H24=>
cond (Nat.beq id 0) (
K (.tuple [].toArray) H24) (
False)) (fun l H24=>
K (.tuple [].toArray) H24)
theorem zPi{t0 t1:Value}{H:Heap}{K:VH}(h:zbg t0 t1 H K):wCall P zPa [t0,t1] H K:=zha rfl (Eq.mpr (by kernel_rfl) h)
noncomputable abbrev zrd:Code:=zmb P zjb 0
noncomputable abbrev zsd:Code:=zmb P zjb 1
noncomputable abbrev ztd:Code:=zmb P zjb 2
noncomputable abbrev zud:Code:=zmb P zjb 3
def ztf(l:List Value)(H:Heap)(N:LN)(Qx:LX)(Qr:LN):Prop:=
opP (zea (nth l 1)) fun t21=>
opP (zfa 8 t21) fun t22=>
opW (zba t22 H) fun t23 H3=>
opW (lenSl t23 H3) fun t24 H5=>
opP ((zma P .neq 3 true).f t24 (.int .i64 56)) fun t25=>
wIf t25 (
opW ((zoa P 22 1).f [(0,(.int .u8 0))] H5) fun t27 H8=>
wCall P zPa [(nth l 1),t27] H8 fun t28 H10=>
N [(nth l 0),(nth l 1),(nth l 2)] H10) (
Qx 0 [(nth l 0),(nth l 1),(nth l 2)] H5)
theorem zzh:LpI P 67 zrd 28 ztf:=.mk (by kernel_rfl) fun l H N Qx Qr=>by kernel_rfl
def zuf(l:List Value)(H:Heap)(N:LN)(Qx:LX)(Qr:LN):Prop:=
opP ((zma P .lss 3 true).f (nth l 3) (.int .i64 8)) fun t30=>
wIf t30 (
opP ((zma P .mul 3 true).f (.int .i64 8) (nth l 3)) fun t35=>
opP ((zma P .sub 3 true).f (.int .i64 56) t35) fun t36=>
opP ((zma P .shr 26 false).f (nth l 2) t36) fun t37=>
opW (zhf .u8 t37 H) fun t38 H5=>
opW ((zoa P 22 1).f [(0,t38)] H5) fun t39 H7=>
wCall P zPa [(nth l 1),t39] H7 fun t40 H9=>
opP ((zma P .add 3 true).f (nth l 3) (.int .i64 1)) fun t41=>
N [(nth l 0),(nth l 1),(nth l 2),t41] H9) (
Qx 2 [(nth l 0),(nth l 1)] H)
theorem zAh:LpI P 67 zsd 12 zuf:=.mk (by kernel_rfl) fun l H N Qx Qr=>by kernel_rfl
def zvf(l:List Value)(H:Heap)(N:LN)(Qx:LX)(Qr:LN):Prop:=
opP ((zma P .lss 3 true).f (nth l 3) (.int .i64 8)) fun t47=>
wIf t47 (
opP (zpi 8 1 (zul P 161).f (nth l 2) (nth l 3)) fun t49=>
zdb P true 67 zud 105553116266564 [(nth l 0),(nth l 1),(nth l 3),t49,(nth l 2),(nth l 3),(.int .i64 0)] H (fun id l_1 H3=>
cond (Nat.beq id 6) (
opP ((zma P .add 3 true).f (nth l_1 3) (.int .i64 1)) fun t65=>
N [(nth l_1 0),(nth l_1 1),(nth l_1 2),t65] H3) (
cond (Nat.beq id 5) (
opP ((zma P .add 3 true).f (nth l_1 3) (.int .i64 1)) fun t65_1=>
N [(nth l_1 0),(nth l_1 1),(nth l_1 2),t65_1] H3) (
Qx id [(nth l_1 0),(nth l_1 1)] H3))) (fun l_1 H3=>
Qr [(nth l_1 0),(nth l_1 1)] H3)) (
Qx 4 [(nth l 0),(nth l 1)] H)
theorem zBh:LpI P 67 ztd 68 zvf:=.mk (by kernel_rfl) fun l H N Qx Qr=>by kernel_rfl
def zwf(l:List Value)(H:Heap)(N:LN)(Qx:LX)(Qr:LN):Prop:=
opP ((zma P .lss 3 true).f (nth l 6) (.int .i64 4)) fun t51=>
wIf t51 (
opP ((zma P .mul 3 true).f (.int .i64 4) (nth l 2)) fun t54=>
opP ((zma P .add 3 false).f t54 (nth l 6)) fun t56=>
opP ((zma P .mul 3 true).f (.int .i64 8) (nth l 6)) fun t59=>
opP ((zma P .sub 3 true).f (.int .i64 24) t59) fun t60=>
opP ((zma P .shr 161 false).f (nth l 3) t60) fun t61=>
opW (zhf .u8 t61 H) fun t62 H7=>
opP (zDa 32 1 (nth l 1) t56) fun t63=>
opW (zka 1 t63 t62 H7) fun u H10=>
opP ((zma P .add 3 true).f (nth l 6) (.int .i64 1)) fun t64=>
N [(nth l 0),(nth l 1),(nth l 2),(nth l 3),(nth l 4),(nth l 5),t64] H10) (
Qx 6 [(nth l 0),(nth l 1),(nth l 4),(nth l 5)] H)
theorem zCh:LpI P 67 zud 105553116266564 zwf:=.mk (by kernel_rfl) fun l H N Qx Qr=>by kernel_rfl
def zDh(t0:Value)(H:Heap)(K:VH):Prop:=
zrc (zc P 28) H fun t2 H1=>
wCall P zqd [t0] H1 fun t11 H3=>
opP (zea t11) fun t13=>
opP (zfa 9 t13) fun t14=>
opW (zba t14 H3) fun t15 H7=>
opP ((zma P .mul 26 true).f t15 (.int .u64 8)) fun t16=>
opW ((zoa P 22 1).f [(0,(.int .u8 128))] H7) fun t18 H10=>
wCall P zPa [t11,t18] H10 fun t19 H12=>
zdb P true 67 zrd 28 [t2,t11,t16] H12 (fun id l H14=>
cond (Nat.beq id 0) (
zdb P true 67 zsd 12 [(nth l 0),(nth l 1),(nth l 2),(.int .i64 0)] H14 (fun id l_1 H16=>
cond (Nat.beq id 2) (
zrc (zc P 28) H16 fun t6 H18=>
opP (zea (nth l_1 1)) fun t43=>
opP (zfa 0 t43) fun t44=>
opW (zpa 8 t44 H18) fun t45 H22=>
zdb P true 67 ztd 68 [(nth l_1 0),t6,t45,(.int .i64 0)] H22 (fun id l_2 H24=>
cond (Nat.beq id 4) (
opW (zpa 32 (nth l_2 1) H24) fun t66 H26=>
opW (zka 32 (nth l_2 0) t66 H26) fun u H28=>
opW (zpa 32 (nth l_2 0) H28) fun r _=>
K r H28) (
False)) (fun l_2 H24=>
opW (zpa 32 (nth l_2 0) H24) fun r_1 _=>
K r_1 H24)) (
False)) (fun l_1 H16=>
opW (zpa 32 (nth l_1 0) H16) fun r_2 _=>
K r_2 H16)) (
False)) (fun l H14=>
opW (zpa 32 (nth l 0) H14) fun r_3 _=>
K r_3 H14)
theorem znk{t0:Value}{H:Heap}{K:VH}(h:zDh t0 H K):wCall P zjb [t0] H K:=zha rfl (Eq.mpr (by kernel_rfl) h)
def zZe(t0 t1 t2 t3:Value)(H:Heap)(K:VH):Prop:=
opW (zba t1 H) fun t6 H1=>
opP (zea t6) fun t7=>
opP (zfa 3 t7) fun t8=>
opW (zba t8 H1) fun t9 H5=>
opW (zba t2 H5) fun t11 H7=>
opW (zpa 64 t3 H7) fun t12 H9=>
wCall P zDb [t9,t0,t11,t12] H9 fun t13 H11=>
K t13 H11
theorem zEh{t0 t1 t2 t3:Value}{H:Heap}{K:VH}(h:zZe t0 t1 t2 t3 H K):wCall P zAc [t0,t1,t2,t3] H K:=zha rfl (Eq.mpr (by kernel_rfl) h)
def zGk(t0:Value)(H:Heap)(K:VH):Prop:=
zrc (zya t0) H fun t1 H1=>
zQb (fun J=>
zQb (fun J_1=>
opP (zfa 0 t1) fun t4=>
opW (zba t4 H1) fun t5 H6=>
wCall P zjj [t5] H6 fun t6 H8=>
opP ((zma P .neq 36 true).f t6 (.int .i64 0)) fun t7=>
wIf t7 (
J_1 [t1,t7] H8) (
opP (zfa 1 t1) fun t8=>
opW (zba t8 H8) fun t9 H12=>
opP ((zma P .lss 26 true).f t9 (.int .u64 1)) fun t10=>
wIf t10 (
J_1 [t1,t10] H12) (
opP (zfa 1 t1) fun t11=>
opW (zba t11 H12) fun t12 H16=>
opP ((zma P .gtr 26 true).f t12 (.int .u64 281474976710656)) fun t13=>
J_1 [t1,t13] H16))) (fun l H19=>
wIf (nth l 1) (
K (.bool false) H19) (
zQb (fun J_2=>
opP (zfa 2 (nth l 0)) fun t15=>
opW (zba t15 H19) fun t16 H23=>
opP ((zma P .lss 3 true).f t16 (.int .i64 1)) fun t17=>
wIf t17 (
opP (zla t17 (.bool true) undef) fun t22=>
J_2 [(nth l 0),t22] H23) (
opP (zfa 2 (nth l 0)) fun t19=>
opW (zba t19 H23) fun t20 H28=>
opP ((zma P .gtr 3 true).f t20 (.int .i64 65536)) fun t21=>
opP (zla t17 (.bool true) t21) fun t22_1=>
J_2 [(nth l 0),t22_1] H28)) (fun l_1 H32=>
wIf (nth l_1 1) (
K (.bool false) H32) (
opP (zfa 3 (nth l_1 0)) fun t24=>
opW (zba t24 H32) fun t25 H35=>
opP ((zma P .lss 3 true).f t25 (.int .i64 64)) fun t26=>
wIf t26 (
opP (zla t26 (.bool true) undef) fun t31=>
opP (zla t31 (.bool true) undef) fun t37=>
wIf t37 (
K (.bool false) H35) (
J [(nth l_1 0)] H35)) (
opP (zfa 3 (nth l_1 0)) fun t28=>
opW (zba t28 H35) fun t29 H41=>
opP ((zma P .gtr 3 true).f t29 (.int .i64 1024)) fun t30=>
opP (zla t26 (.bool true) t30) fun t31_1=>
wIf t31_1 (
opP (zla t31_1 (.bool true) undef) fun t37_1=>
wIf t37_1 (
K (.bool false) H41) (
J [(nth l_1 0)] H41)) (
opP (zfa 3 (nth l_1 0)) fun t33=>
opW (zba t33 H41) fun t34 H47=>
opP ((zma P .rem 3 true).f t34 (.int .i64 64)) fun t35=>
opP ((zma P .neq 3 true).f t35 (.int .i64 0)) fun t36=>
opP (zla t31_1 (.bool true) t36) fun t37_2=>
wIf t37_2 (
K (.bool false) H47) (
J [(nth l_1 0)] H47)))))))) (fun l_2 H52=>
opP (zfa 36 (nth l_2 0)) fun t38=>
opW (zba t38 H52) fun t39 H55=>
opW (lenSl t39 H55) fun t40 H57=>
opP (zfa 2 (nth l_2 0)) fun t41=>
opW (zba t41 H57) fun t42 H60=>
opP (zfa 3 (nth l_2 0)) fun t43=>
opW (zba t43 H60) fun t44 H63=>
wCall P zjf [t42,t44] H63 fun t45 H65=>
zeb (zcb H63 H65) (zJa [t38])∧(opP ((zma P .eql 3 false).f t40 t45) fun t46=>
wIf t46 (
opP (zfa 36 (nth l_2 0)) fun t48=>
opW (zba t48 H65) fun t49 H69=>
opW (lenSl t49 H69) fun t50 H71=>
opP ((zma P .leq 3 true).f t50 (.int .i64 64)) fun t51=>
opP (zla t46 t51 (.bool false)) fun t52=>
K t52 H71) (
opP (zla t46 undef (.bool false)) fun t52_1=>
K t52_1 H65)))
theorem zXm{t0:Value}{H:Heap}{K:VH}(h:zGk t0 H K):wCall P zAd [t0] H K:=zha rfl (Eq.mpr (by kernel_rfl) h)
def zfm(t0 t1:Value)(H:Heap)(K:VH):Prop:=
zrc (zya t0) H fun t2 H1=>
zQb (fun J=>
opW (zpa 37 t2 H1) fun t7 H4=>
wCall P zAd [t7] H4 fun t8 H6=>
opP (unA .not t8) fun t9=>
wIf t9 (
opP (zla t9 (.bool true) undef) fun t13=>
opP (zla t13 (.bool true) undef) fun t20=>
J [t1,t2,t20] H6) (
opP ((zma P .lss 3 true).f t1 (.int .i64 0)) fun t12=>
opP (zla t9 (.bool true) t12) fun t13_1=>
wIf t13_1 (
opP (zla t13_1 (.bool true) undef) fun t20_1=>
J [t1,t2,t20_1] H6) (
opP (zfa 36 t2) fun t16=>
opW (zba t16 H6) fun t17 H15=>
opW (lenSl t17 H15) fun t18 H17=>
opP ((zma P .geq 3 false).f t1 t18) fun t19=>
opP (zla t13_1 (.bool true) t19) fun t20_2=>
J [t1,t2,t20_2] H17))) (fun l H21=>
wIf (nth l 2) (
K (.tuple [(.int .i64 0),(.int .i64 0)].toArray) H21) (
opP (zfa 3 (nth l 1)) fun t22=>
opW (zba t22 H21) fun t23 H24=>
opP ((zma P .mul 3 false).f (nth l 0) t23) fun t24=>
opP (zfa 3 (nth l 1)) fun t26=>
opW (zba t26 H24) fun t27 H28=>
opP (zfa 2 (nth l 1)) fun t28=>
opW (zba t28 H28) fun t29 H31=>
opP ((zma P .sub 3 false).f t29 t24) fun t31=>
opW (zIc H31 (zaC [t27,t31])) fun t32 H34=>
K (.tuple [t24,t32].toArray) H34))
theorem zdo{t0 t1:Value}{H:Heap}{K:VH}(h:zfm t0 t1 H K):wCall P zOf [t0,t1] H K:=zha rfl (Eq.mpr (by kernel_rfl) h)
noncomputable abbrev zJb:List Tmp × Code × Code:=rangeAt P zqe 0
def zEi(vals args:List Value)(l:Nat)(H:Heap)(K:VH):Prop:=
zGw l H fun H0=>
wCall P zzb [] H0 fun t9 H2=>
zrc (zc P 45) H2 fun t5 H4=>
opW (zka 64 t5 t9 H4) fun u H6=>
opP (zhd 64 1 t5 none none none H6) fun t10=>
opW (zTi 1 t10 (nth args 0) H6) fun t12 H9=>
opW (zba (nth vals 0) H9) fun t13 H11=>
opW (zpa 64 t5 H11) fun t14 H13=>
opW ((zoa P 105 1).f [(0,t14)] H13) fun t15 H15=>
opW (zEa 64 64 t13 t15 H15) fun t16 H17=>
opW (zka 1 (nth vals 0) t16 H17) fun u_1 H19=>
zaH l .normal H19 K
theorem zhl(vals args:List Value)(l:Nat)(H:Heap)(K:VH):znv P 18 zJb.1 zJb.2.1 zJb.2.2 vals args l H K=zEi vals args l H K:=by kernel_rfl
def zgm(t0:Value)(H:Heap)(K:VH):Prop:=
zrc (zc P 105) H fun t3 H1=>
wCall P zZd [t0,(.int .i64 64)] H1 fun t7 H3=>
zFw P 18 zJb.1 zJb.2.1 zJb.2.2 [t3,undef] t7 H3 (fun H4=>
opW (zba t3 H4) fun t17 H6=>
K t17 H6) (fun id H4=>
cond (Nat.beq id 0) (
opW (zba t3 H4) fun t17_1 H8=>
K t17_1 H8) (
False)) (fun H4=>
K (.slice none 0 0) H4)
theorem zeo{t0:Value}{H:Heap}{K:VH}(h:zgm t0 H K):wCall P zqe [t0] H K:=zha rfl (Eq.mpr (by kernel_rfl) h)
noncomputable abbrev zAj:Code:=zmb P zZh 0
def zJn(l:List Value)(H:Heap)(N:LN)(Qx:LX)(Qr:LN):Prop:=
opP ((zma P .lss 3 false).f (nth l 6) (nth l 3)) fun t58=>
wIf t58 (
opP (zUs (nth l 0) (nth l 6)) fun t63=>
opW (zhf .i64 t63 H) fun t64 H3=>
zQb (fun J=>
opP ((zma P .lss 3 true).f t64 (.int .i64 128)) fun t66=>
wIf t66 (
opP (zla t66 (.bool true) undef) fun t70=>
J [(nth l 0),(nth l 1),(nth l 2),(nth l 3),(nth l 4),(nth l 5),(nth l 6),t64,t70] H3) (
opP ((zma P .gtr 3 true).f t64 (.int .i64 191)) fun t69=>
opP (zla t66 (.bool true) t69) fun t70_1=>
J [(nth l 0),(nth l 1),(nth l 2),(nth l 3),(nth l 4),(nth l 5),(nth l 6),t64,t70_1] H3)) (fun l_1 H10=>
wIf (nth l_1 8) (
opW (zpa 3 (nth l_1 2) H10) fun t71 H12=>
opW (zka 3 (nth l_1 1) t71 H12) fun u H14=>
Qr [(nth l_1 0),(nth l_1 1),(nth l_1 2),(nth l_1 3),(nth l_1 4),(nth l_1 5)] H14) (
opP ((zma P .mul 3 true).f (.int .i64 64) (nth l_1 4)) fun t73=>
opP ((zma P .add 3 false).f t73 (nth l_1 7)) fun t75=>
opP ((zma P .sub 3 true).f t75 (.int .i64 128)) fun t76=>
opP ((zma P .add 3 true).f (nth l_1 6) (.int .i64 1)) fun t60=>
N [(nth l_1 0),(nth l_1 1),(nth l_1 2),(nth l_1 3),t76,(nth l_1 5),t60] H10))) (
Qx 1 [(nth l 0),(nth l 1),(nth l 2),(nth l 3),(nth l 4),(nth l 5)] H)
theorem zfo:LpI P 98 zAj 245 zJn:=.mk (by kernel_rfl) fun l H N Qx Qr=>by kernel_rfl
def zVt(t0:Value)(H:Heap)(K:VH):Prop:=
zrc (zc P 149) H fun t2 H1=>
opP (zUs t0 (.int .i64 0)) fun t11=>
opW (zhf .i64 t11 H1) fun t12 H4=>
opP (zqg t0 none (some (.int .i64 1)) none) fun t15=>
opP ((zxa P 149).f [(0,t12),(1,t15),(2,(.bool true))]) fun t16=>
zrc (zc P 149) H4 fun t4 H8=>
opW (zka 3 t4 t16 H8) fun u H10=>
opP ((zma P .lss 3 true).f t12 (.int .i64 128)) fun t18=>
wIf t18 (
opP (zqg t0 none (some (.int .i64 1)) none) fun t21=>
opP ((zxa P 149).f [(0,t12),(1,t21),(2,(.bool false))]) fun t22=>
opW (zka 3 t2 t22 H10) fun u_1 H15=>
opW (zpa 3 t2 H15) fun r _=>
K r H15) (
zQb (fun J=>
zQb (fun J_1=>
opP ((zma P .geq 3 true).f t12 (.int .i64 194)) fun t26=>
wIf t26 (
opP ((zma P .lss 3 true).f t12 (.int .i64 224)) fun t29=>
opP (zla t26 t29 (.bool false)) fun t30=>
J_1 [t0,t2,t12,t4,(.int .i64 0),(.int .i64 0),(.int .i64 0),t30] H10) (
opP (zla t26 undef (.bool false)) fun t30_1=>
J_1 [t0,t2,t12,t4,(.int .i64 0),(.int .i64 0),(.int .i64 0),t30_1] H10)) (fun l H24=>
wIf (nth l 7) (
opP ((zma P .sub 3 true).f (nth l 2) (.int .i64 192)) fun t32=>
J [(nth l 0),(nth l 1),(nth l 3),(.int .i64 2),t32,(.int .i64 128)] H24) (
zQb (fun J_2=>
opP ((zma P .geq 3 true).f (nth l 2) (.int .i64 224)) fun t35=>
wIf t35 (
opP ((zma P .lss 3 true).f (nth l 2) (.int .i64 240)) fun t38=>
opP (zla t35 t38 (.bool false)) fun t39=>
J_2 [(nth l 0),(nth l 1),(nth l 2),(nth l 3),(nth l 4),(nth l 5),(nth l 6),t39] H24) (
opP (zla t35 undef (.bool false)) fun t39_1=>
J_2 [(nth l 0),(nth l 1),(nth l 2),(nth l 3),(nth l 4),(nth l 5),(nth l 6),t39_1] H24)) (fun l_1 H32=>
wIf (nth l_1 7) (
opP ((zma P .sub 3 true).f (nth l_1 2) (.int .i64 224)) fun t41=>
J [(nth l_1 0),(nth l_1 1),(nth l_1 3),(.int .i64 3),t41,(.int .i64 2048)] H32) (
zQb (fun J_3=>
opP ((zma P .geq 3 true).f (nth l_1 2) (.int .i64 240)) fun t44=>
wIf t44 (
opP ((zma P .lss 3 true).f (nth l_1 2) (.int .i64 245)) fun t47=>
opP (zla t44 t47 (.bool false)) fun t48=>
J_3 [(nth l_1 0),(nth l_1 1),(nth l_1 2),(nth l_1 3),(nth l_1 4),(nth l_1 5),(nth l_1 6),t48] H32) (
opP (zla t44 undef (.bool false)) fun t48_1=>
J_3 [(nth l_1 0),(nth l_1 1),(nth l_1 2),(nth l_1 3),(nth l_1 4),(nth l_1 5),(nth l_1 6),t48_1] H32)) (fun l_2 H40=>
wIf (nth l_2 7) (
opP ((zma P .sub 3 true).f (nth l_2 2) (.int .i64 240)) fun t50=>
J [(nth l_2 0),(nth l_2 1),(nth l_2 3),(.int .i64 4),t50,(.int .i64 65536)] H40) (
opW (zpa 3 (nth l_2 3) H40) fun t23 H43=>
opW (zka 3 (nth l_2 1) t23 H43) fun u_2 H45=>
opW (zpa 3 (nth l_2 1) H45) fun r_1 _=>
K r_1 H45))))))) (fun l_3 H48=>
opW (ztt (nth l_3 0) H48) fun t52 H50=>
opP ((zma P .lss 3 false).f t52 (nth l_3 3)) fun t54=>
wIf t54 (
opW (zpa 3 (nth l_3 2) H50) fun t55 H53=>
opW (zka 3 (nth l_3 1) t55 H53) fun u_3 H55=>
opW (zpa 3 (nth l_3 1) H55) fun r_2 _=>
K r_2 H55) (
zdb P true 98 zAj 245 [(nth l_3 0),(nth l_3 1),(nth l_3 2),(nth l_3 3),(nth l_3 4),(nth l_3 5),(.int .i64 1)] H50 (fun id l_4 H58=>
cond (Nat.beq id 1) (
zQb (fun J_4=>
opP ((zma P .lss 3 false).f (nth l_4 4) (nth l_4 5)) fun t79=>
wIf t79 (
opP (zla t79 (.bool true) undef) fun t83=>
opP (zla t83 (.bool true) undef) fun t91=>
J_4 [(nth l_4 0),(nth l_4 1),(nth l_4 2),(nth l_4 3),(nth l_4 4),t91] H58) (
opP ((zma P .gtr 3 true).f (nth l_4 4) (.int .i64 1114111)) fun t82=>
opP (zla t79 (.bool true) t82) fun t83_1=>
wIf t83_1 (
opP (zla t83_1 (.bool true) undef) fun t91_1=>
J_4 [(nth l_4 0),(nth l_4 1),(nth l_4 2),(nth l_4 3),(nth l_4 4),t91_1] H58) (
opP ((zma P .geq 3 true).f (nth l_4 4) (.int .i64 55296)) fun t86=>
wIf t86 (
opP ((zma P .leq 3 true).f (nth l_4 4) (.int .i64 57343)) fun t89=>
opP (zla t86 t89 (.bool false)) fun t90=>
opP (zla t83_1 (.bool true) t90) fun t91_2=>
J_4 [(nth l_4 0),(nth l_4 1),(nth l_4 2),(nth l_4 3),(nth l_4 4),t91_2] H58) (
opP (zla t86 undef (.bool false)) fun t90_1=>
opP (zla t83_1 (.bool true) t90_1) fun t91_3=>
J_4 [(nth l_4 0),(nth l_4 1),(nth l_4 2),(nth l_4 3),(nth l_4 4),t91_3] H58)))) (fun l_5 H73=>
wIf (nth l_5 5) (
opW (zpa 3 (nth l_5 2) H73) fun t92 H75=>
opW (zka 3 (nth l_5 1) t92 H75) fun u_4 H77=>
opW (zpa 3 (nth l_5 1) H77) fun r_3 _=>
K r_3 H77) (
opP (zqg (nth l_5 0) none (some (nth l_5 3)) none) fun t96=>
opP ((zxa P 149).f [(0,(nth l_5 4)),(1,t96),(2,(.bool false))]) fun t97=>
opW (zka 3 (nth l_5 1) t97 H73) fun u_5 H82=>
opW (zpa 3 (nth l_5 1) H82) fun r_4 _=>
K r_4 H82))) (
False)) (fun l_4 H58=>
opW (zpa 3 (nth l_4 1) H58) fun r_5 _=>
K r_5 H58))))
theorem zWt{t0:Value}{H:Heap}{K:VH}(h:zVt t0 H K):wCall P zZh [t0] H K:=zha rfl (Eq.mpr (by kernel_rfl) h)
def zIp(t0 t1:Value)(H:Heap)(K:VH):Prop:=
opP (zea t0) fun t7=>
opP (zfa 2 t7) fun t8=>
opW (zba t8 H) fun t9 H3=>
opP (zea t0) fun t12=>
opP (zfa 2 t12) fun t13=>
opW (zka 1 t13 t1 H3) fun u H7=>
K t9 H7
theorem zzq{t0 t1:Value}{H:Heap}{K:VH}(h:zIp t0 t1 H K):wCall P zEf [t0,t1] H K:=zha rfl (Eq.mpr (by kernel_rfl) h)
def zNg(t0 t1:Value)(H:Heap)(K:VH):Prop:=
wCall P zLb [t0,t1] H fun t8 H1=>
opP ((zma P .eql 133 true).f t8 (.pointer none)) fun t11=>
wIf t11 (
K (.int .i64 61) H1) (
opP (zea t0) fun t14=>
opP (zfa 4 t14) fun t15=>
opW (zba t15 H1) fun t16 H6=>
wIf t16 (
K (.int .i64 62) H6) (
opP (zea t8) fun t19=>
opP (zfa 128 t19) fun t20=>
opW (zba t20 H6) fun t21 H10=>
opP (zea t0) fun t23=>
opP (zfa 2 t23) fun t24=>
opW (zba t24 H10) fun t25 H14=>
opP ((zma P .geq 3 false).f t21 t25) fun t26=>
wIf t26 (
K (.int .i64 64) H14) (
wCall P zyb [t0] H14 fun t29 H17=>
opP (unA .not t29) fun t30=>
wIf t30 (
K (.int .i64 62) H17) (
opP (zea t8) fun t32=>
opP (zfa 128 t32) fun t33=>
opW (zba t33 H17) fun t34 H22=>
opP ((zma P .add 3 true).f t34 (.int .i64 1)) fun t35=>
opP (zea t8) fun t36=>
opP (zfa 128 t36) fun t37=>
opW (zka 1 t37 t35 H22) fun u H27=>
wCall P zzb [] H27 fun t40 H29=>
wCall P zRc [t0,t1,t40] H29 fun t41 H31=>
K (.int .i64 0) H31))))
theorem zBj{t0 t1:Value}{H:Heap}{K:VH}(h:zNg t0 t1 H K):wCall P zpd [t0,t1] H K:=zha rfl (Eq.mpr (by kernel_rfl) h)
def zKn(H:Heap)(K:VH):Prop:=
zrc (zc P 166) H fun t0 H1=>
opP ((zxa P 166).f [(0,(.int .u32 1779033703)),(1,(.int .u32 3144134277)),(2,(.int .u32 1013904242)),(3,(.int .u32 2773480762)),(4,(.int .u32 1359893119)),(5,(.int .u32 2600822924)),(6,(.int .u32 528734635)),(7,(.int .u32 1541459225))]) fun t1=>
opW (zka 8 t0 t1 H1) fun u H4=>
opW (zpa 8 t0 H4) fun r _=>
K r H4
theorem zJp{H:Heap}{K:VH}(h:zKn  H K):wCall P zTg [] H K:=zha rfl (Eq.mpr (by kernel_rfl) h)
noncomputable abbrev zTd:Code:=zmb P zVb 0
noncomputable abbrev zUd:Code:=zmb P zVb 1
def zcg(l:List Value)(H:Heap)(N:LN)(Qx:LX)(Qr:LN):Prop:=
opP ((zma P .lss 3 true).f (nth l 5) (.int .i64 64)) fun t19=>
wIf t19 (
opP (zDa 8 1 (nth l 4) (.int .i64 0)) fun t21=>
opW (zba t21 H) fun t22 H3=>
opP (zDa 8 1 (nth l 4) (.int .i64 4)) fun t23=>
opW (zba t23 H3) fun t24 H6=>
opP (zDa 8 1 (nth l 4) (.int .i64 7)) fun t25=>
opW (zba t25 H6) fun t26 H9=>
opW ((zoa P 126 3).f [(0,(.int .i64 6)),(1,(.int .i64 11)),(2,(.int .i64 25))] H9) fun t28 H11=>
wCall P zBc [t24,t28] H11 fun t29 H13=>
zeb (zcb H11 H13) (zJa [t25])∧(opP ((zma P .add 161 false).f t26 t29) fun t30=>
opP (zDa 8 1 (nth l 4) (.int .i64 5)) fun t32=>
opW (zba t32 H13) fun t33 H17=>
zeb (zcb H11 H13) (zJa [t32])∧(zIu (zJa [t32]) H9.next H11.next∧(opP ((zma P .and 161 false).f t24 t33) fun t34=>
opP (unA .xor t24) fun t36=>
opP (zDa 8 1 (nth l 4) (.int .i64 6)) fun t37=>
opW (zba t37 H17) fun t38 H22=>
zeb (zcb H11 H13) (zJa [t37])∧(zIu (zJa [t37]) H9.next H11.next∧(opP ((zma P .and 161 false).f t36 t38) fun t39=>
opP ((zma P .xor 161 false).f t34 t39) fun t40=>
opP ((zma P .add 161 false).f t30 t40) fun t41=>
opP (zea (nth l 3)) fun t44=>
opP (zDa 64 1 t44 (nth l 5)) fun t45=>
opW (zba t45 H22) fun t46 H29=>
zeb (zcb H11 H13) (zJa [t45])∧(zIu (zJa [t45]) H9.next H11.next∧(opP ((zma P .add 161 false).f t41 t46) fun t47=>
opP (zDa 64 1 (nth l 2) (nth l 5)) fun t49=>
opW (zba t49 H29) fun t50 H33=>
zeb (zcb H11 H13) (zJa [t49])∧(zIu (zJa [t49]) H9.next H11.next∧(opP ((zma P .add 161 false).f t47 t50) fun t51=>
opW ((zoa P 126 3).f [(0,(.int .i64 2)),(1,(.int .i64 13)),(2,(.int .i64 22))] H33) fun t53 H36=>
wCall P zBc [t22,t53] H36 fun t54 H38=>
opP (zDa 8 1 (nth l 4) (.int .i64 1)) fun t56=>
opW (zba t56 H38) fun t57 H41=>
zeb (zcb H36 H38) (zJa [t56])∧(zIu (zJa [t56]) H33.next H36.next∧(opP ((zma P .and 161 false).f t22 t57) fun t58=>
opP (zDa 8 1 (nth l 4) (.int .i64 2)) fun t60=>
opW (zba t60 H41) fun t61 H45=>
zeb (zcb H36 H38) (zJa [t60])∧(zIu (zJa [t60]) H33.next H36.next∧(opP ((zma P .and 161 false).f t22 t61) fun t62=>
opP ((zma P .xor 161 false).f t58 t62) fun t63=>
opP (zDa 8 1 (nth l 4) (.int .i64 1)) fun t64=>
opW (zba t64 H45) fun t65 H50=>
zeb (zcb H36 H38) (zJa [t64])∧(zIu (zJa [t64]) H33.next H36.next∧(opP (zDa 8 1 (nth l 4) (.int .i64 2)) fun t66=>
opW (zba t66 H50) fun t67 H53=>
zeb (zcb H36 H38) (zJa [t66])∧(zIu (zJa [t66]) H33.next H36.next∧(opP ((zma P .and 161 false).f t65 t67) fun t68=>
opP ((zma P .xor 161 false).f t63 t68) fun t69=>
opP ((zma P .add 161 false).f t54 t69) fun t70=>
opP (zhd 8 1 (nth l 4) (some (.int .i64 1)) none none H53) fun t71=>
opP (zhd 8 1 (nth l 4) none (some (.int .i64 7)) none H53) fun t72=>
opW (zTi 1 t71 t72 H53) fun t73 H60=>
opP (zDa 8 1 (nth l 4) (.int .i64 4)) fun t74=>
opW (zba t74 H60) fun t75 H63=>
opP ((zma P .add 161 false).f t75 t51) fun t77=>
opP (zDa 8 1 (nth l 4) (.int .i64 4)) fun t78=>
opW (zka 1 t78 t77 H63) fun u H67=>
opP ((zma P .add 161 false).f t51 t70) fun t81=>
opP (zDa 8 1 (nth l 4) (.int .i64 0)) fun t82=>
opW (zka 1 t82 t81 H67) fun u_1 H71=>
opP ((zma P .add 3 true).f (nth l 5) (.int .i64 1)) fun t83=>
N [(nth l 0),(nth l 1),(nth l 2),(nth l 3),(nth l 4),t83] H71)))))))))))))))))) (
Qx 0 [(nth l 0),(nth l 1),(nth l 4)] H)
theorem zli:LpI P 97 zTd 148 zcg:=.mk (by kernel_rfl) fun l H N Qx Qr=>by kernel_rfl
def zdg(l:List Value)(H:Heap)(N:LN)(Qx:LX)(Qr:LN):Prop:=
opP ((zma P .lss 3 true).f (nth l 3) (.int .i64 8)) fun t85=>
wIf t85 (
opP (zDa 8 1 (nth l 0) (nth l 3)) fun t88=>
opW (zba t88 H) fun t89 H3=>
opP (zDa 8 1 (nth l 2) (nth l 3)) fun t91=>
opW (zba t91 H3) fun t92 H6=>
opP ((zma P .add 161 false).f t89 t92) fun t93=>
opP (zDa 8 1 (nth l 0) (nth l 3)) fun t94=>
opW (zka 1 t94 t93 H6) fun u H10=>
opP ((zma P .add 3 true).f (nth l 3) (.int .i64 1)) fun t95=>
N [(nth l 0),(nth l 1),(nth l 2),t95] H10) (
Qx 2 [(nth l 0),(nth l 1)] H)
theorem zmi:LpI P 97 zUd 20 zdg:=.mk (by kernel_rfl) fun l H N Qx Qr=>by kernel_rfl
def zFi(t0 t1:Value)(H:Heap)(K:VH):Prop:=
zrc (zya t0) H fun t2 H1=>
zrc (zc P 166) H1 fun t4 H3=>
wCall P zre [t1] H3 fun t15 H5=>
wCall P zUg [] H5 fun t16 H7=>
zrc (zc P 186) H7 fun t5 H9=>
opW (zka 64 t5 t15 H9) fun u H11=>
opW (zpa 8 t2 H11) fun t17 H13=>
zrc (zc P 166) H13 fun t7 H15=>
opW (zka 8 t7 t17 H15) fun u_1 H17=>
zdb P true 97 zTd 148 [t2,t4,t5,t16,t7,(.int .i64 0)] H17 (fun id l H19=>
cond (Nat.beq id 0) (
zdb P true 97 zUd 20 [(nth l 0),(nth l 1),(nth l 2),(.int .i64 0)] H19 (fun id l_1 H21=>
cond (Nat.beq id 2) (
opW (zpa 8 (nth l_1 0) H21) fun t96 H23=>
opW (zka 8 (nth l_1 1) t96 H23) fun u_2 H25=>
opW (zpa 8 (nth l_1 1) H25) fun r _=>
K r H25) (
False)) (fun l_1 H21=>
opW (zpa 8 (nth l_1 1) H21) fun r_1 _=>
K r_1 H21)) (
False)) (fun l H19=>
opW (zpa 8 (nth l 1) H19) fun r_2 _=>
K r_2 H19)
theorem zil{t0 t1:Value}{H:Heap}{K:VH}(h:zFi t0 t1 H K):wCall P zVb [t0,t1] H K:=zha rfl (Eq.mpr (by kernel_rfl) h)
def zOg(t0:Value)(H:Heap)(K:VH):Prop:=
opP (zea t0) fun t4=>
opP (zfa 0 t4) fun t5=>
opW (zpa 8 t5 H) fun t6 H3=>
opP (zea t0) fun t8=>
opP (zfa 8 t8) fun t9=>
opW (zba t9 H3) fun t10 H7=>
opW (zEa 1 1 (.slice none 0 0) t10 H7) fun t11 H9=>
zMq (zJa [t5]) (zJa [(.slice none 0 0),t10])∧(opP (zea t0) fun t13=>
opP (zfa 9 t13) fun t14=>
opW (zba t14 H9) fun t15 H13=>
zMq (zJa [(.slice none 0 0),t10]) (zJa [t14])∧zIu (zJa [t14]) H7.next H9.next∧(opP ((zxa P 169).f [(0,t6),(1,t11),(2,t15)]) fun t16=>
zrc (zya t16) H13 fun t17 H16=>
K t17 H16))
theorem zCj{t0:Value}{H:Heap}{K:VH}(h:zOg t0 H K):wCall P zqd [t0] H K:=zha rfl (Eq.mpr (by kernel_rfl) h)
def zHk(t0 t1:Value)(H:Heap)(K:VH):Prop:=
zQb (fun J=>
opP ((zma P .lss 3 true).f t0 (.int .i64 1)) fun t6=>
wIf t6 (
opP (zla t6 (.bool true) undef) fun t10=>
wIf t10 (
K (.int .i64 0) H) (
J [t0,t1] H)) (
opP ((zma P .lss 3 true).f t1 (.int .i64 1)) fun t9=>
opP (zla t6 (.bool true) t9) fun t10_1=>
wIf t10_1 (
K (.int .i64 0) H) (
J [t0,t1] H))) (fun l H6=>
opP ((zma P .sub 3 true).f (nth l 0) (.int .i64 1)) fun t12=>
opP ((zma P .quo 3 false).f t12 (nth l 1)) fun t14=>
opP ((zma P .add 3 true).f t14 (.int .i64 1)) fun t15=>
K t15 H6)
theorem zYm{t0 t1:Value}{H:Heap}{K:VH}(h:zHk t0 t1 H K):wCall P zjf [t0,t1] H K:=zha rfl (Eq.mpr (by kernel_rfl) h)
def zAe(t0 t1:Value)(H:Heap)(K:VH):Prop:=
zrc (zya t0) H fun t2 H1=>
zrc (zya t1) H1 fun t3 H3=>
opW (zba t3 H3) fun t5 H5=>
opP ((zma P .lss 3 true).f t5 (.int .i64 1)) fun t6=>
wIf t6 (
False) (
K (.func (.func zab) [].toArray [t2,t3].toArray) H5)
theorem zWg{t0 t1:Value}{H:Heap}{K:VH}(h:zAe t0 t1 H K):wCall P zZd [t0,t1] H K:=zha rfl (Eq.mpr (by kernel_rfl) h)
noncomputable abbrev zGi:Code:=zmb P zre 0
def zHi(l:List Value)(H:Heap)(N:LN)(Qx:LX)(Qr:LN):Prop:=
opP ((zma P .lss 3 true).f (nth l 3) (.int .i64 64)) fun t8=>
wIf t8 (
opP ((zma P .lss 3 true).f (nth l 3) (.int .i64 16)) fun t11=>
wIf t11 (
opP ((zma P .mul 3 true).f (.int .i64 4) (nth l 3)) fun t15=>
opP (zld 1 (nth l 0) t15) fun t16=>
opW (zba t16 H) fun t17 H5=>
opW (zhf .u32 t17 H5) fun t18 H7=>
opP ((zma P .shl 161 true).f t18 (.int .u64 24)) fun t19=>
opP ((zma P .mul 3 true).f (.int .i64 4) (nth l 3)) fun t22=>
opP ((zma P .add 3 true).f t22 (.int .i64 1)) fun t23=>
opP (zld 1 (nth l 0) t23) fun t24=>
opW (zba t24 H7) fun t25 H13=>
opW (zhf .u32 t25 H13) fun t26 H15=>
opP ((zma P .shl 161 true).f t26 (.int .u64 16)) fun t27=>
opP ((zma P .or 161 false).f t19 t27) fun t28=>
opP ((zma P .mul 3 true).f (.int .i64 4) (nth l 3)) fun t31=>
opP ((zma P .add 3 true).f t31 (.int .i64 2)) fun t32=>
opP (zld 1 (nth l 0) t32) fun t33=>
opW (zba t33 H15) fun t34 H22=>
opW (zhf .u32 t34 H22) fun t35 H24=>
opP ((zma P .shl 161 true).f t35 (.int .u64 8)) fun t36=>
opP ((zma P .or 161 false).f t28 t36) fun t37=>
opP ((zma P .mul 3 true).f (.int .i64 4) (nth l 3)) fun t40=>
opP ((zma P .add 3 true).f t40 (.int .i64 3)) fun t41=>
opP (zld 1 (nth l 0) t41) fun t42=>
opW (zba t42 H24) fun t43 H31=>
opW (zhf .u32 t43 H31) fun t44 H33=>
opP ((zma P .or 161 false).f t37 t44) fun t45=>
opP (zDa 64 1 (nth l 2) (nth l 3)) fun t46=>
opW (zka 1 t46 t45 H33) fun u H37=>
opP ((zma P .add 3 true).f (nth l 3) (.int .i64 1)) fun t80=>
N [(nth l 0),(nth l 1),(nth l 2),t80] H37) (
opP ((zma P .sub 3 true).f (nth l 3) (.int .i64 15)) fun t48=>
opP (zDa 64 1 (nth l 2) t48) fun t49=>
opW (zba t49 H) fun t50 H42=>
opP ((zma P .sub 3 true).f (nth l 3) (.int .i64 2)) fun t52=>
opP (zDa 64 1 (nth l 2) t52) fun t53=>
opW (zba t53 H42) fun t54 H46=>
opP ((zma P .sub 3 true).f (nth l 3) (.int .i64 16)) fun t57=>
opP (zDa 64 1 (nth l 2) t57) fun t58=>
opW (zba t58 H46) fun t59 H50=>
opW ((zoa P 126 2).f [(0,(.int .i64 7)),(1,(.int .i64 18))] H50) fun t61 H52=>
wCall P zBc [t50,t61] H52 fun t62 H54=>
zeb (zcb H52 H54) (zJa [t58])∧(opP ((zma P .shr 161 true).f t50 (.int .u64 3)) fun t64=>
opP ((zma P .xor 161 false).f t62 t64) fun t65=>
opP ((zma P .add 161 false).f t59 t65) fun t66=>
opP ((zma P .sub 3 true).f (nth l 3) (.int .i64 7)) fun t68=>
opP (zDa 64 1 (nth l 2) t68) fun t69=>
opW (zba t69 H54) fun t70 H61=>
zeb (zcb H52 H54) (zJa [t69])∧(zIu (zJa [t69]) H50.next H52.next∧(opP ((zma P .add 161 false).f t66 t70) fun t71=>
opW ((zoa P 126 2).f [(0,(.int .i64 17)),(1,(.int .i64 19))] H61) fun t73 H64=>
wCall P zBc [t54,t73] H64 fun t74 H66=>
zeb (zcb H64 H66) (zJa [t69])∧(zeb (zcb H64 H66) (zJa [t58])∧(opP ((zma P .shr 161 true).f t54 (.int .u64 10)) fun t76=>
opP ((zma P .xor 161 false).f t74 t76) fun t77=>
opP ((zma P .add 161 false).f t71 t77) fun t78=>
opP (zDa 64 1 (nth l 2) (nth l 3)) fun t79=>
opW (zka 1 t79 t78 H66) fun u_1 H72=>
opP ((zma P .add 3 true).f (nth l 3) (.int .i64 1)) fun t80_1=>
N [(nth l 0),(nth l 1),(nth l 2),t80_1] H72))))))) (
Qx 0 [(nth l 1),(nth l 2)] H)
theorem zok:LpI P 82 zGi 12 zHi:=.mk (by kernel_rfl) fun l H N Qx Qr=>by kernel_rfl
def zhm(t0:Value)(H:Heap)(K:VH):Prop:=
zrc (zc P 186) H fun t2 H1=>
zrc (zc P 186) H1 fun t3 H3=>
zdb P true 82 zGi 12 [t0,t2,t3,(.int .i64 0)] H3 (fun id l H5=>
cond (Nat.beq id 0) (
opW (zpa 64 (nth l 1) H5) fun t81 H7=>
opW (zka 64 (nth l 0) t81 H7) fun u H9=>
opW (zpa 64 (nth l 0) H9) fun r _=>
K r H9) (
False)) (fun l H5=>
opW (zpa 64 (nth l 0) H5) fun r_1 _=>
K r_1 H5)
theorem zgo{t0:Value}{H:Heap}{K:VH}(h:zhm t0 H K):wCall P zre [t0] H K:=zha rfl (Eq.mpr (by kernel_rfl) h)
def zLn(H:Heap)(K:VH):Prop:=
opP ((zxa P 186).f [(0,(.int .u32 1116352408)),(1,(.int .u32 1899447441)),(2,(.int .u32 3049323471)),(3,(.int .u32 3921009573)),(4,(.int .u32 961987163)),(5,(.int .u32 1508970993)),(6,(.int .u32 2453635748)),(7,(.int .u32 2870763221)),(8,(.int .u32 3624381080)),(9,(.int .u32 310598401)),(10,(.int .u32 607225278)),(11,(.int .u32 1426881987)),(12,(.int .u32 1925078388)),(13,(.int .u32 2162078206)),(14,(.int .u32 2614888103)),(15,(.int .u32 3248222580)),(16,(.int .u32 3835390401)),(17,(.int .u32 4022224774)),(18,(.int .u32 264347078)),(19,(.int .u32 604807628)),(20,(.int .u32 770255983)),(21,(.int .u32 1249150122)),(22,(.int .u32 1555081692)),(23,(.int .u32 1996064986)),(24,(.int .u32 2554220882)),(25,(.int .u32 2821834349)),(26,(.int .u32 2952996808)),(27,(.int .u32 3210313671)),(28,(.int .u32 3336571891)),(29,(.int .u32 3584528711)),(30,(.int .u32 113926993)),(31,(.int .u32 338241895)),(32,(.int .u32 666307205)),(33,(.int .u32 773529912)),(34,(.int .u32 1294757372)),(35,(.int .u32 1396182291)),(36,(.int .u32 1695183700)),(37,(.int .u32 1986661051)),(38,(.int .u32 2177026350)),(39,(.int .u32 2456956037)),(40,(.int .u32 2730485921)),(41,(.int .u32 2820302411)),(42,(.int .u32 3259730800)),(43,(.int .u32 3345764771)),(44,(.int .u32 3516065817)),(45,(.int .u32 3600352804)),(46,(.int .u32 4094571909)),(47,(.int .u32 275423344)),(48,(.int .u32 430227734)),(49,(.int .u32 506948616)),(50,(.int .u32 659060556)),(51,(.int .u32 883997877)),(52,(.int .u32 958139571)),(53,(.int .u32 1322822218)),(54,(.int .u32 1537002063)),(55,(.int .u32 1747873779)),(56,(.int .u32 1955562222)),(57,(.int .u32 2024104815)),(58,(.int .u32 2227730452)),(59,(.int .u32 2361852424)),(60,(.int .u32 2428436474)),(61,(.int .u32 2756734187)),(62,(.int .u32 3204031479)),(63,(.int .u32 3329325298))]) fun t1=>
zrc (zya t1) H fun t2 H2=>
K t2 H2
theorem zKp{H:Heap}{K:VH}(h:zLn  H K):wCall P zUg [] H K:=zha rfl (Eq.mpr (by kernel_rfl) h)
noncomputable abbrev zIk:Code:=zmb P zBc 0
def zJk(l:List Value)(H:Heap)(N:LN)(Qx:LX)(Qr:LN):Prop:=
opP ((zma P .lss 3 false).f (nth l 5) (nth l 4)) fun t11=>
wIf t11 (
opP (zld 1 (nth l 3) (nth l 5)) fun t12=>
opW (zba t12 H) fun t13 H3=>
opP (unA .neg t13) fun t17=>
wCall P zoc [(nth l 0),t17] H3 fun t18 H6=>
opP ((zma P .xor 161 false).f (nth l 2) t18) fun t19=>
opP ((zma P .add 3 true).f (nth l 5) (.int .i64 1)) fun t20=>
N [(nth l 0),(nth l 1),t19,(nth l 3),(nth l 4),t20] H6) (
Qx 0 [(nth l 1),(nth l 2)] H)
theorem zim:LpI P 22 zIk 48 zJk:=.mk (by kernel_rfl) fun l H N Qx Qr=>by kernel_rfl
def zLp(t0 t1:Value)(H:Heap)(K:VH):Prop:=
opW (lenSl t1 H) fun t9 H1=>
zdb P true 22 zIk 48 [t0,(.int .u32 0),(.int .u32 0),t1,t9,(.int .i64 0)] H1 (fun id l H3=>
cond (Nat.beq id 0) (
K (nth l 1) H3) (
False)) (fun l H3=>
K (nth l 0) H3)
theorem zAq{t0 t1:Value}{H:Heap}{K:VH}(h:zLp t0 t1 H K):wCall P zBc [t0,t1] H K:=zha rfl (Eq.mpr (by kernel_rfl) h)
noncomputable abbrev zdd:Code:=zmb P zab 0
def zed(l:List Value)(H:Heap)(N:LN)(Qx:LX)(Qr:LN):Prop:=
opW (zba (nth l 1) H) fun t7 H1=>
opW (lenSl t7 H1) fun t8 H3=>
opP ((zma P .lss 3 false).f (nth l 3) t8) fun t9=>
wIf t9 (
opW (zba (nth l 2) H3) fun t13 H6=>
opW (zba (nth l 1) H6) fun t14 H8=>
opP (zWa 1 t14 (some (nth l 3)) none none) fun t16=>
opW (lenSl t16 H8) fun t17 H11=>
opW (zIc H11 (zaC [t13,t17])) fun t18 H13=>
opW (zba (nth l 1) H13) fun t20 H15=>
opP ((zma P .add 3 false).f (nth l 3) t18) fun t24=>
opP ((zma P .add 3 false).f (nth l 3) t18) fun t27=>
opP (zWa 1 t20 (some (nth l 3)) (some t24) (some t27)) fun t28=>
zmE P (zIf (nth l 0) [t28]) H15 fun t29 H20=>
opP (unA .not t29) fun t30=>
wIf t30 (
Qr [] H20) (
opW (zba (nth l 2) H20) fun t11 H23=>
opP ((zma P .add 3 false).f (nth l 3) t11) fun t12=>
N [(nth l 0),(nth l 1),(nth l 2),t12] H23)) (
Qx 0 [] H3)
theorem zKe:LpI P 31 zdd 0 zed:=.mk (by kernel_rfl) fun l H N Qx Qr=>by kernel_rfl
def zbe(t0 t1 t2:Value)(H:Heap)(K:VH):Prop:=
zdb P true 31 zdd 0 [t0,t1,t2,(.int .i64 0)] H (fun id l H1=>
cond (Nat.beq id 0) (
K (.tuple [].toArray) H1) (
False)) (fun l H1=>
K (.tuple [].toArray) H1)
theorem zeg{t0 t1 t2:Value}{H:Heap}{K:VH}(h:zbe t0 t1 t2 H K):wCall P zab [t0,t1,t2] H K:=zha rfl (Eq.mpr (by kernel_rfl) h)
def zBe(t0 t1:Value)(H:Heap)(K:VH):Prop:=
opW (zhf .u64 t1 H) fun t7 H1=>
opP ((zma P .and 124 true).f t7 (.int .u64 31)) fun t8=>
opP ((zma P .shl 161 false).f t0 t8) fun t11=>
opP ((zma P .sub 124 true).f (.int .u64 32) t8) fun t14=>
opP ((zma P .shr 161 false).f t0 t14) fun t15=>
opP ((zma P .or 161 false).f t11 t15) fun t16=>
K t16 H1
theorem zXg{t0 t1:Value}{H:Heap}{K:VH}(h:zBe t0 t1 H K):wCall P zoc [t0,t1] H K:=zha rfl (Eq.mpr (by kernel_rfl) h)
end
end J
