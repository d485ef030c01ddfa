/- texts of the proof, one behind the other -/
import Derived.KernelRfl
import Derived.Test.YtmnbcjhjkahajaaDoorUA
set_option linter.unusedSimpArgs false
set_option linter.unusedSectionVars false
set_option linter.unusedVariables false
set_option maxRecDepth 100000
namespace J
open Go Go.Ab
noncomputable abbrev P:Program:=Go.Proofs.Tryd.prog
noncomputable section
abbrev zPf:Nat:=3
abbrev zQf:Nat:=4
abbrev zNg:Nat:=5
abbrev zRf:Nat:=6
abbrev zFb:Nat:=10
abbrev zlc:Nat:=11
abbrev znh:Nat:=12
abbrev zxd:Nat:=13
abbrev zde:Nat:=14
abbrev zNb:Nat:=15
abbrev zHe:Nat:=16
abbrev zTd:Nat:=17
abbrev zpf:Nat:=18
abbrev ztg:Nat:=19
abbrev zIe:Nat:=20
abbrev zug:Nat:=23
abbrev zoh:Nat:=24
abbrev zZc:Nat:=25
abbrev zee:Nat:=26
abbrev zJe:Nat:=27
abbrev zUd:Nat:=28
abbrev zei:Nat:=29
abbrev zTa:Nat:=30
abbrev zad:Nat:=31
abbrev zfi:Nat:=32
abbrev zCc:Nat:=33
abbrev zKe:Nat:=34
abbrev zyd:Nat:=35
abbrev zOb:Nat:=36
abbrev zbd:Nat:=37
abbrev zqf:Nat:=40
abbrev zEa:Nat:=41
abbrev zie:Nat:=42
abbrev zUa:Nat:=43
abbrev znd:Nat:=44
abbrev zzd:Nat:=45
abbrev zAd:Nat:=46
abbrev zcd:Nat:=47
abbrev zVd:Nat:=48
abbrev zvg:Nat:=49
abbrev zzf:Nat:=50
abbrev zIb:Nat:=51
abbrev zje:Nat:=52
abbrev zwg:Nat:=53
abbrev zDc:Nat:=54
abbrev zwb:Nat:=55
abbrev zLe:Nat:=56
abbrev zxg:Nat:=57
abbrev zPa:Nat:=58
abbrev zjb:Nat:=59
abbrev zke:Nat:=60
abbrev zyg:Nat:=61
abbrev zph:Nat:=62
abbrev zrf:Nat:=63
abbrev zqh:Nat:=64
abbrev zMe:Nat:=66
abbrev zAf:Nat:=69
abbrev zPb:Nat:=70
abbrev zNc:Nat:=71
abbrev zyc:Nat:=72
abbrev zWd:Nat:=73
abbrev zub:Nat:=74
abbrev zXd:Nat:=75
abbrev zOa:Nat:=76
abbrev zmc:Nat:=77
abbrev zsf:Nat:=78
abbrev zSf:Nat:=79
abbrev zzg:Nat:=85
abbrev zBd:Nat:=87
abbrev zBf:Nat:=88
abbrev znc:Nat:=89
abbrev zAg:Nat:=90
abbrev zCf:Nat:=91
abbrev zeb:Nat:=92
abbrev zXb:Nat:=98
instance:Orc:=Seal.orcS
instance (priority:=1) noBase:Base:=⟨fun _=>none,0⟩
theorem zcz{s:ByteArray}(hs:s.size < 4611686018427387904)(H:Heap):Orc.tab 64 [Value.string s] H=some (.int .i64 (Seal.nmF s s.size 0 0)):=by
 show cond (Nat.blt s.size 4611686018427387904) (some (Value.int .i64 (Seal.nmF s s.size 0 0))) none=_
 rw[show Nat.blt s.size 4611686018427387904=true from by rw[blt_eq]; exact decide_eq_true hs]
 rfl
theorem zjn{P:Program}{me:zji}{f:FuncId}{args:List Value}{H:Heap}{v:Value}(h:Orc.tab f args H=some v):zPu P me (.call f args H)=some ⟨.ret,[v],H⟩:=by
 unfold zPu
 simp only[h]
theorem zkn{H:Heap}{K:VH}{s:ByteArray}(hs:s.size < 4611686018427387904)(hk:K (.int .i64 (Seal.nmF s s.size 0 0)) H):wCall P zqh [.string s] H K:=
 ⟨1,.ret,_,H,zjn (zcz hs H),hk⟩
theorem zav{r:Int}(h1:-2147483648≤r)(h2:r≤2147483647)(H:Heap):Orc.tab 78 [Value.int .i32 r] H=some (.bool (Go.Lib.isLetterU r)):=by
 show cond (decide (-2147483648≤r) && decide (r≤2147483647)) (some (Value.bool (Go.Lib.isLetterU r))) none=_
 rw[decide_eq_true h1,decide_eq_true h2]; rfl
theorem zhx{r:Int}(h1:-2147483648≤r)(h2:r≤2147483647)(H:Heap):Orc.tab 79 [Value.int .i32 r] H=some (.bool (Go.Lib.isDigitU r)):=by
 show cond (decide (-2147483648≤r) && decide (r≤2147483647)) (some (Value.bool (Go.Lib.isDigitU r))) none=_
 rw[decide_eq_true h1,decide_eq_true h2]; rfl
theorem zRs{H:Heap}{K:VH}{r:Int}(h1:-2147483648≤r)(h2:r≤2147483647)(hk:K (.bool (Go.Lib.isLetterU r)) H):wCall P zsf [.int .i32 r] H K:=
 ⟨1,.ret,_,H,zjn (zav h1 h2 H),hk⟩
theorem zbv{H:Heap}{K:VH}{r:Int}(h1:-2147483648≤r)(h2:r≤2147483647)(hk:K (.bool (Go.Lib.isDigitU r)) H):wCall P zSf [.int .i32 r] H K:=
 ⟨1,.ret,_,H,zjn (zhx h1 h2 H),hk⟩
def zrh(t0 t1:Value)(H:Heap)(K:VH):Prop:=
wCall P zFb [] H fun t15 H1=>
opP (unA .not t15) fun t16=>
wIf t16 (
K (.bool false) H1) (
zQb (fun J=>
opW (lenSl t0 H1) fun t18 H5=>
opP ((zma P .gtr 3 true).f t18 (.int .i64 200)) fun t19=>
wIf t19 (
opP (zha t19 (.bool true) undef) fun t24=>
wIf t24 (
K (.bool true) H5) (
J [t0,t1] H5)) (
opW (lenSl t1 H5) fun t22 H9=>
opP ((zma P .gtr 3 true).f t22 (.int .i64 3000)) fun t23=>
opP (zha t19 (.bool true) t23) fun t24_1=>
wIf t24_1 (
K (.bool true) H9) (
J [t0,t1] H9))) (fun l H13=>
wCall P zlc [(nth l 0),(nth l 1)] H13 fun t28 H15=>
opP (zmd 0 t28) fun t29=>
opP (zmd 1 t28) fun t30=>
opP (zmd 2 t28) fun t31=>
zZb (zc P 29) H15 fun t5 H20=>
opW (zka 37 t5 t29 H20) fun u H22=>
wCall P znh [(nth l 0),(nth l 1)] H22 fun t35 H24=>
opP (zmd 0 t35) fun t36=>
opP (zmd 1 t35) fun t37=>
opP (zmd 2 t35) fun t38=>
zZb (zc P 29) H24 fun t8 H29=>
opW (zka 37 t8 t36 H29) fun u_1 H31=>
wCall P zxd [(nth l 1)] H31 fun t41 H33=>
opP (zmd 0 t41) fun t42=>
opP (zmd 1 t41) fun t43=>
wCall P zde [(nth l 1)] H33 fun t46 H37=>
opP (zmd 0 t46) fun t47=>
opP (zmd 1 t46) fun t48=>
opW (zja 37 t5 H37) fun t49 H41=>
opW (zja 37 t8 H41) fun t50 H43=>
wCall P zNb [t49,t50] H43 fun t51 H45=>
wIf t51 (
opP ((zma P .eql 3 false).f t30 t37) fun t55=>
opP (zha t51 t55 (.bool false)) fun t56=>
wIf t56 (
opP ((zma P .eql 3 false).f t31 t38) fun t60=>
opP (zha t56 t60 (.bool false)) fun t61=>
wIf t61 (
opP ((zma P .eql 3 false).f t42 t47) fun t65=>
opP (zha t61 t65 (.bool false)) fun t66=>
wIf t66 (
opP ((zma P .eql 3 false).f t43 t48) fun t70=>
opP (zha t66 t70 (.bool false)) fun t71=>
K t71 H45) (
opP (zha t66 undef (.bool false)) fun t71_1=>
K t71_1 H45)) (
opP (zha t61 undef (.bool false)) fun t66_1=>
opP (zha t66_1 undef (.bool false)) fun t71_2=>
K t71_2 H45)) (
opP (zha t56 undef (.bool false)) fun t61_1=>
opP (zha t61_1 undef (.bool false)) fun t66_2=>
opP (zha t66_2 undef (.bool false)) fun t71_3=>
K t71_3 H45)) (
opP (zha t51 undef (.bool false)) fun t56_1=>
opP (zha t56_1 undef (.bool false)) fun t61_2=>
opP (zha t61_2 undef (.bool false)) fun t66_3=>
opP (zha t66_3 undef (.bool false)) fun t71_4=>
K t71_4 H45)))
theorem zEj{t0 t1:Value}{H:Heap}{K:VH}(h:zrh t0 t1 H K):wCall P zPf [t0,t1] H K:=zca rfl (Eq.mpr (by kernel_rfl) h)
def zsh(t0 t1 t2:Value)(H:Heap)(K:VH):Prop:=
zZb (zCa t1) H fun t4 H1=>
wCall P zFb [] H1 fun t20 H3=>
opP (unA .not t20) fun t21=>
wIf t21 (
K (.bool false) H3) (
zQb (fun J=>
opW (zja 37 t4 H3) fun t22 H7=>
wCall P zHe [t22] H7 fun t23 H9=>
wIf t23 (
opP (zha t23 (.bool true) undef) fun t28=>
wIf t28 (
K (.bool true) H9) (
J [t0,t2,t4] H9)) (
opW (lenSl t0 H9) fun t26 H12=>
opP ((zma P .gtr 3 true).f t26 (.int .i64 200)) fun t27=>
opP (zha t23 (.bool true) t27) fun t28_1=>
wIf t28_1 (
K (.bool true) H12) (
J [t0,t2,t4] H12))) (fun l H16=>
opW (zja 37 (nth l 2) H16) fun t31 H18=>
wCall P zTd [(nth l 0),t31] H18 fun t32 H20=>
opP (zmd 0 t32) fun t33=>
opP (zmd 1 t32) fun t34=>
opP ((zma P .neq 30 true).f t34 (.int .i64 0)) fun t36=>
wIf t36 (
opP ((zma P .eql 30 true).f t34 (.int .i64 131)) fun t38=>
wIf t38 (
opW (lenSl t33 H20) fun t41 H26=>
opP ((zma P .eql 3 true).f t41 (.int .i64 0)) fun t42=>
opP (zha t38 t42 (.bool false)) fun t43=>
K t43 H26) (
opP (zha t38 undef (.bool false)) fun t43_1=>
K t43_1 H20)) (
opW (lenSl t33 H20) fun t46 H31=>
opP ((zma P .sub 3 true).f t46 (.int .i64 1)) fun t47=>
opW (zqe H31 (zdA [(nth l 1),t47])) fun t48 H34=>
opW (zqe H34 (zeA [(.int .i64 0),t48])) fun t49 H36=>
opP (zLa 1 t33 none (some t49) none) fun t54=>
wCall P zlc [(nth l 0),t54] H36 fun t55 H39=>
opP (zmd 0 t55) fun t56=>
opP (zmd 1 t55) fun t57=>
opP (zmd 2 t55) fun t58=>
zZb (zc P 29) H39 fun t10 H44=>
opW (zka 37 t10 t56 H44) fun u H46=>
opW ((zga P 22 0).f [] H46) fun t61 H48=>
opW (zoa 1 1 t61 t33 H48) fun t63 H50=>
opW ((zga P 22 3).f [(0,(.int .u8 1)),(1,(.int .u8 2)),(2,(.int .u8 3))] H50) fun t64 H52=>
opW (zoa 1 1 t63 t64 H52) fun t65 H54=>
wCall P zlc [(nth l 0),t65] H54 fun t66 H56=>
opP (zmd 0 t66) fun t67=>
opP (zmd 1 t66) fun t68=>
opP (zmd 2 t66) fun t69=>
zZb (zc P 29) H56 fun t13 H61=>
opW (zka 37 t13 t67 H61) fun u_1 H63=>
opW ((zga P 22 0).f [] H63) fun t70 H65=>
opW (zoa 1 1 t70 t33 H65) fun t72 H67=>
opP (zfd 1 t72 (.int .i64 0)) fun t74=>
opW (zba t74 H67) fun t75 H70=>
opP ((zma P .xor 5 true).f t75 (.int .u8 1)) fun t76=>
opP (zfd 1 t72 (.int .i64 0)) fun t77=>
opW (zka 1 t77 t76 H70) fun u_2 H74=>
wCall P zlc [(nth l 0),t72] H74 fun t81 H76=>
opP (zmd 0 t81) fun t82=>
opP (zmd 1 t81) fun t83=>
opP (zmd 2 t81) fun t84=>
zZb (zc P 29) H76 fun t17 H81=>
opW (zka 37 t17 t82 H81) fun u_3 H83=>
opP ((zma P .eql 30 true).f t58 (.int .i64 141)) fun t86=>
wIf t86 (
opP ((zma P .eql 3 true).f t57 (.int .i64 0)) fun t89=>
opP (zha t86 t89 (.bool false)) fun t90=>
wIf t90 (
opW (zja 37 t10 H83) fun t92 H88=>
opP ((zbb P 29).f []) fun t93=>
wCall P zNb [t92,t93] H88 fun t94 H91=>
opP (zha t90 t94 (.bool false)) fun t95=>
wIf t95 (
opP ((zma P .eql 30 true).f t69 (.int .i64 0)) fun t98=>
opP (zha t95 t98 (.bool false)) fun t99=>
wIf t99 (
opW (lenSl t33 H91) fun t103 H96=>
opP ((zma P .eql 3 false).f t68 t103) fun t104=>
opP (zha t99 t104 (.bool false)) fun t105=>
wIf t105 (
opW (zja 37 t13 H96) fun t107 H100=>
opW (zja 37 (nth l 2) H100) fun t108 H102=>
wCall P zNb [t107,t108] H102 fun t109 H104=>
opP (zha t105 t109 (.bool false)) fun t110=>
wIf t110 (
opP ((zma P .eql 30 true).f t84 (.int .i64 141)) fun t113=>
opP (zha t110 t113 (.bool false)) fun t114=>
wIf t114 (
opW (lenSl t33 H104) fun t117 H109=>
opP ((zma P .leq 3 true).f t117 (.int .i64 2228)) fun t118=>
opP (zha t114 t118 (.bool false)) fun t119=>
K t119 H109) (
opP (zha t114 undef (.bool false)) fun t119_1=>
K t119_1 H104)) (
opP (zha t110 undef (.bool false)) fun t114_1=>
opP (zha t114_1 undef (.bool false)) fun t119_2=>
K t119_2 H104)) (
opP (zha t105 undef (.bool false)) fun t110_1=>
opP (zha t110_1 undef (.bool false)) fun t114_2=>
opP (zha t114_2 undef (.bool false)) fun t119_3=>
K t119_3 H96)) (
opP (zha t99 undef (.bool false)) fun t105_1=>
opP (zha t105_1 undef (.bool false)) fun t110_2=>
opP (zha t110_2 undef (.bool false)) fun t114_3=>
opP (zha t114_3 undef (.bool false)) fun t119_4=>
K t119_4 H91)) (
opP (zha t95 undef (.bool false)) fun t99_1=>
opP (zha t99_1 undef (.bool false)) fun t105_2=>
opP (zha t105_2 undef (.bool false)) fun t110_3=>
opP (zha t110_3 undef (.bool false)) fun t114_4=>
opP (zha t114_4 undef (.bool false)) fun t119_5=>
K t119_5 H91)) (
opP (zha t90 undef (.bool false)) fun t95_1=>
opP (zha t95_1 undef (.bool false)) fun t99_2=>
opP (zha t99_2 undef (.bool false)) fun t105_3=>
opP (zha t105_3 undef (.bool false)) fun t110_4=>
opP (zha t110_4 undef (.bool false)) fun t114_5=>
opP (zha t114_5 undef (.bool false)) fun t119_6=>
K t119_6 H83)) (
opP (zha t86 undef (.bool false)) fun t90_1=>
opP (zha t90_1 undef (.bool false)) fun t95_2=>
opP (zha t95_2 undef (.bool false)) fun t99_3=>
opP (zha t99_3 undef (.bool false)) fun t105_4=>
opP (zha t105_4 undef (.bool false)) fun t110_5=>
opP (zha t110_5 undef (.bool false)) fun t114_6=>
opP (zha t114_6 undef (.bool false)) fun t119_7=>
K t119_7 H83))))
theorem zFj{t0 t1 t2:Value}{H:Heap}{K:VH}(h:zsh t0 t1 t2 H K):wCall P zQf [t0,t1,t2] H K:=zca rfl (Eq.mpr (by kernel_rfl) h)
def zyi(t0 t1:Value)(H:Heap)(K:VH):Prop:=
wCall P zFb [] H fun t10 H1=>
opP (unA .not t10) fun t11=>
wIf t11 (
K (.bool false) H1) (
zQb (fun J=>
opW (lenSl t0 H1) fun t13 H5=>
opP ((zma P .gtr 3 true).f t13 (.int .i64 200)) fun t14=>
wIf t14 (
opP (zha t14 (.bool true) undef) fun t19=>
wIf t19 (
K (.bool true) H5) (
J [t0,t1] H5)) (
opW (lenSl t1 H5) fun t17 H9=>
opP ((zma P .gtr 3 true).f t17 (.int .i64 3000)) fun t18=>
opP (zha t14 (.bool true) t18) fun t19_1=>
wIf t19_1 (
K (.bool true) H9) (
J [t0,t1] H9))) (fun l H13=>
wCall P zlc [(nth l 0),(nth l 1)] H13 fun t23 H15=>
opP (zmd 0 t23) fun t24=>
opP (zmd 1 t23) fun t25=>
opP (zmd 2 t23) fun t26=>
zZb (zc P 29) H15 fun t5 H20=>
opW (zka 37 t5 t24 H20) fun u H22=>
opP ((zma P .neq 30 true).f t26 (.int .i64 0)) fun t28=>
wIf t28 (
opP ((zma P .eql 3 true).f t25 (.int .i64 0)) fun t30=>
wIf t30 (
opW (zja 37 t5 H22) fun t32 H26=>
opP ((zbb P 29).f []) fun t33=>
wCall P zNb [t32,t33] H26 fun t34 H29=>
opP (zha t30 t34 (.bool false)) fun t35=>
wIf t35 (
opP ((zma P .eql 30 true).f t26 (.int .i64 141)) fun t38=>
wIf t38 (
opP (zha t38 (.bool true) undef) fun t42=>
opP (zha t42 (.bool true) undef) fun t46=>
opP (zha t35 t46 (.bool false)) fun t47=>
K t47 H29) (
opP ((zma P .eql 30 true).f t26 (.int .i64 142)) fun t41=>
opP (zha t38 (.bool true) t41) fun t42_1=>
wIf t42_1 (
opP (zha t42_1 (.bool true) undef) fun t46_1=>
opP (zha t35 t46_1 (.bool false)) fun t47_1=>
K t47_1 H29) (
opP ((zma P .eql 30 true).f t26 (.int .i64 131)) fun t45=>
opP (zha t42_1 (.bool true) t45) fun t46_2=>
opP (zha t35 t46_2 (.bool false)) fun t47_2=>
K t47_2 H29))) (
opP (zha t35 undef (.bool false)) fun t47_3=>
K t47_3 H29)) (
opP (zha t30 undef (.bool false)) fun t35_1=>
opP (zha t35_1 undef (.bool false)) fun t47_4=>
K t47_4 H22)) (
opW (zja 37 t5 H22) fun t50 H46=>
wCall P zpf [(nth l 0),t50] H46 fun t51 H48=>
opP (zmd 0 t51) fun t52=>
opP (zmd 1 t51) fun t53=>
opP ((zma P .eql 3 true).f t53 (.int .i64 0)) fun t55=>
wIf t55 (
opW (lenSl t52 H48) fun t59 H53=>
opP ((zma P .eql 3 false).f t25 t59) fun t60=>
opP (zha t55 t60 (.bool false)) fun t61=>
wIf t61 (
opW (lenSl (nth l 1) H53) fun t65 H57=>
opP ((zma P .leq 3 false).f t25 t65) fun t66=>
opP (zha t61 t66 (.bool false)) fun t67=>
wIf t67 (
opP (zLa 1 (nth l 1) none (some t25) none) fun t71=>
opW (zFa t71 H57) fun t72 H62=>
opW (zFa t52 H62) fun t74 H64=>
opP ((zma P .eql 9 false).f t72 t74) fun t75=>
opP (zha t67 t75 (.bool false)) fun t76=>
K t76 H64) (
opP (zha t67 undef (.bool false)) fun t76_1=>
K t76_1 H57)) (
opP (zha t61 undef (.bool false)) fun t67_1=>
opP (zha t67_1 undef (.bool false)) fun t76_2=>
K t76_2 H53)) (
opP (zha t55 undef (.bool false)) fun t61_1=>
opP (zha t61_1 undef (.bool false)) fun t67_2=>
opP (zha t67_2 undef (.bool false)) fun t76_3=>
K t76_3 H48))))
theorem zNk{t0 t1:Value}{H:Heap}{K:VH}(h:zyi t0 t1 H K):wCall P zNg [t0,t1] H K:=zca rfl (Eq.mpr (by kernel_rfl) h)
def zth(t0 t1 t2:Value)(H:Heap)(K:VH):Prop:=
zZb (zCa t1) H fun t4 H1=>
wCall P zFb [] H1 fun t18 H3=>
opP (unA .not t18) fun t19=>
wIf t19 (
K (.bool false) H3) (
zQb (fun J=>
opW (zja 37 t4 H3) fun t20 H7=>
wCall P zHe [t20] H7 fun t21 H9=>
wIf t21 (
opP (zha t21 (.bool true) undef) fun t26=>
opP (zha t26 (.bool true) undef) fun t31=>
wIf t31 (
K (.bool true) H9) (
J [t0,t2,t4] H9)) (
opW (lenSl t0 H9) fun t24 H13=>
opP ((zma P .gtr 3 true).f t24 (.int .i64 200)) fun t25=>
opP (zha t21 (.bool true) t25) fun t26_1=>
wIf t26_1 (
opP (zha t26_1 (.bool true) undef) fun t31_1=>
wIf t31_1 (
K (.bool true) H13) (
J [t0,t2,t4] H13)) (
opW (lenSl t2 H13) fun t29 H18=>
opP ((zma P .gtr 3 true).f t29 (.int .i64 500)) fun t30=>
opP (zha t26_1 (.bool true) t30) fun t31_2=>
wIf t31_2 (
K (.bool true) H18) (
J [t0,t2,t4] H18)))) (fun l H22=>
opW (zja 37 (nth l 2) H22) fun t34 H24=>
wCall P zTd [(nth l 0),t34] H24 fun t35 H26=>
opP (zmd 0 t35) fun t36=>
opP (zmd 1 t35) fun t37=>
opW (zja 37 (nth l 2) H26) fun t40 H30=>
wCall P zpf [(nth l 0),t40] H30 fun t41 H32=>
opP (zmd 0 t41) fun t42=>
opP (zmd 1 t41) fun t43=>
opW (zja 37 (nth l 2) H32) fun t46 H36=>
wCall P ztg [(nth l 0),t46,(nth l 1)] H36 fun t48 H38=>
opP (zmd 0 t48) fun t49=>
opP (zmd 1 t48) fun t50=>
zQb (fun J_1=>
opW (zFa t36 H38) fun t52 H43=>
opW (zFa t42 H43) fun t54 H45=>
opP ((zma P .neq 9 false).f t52 t54) fun t55=>
wIf t55 (
opP (zha t55 (.bool true) undef) fun t60=>
opP (zha t60 (.bool true) undef) fun t65=>
wIf t65 (
K (.bool false) H45) (
J_1 [(nth l 0),(nth l 1),(nth l 2),t36,t37,t42,t49] H45)) (
opP ((zma P .neq 3 false).f t37 t43) fun t59=>
opP (zha t55 (.bool true) t59) fun t60_1=>
wIf t60_1 (
opP (zha t60_1 (.bool true) undef) fun t65_1=>
wIf t65_1 (
K (.bool false) H45) (
J_1 [(nth l 0),(nth l 1),(nth l 2),t36,t37,t42,t49] H45)) (
opP ((zma P .neq 3 false).f t50 t43) fun t64=>
opP (zha t60_1 (.bool true) t64) fun t65_2=>
wIf t65_2 (
K (.bool false) H45) (
J_1 [(nth l 0),(nth l 1),(nth l 2),t36,t37,t42,t49] H45)))) (fun l_1 H55=>
opP ((zma P .neq 30 true).f (nth l_1 4) (.int .i64 0)) fun t67=>
wIf t67 (
opW (lenSl (nth l_1 6) H55) fun t69 H58=>
opP ((zma P .eql 3 true).f t69 (.int .i64 0)) fun t70=>
K t70 H58) (
wCall P zlc [(nth l_1 0),(nth l_1 6)] H55 fun t74 H61=>
opP (zmd 0 t74) fun t75=>
opP (zmd 1 t74) fun t76=>
opP (zmd 2 t74) fun t77=>
zZb (zc P 29) H61 fun t13 H66=>
opW (zka 37 t13 t75 H66) fun u H68=>
wCall P zxd [(nth l_1 6)] H68 fun t80 H70=>
opP (zmd 0 t80) fun t81=>
opP (zmd 1 t80) fun t82=>
opW (zFa (nth l_1 6) H70) fun t84 H74=>
opW (zFa (nth l_1 5) H74) fun t86 H76=>
opW (zFa (nth l_1 1) H76) fun t88 H78=>
opP ((zma P .add 9 false).f t86 t88) fun t89=>
opP ((zma P .eql 9 false).f t84 t89) fun t90=>
wIf t90 (
opP ((zma P .eql 30 true).f t77 (.int .i64 0)) fun t93=>
opP (zha t90 t93 (.bool false)) fun t94=>
wIf t94 (
opW (lenSl (nth l_1 3) H78) fun t98 H84=>
opP ((zma P .eql 3 false).f t76 t98) fun t99=>
opP (zha t94 t99 (.bool false)) fun t100=>
wIf t100 (
opW (zja 37 t13 H84) fun t102 H88=>
opW (zja 37 (nth l_1 2) H88) fun t103 H90=>
wCall P zNb [t102,t103] H90 fun t104 H92=>
opP (zha t100 t104 (.bool false)) fun t105=>
wIf t105 (
opP ((zma P .eql 3 false).f t81 t76) fun t109=>
opP (zha t105 t109 (.bool false)) fun t110=>
wIf t110 (
opP ((zma P .eql 30 true).f t82 (.int .i64 0)) fun t113=>
opP (zha t110 t113 (.bool false)) fun t114=>
K t114 H92) (
opP (zha t110 undef (.bool false)) fun t114_1=>
K t114_1 H92)) (
opP (zha t105 undef (.bool false)) fun t110_1=>
opP (zha t110_1 undef (.bool false)) fun t114_2=>
K t114_2 H92)) (
opP (zha t100 undef (.bool false)) fun t105_1=>
opP (zha t105_1 undef (.bool false)) fun t110_2=>
opP (zha t110_2 undef (.bool false)) fun t114_3=>
K t114_3 H84)) (
opP (zha t94 undef (.bool false)) fun t100_1=>
opP (zha t100_1 undef (.bool false)) fun t105_2=>
opP (zha t105_2 undef (.bool false)) fun t110_3=>
opP (zha t110_3 undef (.bool false)) fun t114_4=>
K t114_4 H78)) (
opP (zha t90 undef (.bool false)) fun t94_1=>
opP (zha t94_1 undef (.bool false)) fun t100_2=>
opP (zha t100_2 undef (.bool false)) fun t105_3=>
opP (zha t105_3 undef (.bool false)) fun t110_4=>
opP (zha t110_4 undef (.bool false)) fun t114_5=>
K t114_5 H78)))))
theorem zGj{t0 t1 t2:Value}{H:Heap}{K:VH}(h:zth t0 t1 t2 H K):wCall P zRf [t0,t1,t2] H K:=zca rfl (Eq.mpr (by kernel_rfl) h)
def zuh(H:Heap)(K:VH):Prop:=
opW ((zga P 22 3).f [(0,(.int .u8 107)),(1,(.int .u8 101)),(2,(.int .u8 121))] H) fun t7 H1=>
opW (zbh t7 H1) fun t8 H3=>
wCall P zIe [] H3 fun t9 H5=>
wCall P zTd [t8,t9] H5 fun t10 H7=>
opP (zmd 0 t10) fun t11=>
opP (zmd 1 t10) fun t12=>
opW ((zga P 22 3).f [(0,(.int .u8 107)),(1,(.int .u8 101)),(2,(.int .u8 121))] H7) fun t14 H11=>
opW (zbh t14 H11) fun t15 H13=>
wCall P zlc [t15,t11] H13 fun t17 H15=>
opP (zmd 0 t17) fun t18=>
opP (zmd 1 t17) fun t19=>
opP (zmd 2 t17) fun t20=>
zZb (zc P 29) H15 fun t3 H20=>
opW (zka 37 t3 t18 H20) fun u H22=>
opP ((zma P .eql 30 true).f t12 (.int .i64 0)) fun t22=>
wIf t22 (
opP ((zma P .eql 30 true).f t20 (.int .i64 0)) fun t25=>
opP (zha t22 t25 (.bool false)) fun t26=>
wIf t26 (
opW (lenSl t11 H22) fun t29 H27=>
opP ((zma P .eql 3 true).f t29 (.int .i64 153)) fun t30=>
opP (zha t26 t30 (.bool false)) fun t31=>
wIf t31 (
opP ((zma P .eql 3 true).f t19 (.int .i64 153)) fun t34=>
opP (zha t31 t34 (.bool false)) fun t35=>
wIf t35 (
opW (zja 37 t3 H27) fun t37 H33=>
wCall P zIe [] H33 fun t38 H35=>
zgb (zcb H33 H35) (zDa [t3])∧(wCall P zNb [t37,t38] H35 fun t39 H37=>
opP (zha t35 t39 (.bool false)) fun t40=>
K t40 H37)) (
opP (zha t35 undef (.bool false)) fun t40_1=>
K t40_1 H27)) (
opP (zha t31 undef (.bool false)) fun t35_1=>
opP (zha t35_1 undef (.bool false)) fun t40_2=>
K t40_2 H27)) (
opP (zha t26 undef (.bool false)) fun t31_1=>
opP (zha t31_1 undef (.bool false)) fun t35_2=>
opP (zha t35_2 undef (.bool false)) fun t40_3=>
K t40_3 H22)) (
opP (zha t22 undef (.bool false)) fun t26_1=>
opP (zha t26_1 undef (.bool false)) fun t31_2=>
opP (zha t31_2 undef (.bool false)) fun t35_3=>
opP (zha t35_3 undef (.bool false)) fun t40_4=>
K t40_4 H22)
theorem zHj{H:Heap}{K:VH}(h:zuh  H K):wCall P zFb [] H K:=zca rfl (Eq.mpr (by kernel_rfl) h)
def zur(t0 t1:Value)(H:Heap)(K:VH):Prop:=
zZb (zc P 29) H fun t4 H1=>
wCall P zxd [t1] H1 fun t15 H3=>
opP (zmd 0 t15) fun t16=>
opP (zmd 1 t15) fun t17=>
zQb (fun J=>
opP ((zma P .neq 30 true).f t17 (.int .i64 0)) fun t19=>
wIf t19 (
opP (zha t19 (.bool true) undef) fun t25=>
J [t0,t1,t4,t16,t25] H3) (
opW (lenSl t1 H3) fun t22 H10=>
opP ((zma P .lss 3 false).f t22 t16) fun t24=>
opP (zha t19 (.bool true) t24) fun t25_1=>
J [t0,t1,t4,t16,t25_1] H10)) (fun l H14=>
wIf (nth l 4) (
opP ((zbb P 29).f []) fun t26=>
opW (zka 37 (nth l 2) t26 H14) fun u H17=>
opW (zja 37 (nth l 2) H17) fun r _=>
K (.tuple [r,(.int .i64 0),(.int .i64 141)].toArray) H17) (
opP ((zma P .sub 3 true).f (nth l 3) (.int .i64 32)) fun t29=>
opP (zLa 1 (nth l 1) none (some t29) none) fun t30=>
opP ((zma P .sub 3 true).f (nth l 3) (.int .i64 32)) fun t33=>
opP (zLa 1 (nth l 1) (some t33) (some (nth l 3)) none) fun t35=>
zZb (zc P 26) H14 fun t11 H24=>
opP (zdb 32 1 t11 none none none H24) fun t36=>
opW (zJg 1 t36 t35 H24) fun t38 H27=>
opW ((zga P 74 1).f [(0,t30)] H27) fun t41 H29=>
wCall P zoh [(nth l 0),t41] H29 fun t42 H31=>
opW (zja 32 t11 H31) fun t43 H33=>
zgb (zcb H29 H31) (zDa [t11])∧(zGq (zDa [t11]) H27.next H29.next∧(wCall P zug [t42,t43] H33 fun t44 H35=>
opP (unA .not t44) fun t45=>
wIf t45 (
opP ((zbb P 29).f []) fun t46=>
opW (zka 37 (nth l 2) t46 H35) fun u_1 H39=>
opW (zja 37 (nth l 2) H39) fun r_1 _=>
K (.tuple [r_1,(.int .i64 0),(.int .i64 142)].toArray) H39) (
opP (zLa 1 t30 (some (.int .i64 4)) none none) fun t49=>
wCall P zZc [t49] H35 fun t50 H43=>
opP (zmd 0 t50) fun t51=>
opP (zmd 1 t50) fun t52=>
zZb (zc P 29) H43 fun t12 H47=>
opW (zka 37 t12 t51 H47) fun u_2 H49=>
opP ((zma P .neq 30 true).f t52 (.int .i64 0)) fun t54=>
wIf t54 (
opP ((zbb P 29).f []) fun t55=>
opW (zka 37 (nth l 2) t55 H49) fun u_3 H53=>
opW (zja 37 (nth l 2) H53) fun r_2 _=>
K (.tuple [r_2,(.int .i64 0),t52].toArray) H53) (
opW (zja 37 t12 H49) fun t57 H56=>
opW (zka 37 (nth l 2) t57 H56) fun u_4 H58=>
opW (zja 37 (nth l 2) H58) fun r_3 _=>
K (.tuple [r_3,(nth l 3),(.int .i64 0)].toArray) H58))))))
theorem zvr{t0 t1:Value}{H:Heap}{K:VH}(h:zur t0 t1 H K):wCall P zlc [t0,t1] H K:=zca rfl (Eq.mpr (by kernel_rfl) h)
def zap(t0 t1:Value)(H:Heap)(K:VH):Prop:=
zZb (zc P 29) H fun t4 H1=>
wCall P zde [t1] H1 fun t12 H3=>
opP (zmd 0 t12) fun t13=>
opP (zmd 1 t12) fun t14=>
zQb (fun J=>
opP ((zma P .neq 3 true).f t14 (.int .i64 0)) fun t16=>
wIf t16 (
opP (zha t16 (.bool true) undef) fun t22=>
J [t0,t1,t4,t13,t22] H3) (
opW (lenSl t1 H3) fun t20 H10=>
opP ((zma P .gtr 3 false).f t13 t20) fun t21=>
opP (zha t16 (.bool true) t21) fun t22_1=>
J [t0,t1,t4,t13,t22_1] H10)) (fun l H14=>
wIf (nth l 4) (
opP ((zbb P 29).f []) fun t23=>
opW (zka 37 (nth l 2) t23 H14) fun u H17=>
opW (zja 37 (nth l 2) H17) fun r _=>
K (.tuple [r,(.int .i64 0),(.int .i64 141)].toArray) H17) (
opP ((zma P .sub 3 true).f (nth l 3) (.int .i64 32)) fun t27=>
opP (zLa 1 (nth l 1) none (some t27) none) fun t28=>
wCall P zee [(nth l 0),t28] H14 fun t29 H22=>
opW (zFa t29 H22) fun t30 H24=>
opP (zLa 1 (nth l 1) none (some (nth l 3)) none) fun t33=>
opW (zFa t33 H24) fun t34 H27=>
zgb (zcb H14 H22) (zDa [t33])∧(opP ((zma P .neq 9 false).f t30 t34) fun t35=>
wIf t35 (
opP ((zbb P 29).f []) fun t36=>
opW (zka 37 (nth l 2) t36 H27) fun u_1 H31=>
opW (zja 37 (nth l 2) H31) fun r_1 _=>
K (.tuple [r_1,(.int .i64 0),(.int .i64 142)].toArray) H31) (
opP ((zma P .sub 3 true).f (nth l 3) (.int .i64 32)) fun t40=>
opP (zLa 1 (nth l 1) (some (.int .i64 4)) (some t40) none) fun t41=>
wCall P zJe [t41] H27 fun t42 H36=>
opP (zmd 0 t42) fun t43=>
opP (zmd 1 t42) fun t44=>
zZb (zc P 29) H36 fun t9 H40=>
opW (zka 37 t9 t43 H40) fun u_2 H42=>
opP ((zma P .neq 3 true).f t44 (.int .i64 0)) fun t46=>
wIf t46 (
opP ((zbb P 29).f []) fun t47=>
opW (zka 37 (nth l 2) t47 H42) fun u_3 H46=>
opW (zja 37 (nth l 2) H46) fun r_2 _=>
K (.tuple [r_2,(.int .i64 0),t44].toArray) H46) (
opW (zja 37 t9 H42) fun t49 H49=>
opW (zka 37 (nth l 2) t49 H49) fun u_4 H51=>
opW (zja 37 (nth l 2) H51) fun r_3 _=>
K (.tuple [r_3,(nth l 3),(.int .i64 0)].toArray) H51)))))
theorem zhq{t0 t1:Value}{H:Heap}{K:VH}(h:zap t0 t1 H K):wCall P znh [t0,t1] H K:=zca rfl (Eq.mpr (by kernel_rfl) h)
def zln(t0:Value)(H:Heap)(K:VH):Prop:=
zQb (fun J=>
opW (lenSl t0 H) fun t6 H2=>
opP ((zma P .lss 3 true).f t6 (.int .i64 4)) fun t7=>
wIf t7 (
opP (zha t7 (.bool true) undef) fun t14=>
J [t0,t14] H2) (
opW ((zga P 22 2).f [(0,(.int .u8 66)),(1,(.int .u8 85))] H2) fun t10 H6=>
opW (zbh t10 H6) fun t11 H8=>
wCall P zUd [t0,t11] H8 fun t12 H10=>
opP (unA .not t12) fun t13=>
opP (zha t7 (.bool true) t13) fun t14_1=>
J [t0,t14_1] H10)) (fun l H14=>
wIf (nth l 1) (
K (.tuple [(.int .i64 0),(.int .i64 141)].toArray) H14) (
opP (zLa 1 (nth l 0) (some (.int .i64 2)) (some (.int .i64 4)) none) fun t16=>
wCall P zei [t16] H14 fun t17 H17=>
wCall P zTa [t17,(.int .i64 2)] H17 fun t18 H19=>
opW (zLb .i64 t18 H19) fun t19 H21=>
opP ((zma P .add 3 true).f t19 (.int .i64 36)) fun t20=>
opP ((zma P .gtr 3 true).f t20 (.int .i64 2304)) fun t22=>
wIf t22 (
K (.tuple [(.int .i64 0),(.int .i64 141)].toArray) H21) (
K (.tuple [t20,(.int .i64 0)].toArray) H21)))
theorem zoo{t0:Value}{H:Heap}{K:VH}(h:zln t0 H K):wCall P zxd [t0] H K:=zca rfl (Eq.mpr (by kernel_rfl) h)
def zsl(t0:Value)(H:Heap)(K:VH):Prop:=
opW (lenSl t0 H) fun t6 H1=>
opP ((zma P .lss 3 true).f t6 (.int .i64 4)) fun t7=>
wIf t7 (
K (.tuple [(.int .i64 0),(.int .i64 141)].toArray) H1) (
zQb (fun J=>
opP (zfd 1 t0 (.int .i64 0)) fun t9=>
opW (zba t9 H1) fun t10 H6=>
opP ((zma P .neq 5 true).f t10 (.int .u8 66)) fun t11=>
wIf t11 (
opP (zha t11 (.bool true) undef) fun t17=>
J [t0,t17] H6) (
opP (zfd 1 t0 (.int .i64 1)) fun t14=>
opW (zba t14 H6) fun t15 H11=>
opP ((zma P .neq 5 true).f t15 (.int .u8 85)) fun t16=>
opP (zha t11 (.bool true) t16) fun t17_1=>
J [t0,t17_1] H11)) (fun l H15=>
wIf (nth l 1) (
K (.tuple [(.int .i64 0),(.int .i64 141)].toArray) H15) (
opP (zfd 1 (nth l 0) (.int .i64 2)) fun t19=>
opW (zba t19 H15) fun t20 H18=>
opW (zLb .i64 t20 H18) fun t21 H20=>
opP ((zma P .add 3 true).f (.int .i64 36) t21) fun t22=>
opP (zfd 1 (nth l 0) (.int .i64 3)) fun t24=>
opW (zba t24 H20) fun t25 H24=>
opW (zLb .i64 t25 H24) fun t26 H26=>
opP ((zma P .mul 3 true).f (.int .i64 256) t26) fun t27=>
opP ((zma P .add 3 false).f t22 t27) fun t28=>
opP ((zma P .gtr 3 true).f t28 (.int .i64 2304)) fun t30=>
wIf t30 (
K (.tuple [(.int .i64 0),(.int .i64 141)].toArray) H26) (
K (.tuple [t28,(.int .i64 0)].toArray) H26))))
theorem zmn{t0:Value}{H:Heap}{K:VH}(h:zsl t0 H K):wCall P zde [t0] H K:=zca rfl (Eq.mpr (by kernel_rfl) h)
noncomputable abbrev zIj:Code:=zrb P zNb 0
def zJj(l:List Value)(H:Heap)(N:LN)(Qx:LX)(Qr:LN):Prop:=
opP ((zma P .lss 3 false).f (nth l 4) (nth l 3)) fun t52=>
wIf t52 (
opP (zqa 36 (nth l 0)) fun t54=>
opW (zba t54 H) fun t55 H3=>
opP (zfd 32 t55 (nth l 4)) fun t57=>
opW (zja 32 t57 H3) fun t58 H6=>
opP (zqa 36 (nth l 1)) fun t59=>
opW (zba t59 H6) fun t60 H9=>
opP (zfd 32 t60 (nth l 4)) fun t62=>
opW (zja 32 t62 H9) fun t63 H12=>
opP ((zma P .neq 26 false).f t58 t63) fun t64=>
wIf t64 (
Qr [(.bool false)] H12) (
opP ((zma P .add 3 true).f (nth l 4) (.int .i64 1)) fun t65=>
N [(nth l 0),(nth l 1),(nth l 2),(nth l 3),t65] H12)) (
Qx 0 [(nth l 2)] H)
theorem zOk:LpI P 66 zIj 16 zJj:=.mk (by kernel_rfl) fun l H N Qx Qr=>by kernel_rfl
def zbp(t0 t1:Value)(H:Heap)(K:VH):Prop:=
zZb (zCa t0) H fun t2 H1=>
zZb (zCa t1) H1 fun t3 H3=>
zQb (fun J=>
opP (zqa 0 t2) fun t6=>
opW (zba t6 H3) fun t7 H7=>
opP (zqa 0 t3) fun t8=>
opW (zba t8 H7) fun t9 H10=>
opP ((zma P .neq 9 false).f t7 t9) fun t10=>
wIf t10 (
opP (zha t10 (.bool true) undef) fun t17=>
opP (zha t17 (.bool true) undef) fun t24=>
opP (zha t24 (.bool true) undef) fun t31=>
opP (zha t31 (.bool true) undef) fun t38=>
opP (zha t38 (.bool true) undef) fun t47=>
wIf t47 (
K (.bool false) H10) (
J [t2,t3,(.bool false)] H10)) (
opP (zqa 1 t2) fun t12=>
opW (zba t12 H10) fun t13 H19=>
opP (zqa 1 t3) fun t14=>
opW (zba t14 H19) fun t15 H22=>
opP ((zma P .neq 24 false).f t13 t15) fun t16=>
opP (zha t10 (.bool true) t16) fun t17_1=>
wIf t17_1 (
opP (zha t17_1 (.bool true) undef) fun t24_1=>
opP (zha t24_1 (.bool true) undef) fun t31_1=>
opP (zha t31_1 (.bool true) undef) fun t38_1=>
opP (zha t38_1 (.bool true) undef) fun t47_1=>
wIf t47_1 (
K (.bool false) H22) (
J [t2,t3,(.bool false)] H22)) (
opP (zqa 2 t2) fun t19=>
opW (zba t19 H22) fun t20 H31=>
opP (zqa 2 t3) fun t21=>
opW (zba t21 H31) fun t22 H34=>
opP ((zma P .neq 3 false).f t20 t22) fun t23=>
opP (zha t17_1 (.bool true) t23) fun t24_2=>
wIf t24_2 (
opP (zha t24_2 (.bool true) undef) fun t31_2=>
opP (zha t31_2 (.bool true) undef) fun t38_2=>
opP (zha t38_2 (.bool true) undef) fun t47_2=>
wIf t47_2 (
K (.bool false) H34) (
J [t2,t3,(.bool false)] H34)) (
opP (zqa 3 t2) fun t26=>
opW (zba t26 H34) fun t27 H42=>
opP (zqa 3 t3) fun t28=>
opW (zba t28 H42) fun t29 H45=>
opP ((zma P .neq 3 false).f t27 t29) fun t30=>
opP (zha t24_2 (.bool true) t30) fun t31_3=>
wIf t31_3 (
opP (zha t31_3 (.bool true) undef) fun t38_3=>
opP (zha t38_3 (.bool true) undef) fun t47_3=>
wIf t47_3 (
K (.bool false) H45) (
J [t2,t3,(.bool false)] H45)) (
opP (zqa 4 t2) fun t33=>
opW (zja 32 t33 H45) fun t34 H52=>
opP (zqa 4 t3) fun t35=>
opW (zja 32 t35 H52) fun t36 H55=>
opP ((zma P .neq 26 false).f t34 t36) fun t37=>
opP (zha t31_3 (.bool true) t37) fun t38_4=>
wIf t38_4 (
opP (zha t38_4 (.bool true) undef) fun t47_4=>
wIf t47_4 (
K (.bool false) H55) (
J [t2,t3,(.bool false)] H55)) (
opP (zqa 36 t2) fun t40=>
opW (zba t40 H55) fun t41 H61=>
opW (lenSl t41 H61) fun t42 H63=>
opP (zqa 36 t3) fun t43=>
opW (zba t43 H63) fun t44 H66=>
opW (lenSl t44 H66) fun t45 H68=>
opP ((zma P .neq 3 false).f t42 t45) fun t46=>
opP (zha t38_4 (.bool true) t46) fun t47_5=>
wIf t47_5 (
K (.bool false) H68) (
J [t2,t3,(.bool false)] H68))))))) (fun l H72=>
opP (zqa 36 (nth l 0)) fun t48=>
opW (zba t48 H72) fun t49 H75=>
opW (lenSl t49 H75) fun t50 H77=>
zob P true 66 zIj 16 [(nth l 0),(nth l 1),(nth l 2),t50,(.int .i64 0)] H77 (fun id l_1 H79=>
cond (Nat.beq id 0) (
K (.bool true) H79) (
False)) (fun l_1 H79=>
K (nth l_1 0) H79))
theorem ziq{t0 t1:Value}{H:Heap}{K:VH}(h:zbp t0 t1 H K):wCall P zNb [t0,t1] H K:=zca rfl (Eq.mpr (by kernel_rfl) h)
def znn(t0:Value)(H:Heap)(K:VH):Prop:=
zZb (zCa t0) H fun t1 H1=>
opP (zqa 0 t1) fun t3=>
opW (zba t3 H1) fun t4 H4=>
opW (zbn t4 H4) fun t5 H6=>
opP ((zma P .gtr 3 true).f t5 (.int .i64 300)) fun t6=>
wIf t6 (
opP (zha t6 (.bool true) undef) fun t12=>
K t12 H6) (
opP (zqa 36 t1) fun t8=>
opW (zba t8 H6) fun t9 H11=>
opW (lenSl t9 H11) fun t10 H13=>
opP ((zma P .gtr 3 true).f t10 (.int .i64 100)) fun t11=>
opP (zha t6 (.bool true) t11) fun t12_1=>
K t12_1 H13)
theorem zpo{t0:Value}{H:Heap}{K:VH}(h:znn t0 H K):wCall P zHe [t0] H K:=zca rfl (Eq.mpr (by kernel_rfl) h)
def zwr(t0 t1:Value)(H:Heap)(K:VH):Prop:=
zZb (zCa t1) H fun t3 H1=>
opW (zja 37 t3 H1) fun t9 H3=>
wCall P zad [t9] H3 fun t10 H5=>
opW (lenSl t10 H5) fun t12 H7=>
opP ((zma P .eql 3 true).f t12 (.int .i64 0)) fun t13=>
wIf t13 (
K (.tuple [(.slice none 0 0),(.int .i64 131)].toArray) H7) (
opW ((zga P 22 2).f [(0,(.int .u8 66)),(1,(.int .u8 85))] H7) fun t14 H10=>
opW (zbh t14 H10) fun t15 H12=>
opW (lenSl t10 H12) fun t17 H14=>
opW (zLb .u64 t17 H14) fun t18 H16=>
wCall P zCc [t15,t18,(.int .i64 2)] H16 fun t19 H18=>
opW ((zga P 74 1).f [(0,t10)] H18) fun t21 H20=>
wCall P zfi [t19,t21] H20 fun t22 H22=>
opW ((zga P 74 1).f [(0,t22)] H22) fun t25 H24=>
wCall P zoh [t0,t25] H24 fun t26 H26=>
zZb (zc P 26) H26 fun t8 H28=>
opW (zka 32 t8 t26 H28) fun u H30=>
opP (zdb 32 1 t8 none none none H30) fun t28=>
opW (zoa 1 1 t22 t28 H30) fun t29 H33=>
K (.tuple [t29,(.int .i64 0)].toArray) H33)
theorem zxr{t0 t1:Value}{H:Heap}{K:VH}(h:zwr t0 t1 H K):wCall P zTd [t0,t1] H K:=zca rfl (Eq.mpr (by kernel_rfl) h)
def zcp(t0 t1:Value)(H:Heap)(K:VH):Prop:=
zZb (zCa t1) H fun t3 H1=>
opW (zja 37 t3 H1) fun t7 H3=>
wCall P zKe [t7] H3 fun t8 H5=>
opP (unA .not t8) fun t9=>
wIf t9 (
K (.tuple [(.slice none 0 0),(.int .i64 131)].toArray) H5) (
opW (zja 37 t3 H5) fun t10 H8=>
wCall P zyd [t10] H8 fun t11 H10=>
opW ((zga P 22 2).f [(0,(.int .u8 66)),(1,(.int .u8 85))] H10) fun t13 H12=>
opW (zbh t13 H12) fun t14 H14=>
opW (lenSl t11 H14) fun t16 H16=>
opW (zLb .u64 t16 H16) fun t17 H18=>
wCall P zOb [t17,(.int .i64 2)] H18 fun t18 H20=>
opW (zoa 1 1 t14 t18 H20) fun t19 H22=>
opW (zoa 1 1 t19 t11 H22) fun t21 H24=>
wCall P zee [t0,t21] H24 fun t22 H26=>
K (.tuple [t22,(.int .i64 0)].toArray) H26)
theorem zjq{t0 t1:Value}{H:Heap}{K:VH}(h:zcp t0 t1 H K):wCall P zpf [t0,t1] H K:=zca rfl (Eq.mpr (by kernel_rfl) h)
def zon(t0 t1 t2:Value)(H:Heap)(K:VH):Prop:=
zZb (zCa t1) H fun t4 H1=>
opW (zja 37 t4 H1) fun t12 H3=>
wCall P zTd [t0,t12] H3 fun t13 H5=>
opP (zmd 0 t13) fun t14=>
opP (zmd 1 t13) fun t15=>
opP ((zma P .neq 30 true).f t15 (.int .i64 0)) fun t17=>
wIf t17 (
K (.tuple [(.slice none 0 0),t15].toArray) H5) (
opW ((zga P 74 1).f [(0,t2)] H5) fun t21 H10=>
wCall P zfi [t14,t21] H10 fun t22 H12=>
K (.tuple [t22,(.int .i64 0)].toArray) H12)
theorem zqo{t0 t1 t2:Value}{H:Heap}{K:VH}(h:zon t0 t1 t2 H K):wCall P ztg [t0,t1,t2] H K:=zca rfl (Eq.mpr (by kernel_rfl) h)
def zpn(H:Heap)(K:VH):Prop:=
zZb (zc P 29) H fun t0 H1=>
opW ((zld P 27).f (.int .i64 2) (.int .i64 2) H1) fun t1 H3=>
opP ((zbb P 29).f [(0,(.string ⟨#[98,111,111,116,49]⟩)),(1,(.int .u64 7)),(2,(.int .i64 65)),(3,(.int .i64 64)),(5,t1)]) fun t2=>
opW (zka 37 t0 t2 H3) fun u H6=>
opW (zja 37 t0 H6) fun r _=>
K r H6
theorem zro{H:Heap}{K:VH}(h:zpn  H K):wCall P zIe [] H K:=zca rfl (Eq.mpr (by kernel_rfl) h)
noncomputable abbrev ztl:Code:=zrb P zug 0
def zul(l:List Value)(H:Heap)(N:LN)(Qx:LX)(Qr:LN):Prop:=
opP ((zma P .lss 3 true).f (nth l 4) (.int .i64 32)) fun t8=>
wIf t8 (
opP (zza 32 1 (nth l 0) (nth l 4)) fun t12=>
opW (zba t12 H) fun t13 H3=>
opP (zza 32 1 (nth l 1) (nth l 4)) fun t15=>
opW (zba t15 H3) fun t16 H6=>
opP ((zma P .xor 5 false).f t13 t16) fun t17=>
opP ((zma P .or 5 false).f (nth l 3) t17) fun t18=>
opP ((zma P .add 3 true).f (nth l 4) (.int .i64 1)) fun t19=>
N [(nth l 0),(nth l 1),(nth l 2),t18,t19] H6) (
Qx 0 [(nth l 2),(nth l 3)] H)
theorem zQl:LpI P 22 ztl 48 zul:=.mk (by kernel_rfl) fun l H N Qx Qr=>by kernel_rfl
def zyr(t0 t1:Value)(H:Heap)(K:VH):Prop:=
zZb (zCa t0) H fun t2 H1=>
zZb (zCa t1) H1 fun t3 H3=>
zob P true 22 ztl 48 [t2,t3,(.bool false),(.int .u8 0),(.int .i64 0)] H3 (fun id l H5=>
cond (Nat.beq id 0) (
opP ((zma P .eql 5 true).f (nth l 1) (.int .u8 0)) fun t21=>
K t21 H5) (
False)) (fun l H5=>
K (nth l 0) H5)
theorem zzr{t0 t1:Value}{H:Heap}{K:VH}(h:zyr t0 t1 H K):wCall P zug [t0,t1] H K:=zca rfl (Eq.mpr (by kernel_rfl) h)
noncomputable abbrev zdp:Code:=zrb P zoh 0
def zep(l:List Value)(H:Heap)(N:LN)(Qx:LX)(Qr:LN):Prop:=
opP ((zma P .lss 3 false).f (nth l 5) (nth l 4)) fun t17=>
wIf t17 (
opP (zfd 1 (nth l 3) (nth l 5)) fun t18=>
opW (zba t18 H) fun t19 H3=>
wCall P zEa [(nth l 2),t19] H3 fun t22 H5=>
opP ((zma P .add 3 true).f (nth l 5) (.int .i64 1)) fun t23=>
N [(nth l 0),(nth l 1),(nth l 2),(nth l 3),(nth l 4),t23] H5) (
Qx 0 [(nth l 0),(nth l 1),(nth l 2)] H)
theorem zso:LpI P 31 zdp 49 zep:=.mk (by kernel_rfl) fun l H N Qx Qr=>by kernel_rfl
def zix(t0 t1:Value)(H:Heap)(K:VH):Prop:=
zZb (zc P 26) H fun t4 H1=>
wCall P zqf [] H1 fun t9 H3=>
wCall P zie [t0,(.int .u8 54)] H3 fun t12 H5=>
wCall P zEa [t9,t12] H5 fun t13 H7=>
opW (lenSl t1 H7) fun t15 H9=>
zob P true 31 zdp 49 [t0,t4,t9,t1,t15,(.int .i64 0)] H9 (fun id l H11=>
cond (Nat.beq id 0) (
wCall P zUa [(nth l 2)] H11 fun t25 H13=>
zZb (zc P 26) H13 fun t8 H15=>
opW (zka 32 t8 t25 H15) fun u H17=>
wCall P zie [(nth l 0),(.int .u8 92)] H17 fun t27 H19=>
opP (zdb 32 1 t8 none none none H19) fun t28=>
zgb (zcb H17 H19) (zDa [t8])∧(opW ((zga P 74 2).f [(0,t27),(1,t28)] H19) fun t29 H22=>
wCall P znd [t29] H22 fun t30 H24=>
opW (zka 32 (nth l 1) t30 H24) fun u_1 H26=>
opW (zja 32 (nth l 1) H26) fun r _=>
K r H26)) (
False)) (fun l H11=>
opW (zja 32 (nth l 1) H11) fun r_1 _=>
K r_1 H11)
theorem zcv{t0 t1:Value}{H:Heap}{K:VH}(h:zix t0 t1 H K):wCall P zoh [t0,t1] H K:=zca rfl (Eq.mpr (by kernel_rfl) h)
noncomputable abbrev zTf:Code:=zrb P zZc 0
def zUf(l:List Value)(H:Heap)(N:LN)(Qx:LX)(Qr:LN):Prop:=
opP ((zma P .lss 3 false).f (nth l 5) (nth l 4)) fun t29=>
wIf t29 (
opP (zqa 36 (nth l 3)) fun t30=>
opW (zba t30 H) fun t31 H3=>
wCall P zAd [(nth l 2)] H3 fun t33 H5=>
zgb (zcb H3 H5) (zDa [t30])∧(opW ((zga P 27 1).f [(0,t33)] H5) fun t34 H7=>
opW (zoa 32 32 t31 t34 H7) fun t35 H9=>
opP (zqa 36 (nth l 3)) fun t36=>
opW (zka 1 t36 t35 H9) fun u H12=>
opP ((zma P .add 3 true).f (nth l 5) (.int .i64 1)) fun t37=>
N [(nth l 0),(nth l 1),(nth l 2),(nth l 3),(nth l 4),t37] H12)) (
Qx 0 [(nth l 0),(nth l 1),(nth l 2),(nth l 3)] H)
theorem zvh:LpI P 48 zTf 60 zUf:=.mk (by kernel_rfl) fun l H N Qx Qr=>by kernel_rfl
def zzi(t0:Value)(H:Heap)(K:VH):Prop:=
zZb (zc P 29) H fun t2 H1=>
wCall P zei [t0] H1 fun t7 H3=>
wCall P zzd [t7,(.int .i64 96)] H3 fun t9 H5=>
wCall P zTa [t7,(.int .i64 8)] H5 fun t11 H7=>
wCall P zTa [t7,(.int .i64 4)] H7 fun t13 H9=>
opW (zLb .i64 t13 H9) fun t14 H11=>
wCall P zTa [t7,(.int .i64 2)] H11 fun t16 H13=>
opW (zLb .i64 t16 H13) fun t17 H15=>
opP ((zbb P 29).f [(0,t9),(1,t11),(2,t14),(3,t17)]) fun t18=>
zZb (zc P 29) H15 fun t5 H18=>
opW (zka 37 t5 t18 H18) fun u H20=>
wCall P zAd [t7] H20 fun t20 H22=>
opP (zqa 4 t5) fun t21=>
opW (zka 32 t21 t20 H22) fun u_1 H25=>
opP (zqa 2 t5) fun t22=>
opW (zba t22 H25) fun t23 H28=>
opP (zqa 3 t5) fun t24=>
opW (zba t24 H28) fun t25 H31=>
wCall P zcd [t23,t25] H31 fun t26 H33=>
opW (zqe H33 (zdA [t26,(.int .i64 65)])) fun t27 H35=>
zob P true 48 zTf 60 [t2,(.int .i64 0),t7,t5,t27,(.int .i64 0)] H35 (fun id l H37=>
cond (Nat.beq id 0) (
zQb (fun J=>
wCall P zVd [(nth l 2)] H37 fun t39 H40=>
opP ((zma P .neq 30 true).f t39 (.int .i64 0)) fun t40=>
wIf t40 (
opP (zha t40 (.bool true) undef) fun t45=>
J [(nth l 0),(nth l 3),t45] H40) (
opW (zja 37 (nth l 3) H40) fun t42 H44=>
wCall P zbd [t42] H44 fun t43 H46=>
opP (unA .not t43) fun t44=>
opP (zha t40 (.bool true) t44) fun t45_1=>
J [(nth l 0),(nth l 3),t45_1] H46)) (fun l_1 H50=>
wIf (nth l_1 2) (
opP ((zbb P 29).f []) fun t46=>
opW (zka 37 (nth l_1 0) t46 H50) fun u_2 H53=>
opW (zja 37 (nth l_1 0) H53) fun r _=>
K (.tuple [r,(.int .i64 131)].toArray) H53) (
opW (zja 37 (nth l_1 1) H50) fun t47 H56=>
opW (zka 37 (nth l_1 0) t47 H56) fun u_3 H58=>
opW (zja 37 (nth l_1 0) H58) fun r_1 _=>
K (.tuple [r_1,(.int .i64 0)].toArray) H58))) (
False)) (fun l H37=>
opW (zja 37 (nth l 0) H37) fun r_2 _=>
K (.tuple [r_2,(nth l 1)].toArray) H37)
theorem zPk{t0:Value}{H:Heap}{K:VH}(h:zzi t0 H K):wCall P zZc [t0] H K:=zca rfl (Eq.mpr (by kernel_rfl) h)
def zvl(t0 t1:Value)(H:Heap)(K:VH):Prop:=
wCall P zvg [t0,t1] H fun t8 H1=>
zZb (zc P 26) H1 fun t5 H3=>
opW (zka 32 t5 t8 H3) fun u H5=>
opW ((zga P 22 0).f [] H5) fun t9 H7=>
opW (zoa 1 1 t9 t1 H7) fun t11 H9=>
opP (zdb 32 1 t5 none none none H9) fun t12=>
zql (zDa [t9,t1]) (zDa [t5])∧zGq (zDa [t5]) H7.next H9.next∧(zGq (zDa [t5]) H5.next H7.next∧(opW (zoa 1 1 t11 t12 H9) fun t13 H12=>
K t13 H12))
theorem zqn{t0 t1:Value}{H:Heap}{K:VH}(h:zvl t0 t1 H K):wCall P zee [t0,t1] H K:=zca rfl (Eq.mpr (by kernel_rfl) h)
noncomputable abbrev zAi:Code:=zrb P zJe 0
def zBi(l:List Value)(H:Heap)(N:LN)(Qx:LX)(Qr:LN):Prop:=
zQb (fun J=>
opP (zta (nth l 3)) fun t27=>
opP (zqa 0 t27) fun t28=>
opW (zba t28 H) fun t29 H4=>
opW (lenSl t29 H4) fun t30 H6=>
opP ((zma P .gtr 3 true).f t30 (.int .i64 0)) fun t31=>
wIf t31 (
opP (zqa 36 (nth l 4)) fun t33=>
opW (zba t33 H6) fun t34 H10=>
opW (lenSl t34 H10) fun t35 H12=>
opP ((zma P .lss 3 true).f t35 (.int .i64 65)) fun t36=>
opP (zha t31 t36 (.bool false)) fun t37=>
wIf t37 (
J [(nth l 0),(nth l 1),(nth l 2),(nth l 3),(nth l 4)] H12) (
Qx 0 [(nth l 0),(nth l 1),(nth l 2),(nth l 3),(nth l 4)] H12)) (
opP (zha t31 undef (.bool false)) fun t37_1=>
wIf t37_1 (
J [(nth l 0),(nth l 1),(nth l 2),(nth l 3),(nth l 4)] H6) (
Qx 0 [(nth l 0),(nth l 1),(nth l 2),(nth l 3),(nth l 4)] H6))) (fun l_1 H17=>
opP (zqa 36 (nth l_1 4)) fun t38=>
opW (zba t38 H17) fun t39 H20=>
wCall P zje [(nth l_1 3)] H20 fun t41 H22=>
zgb (zcb H20 H22) (zDa [t38])∧(opW ((zga P 27 1).f [(0,t41)] H22) fun t42 H24=>
opW (zoa 32 32 t39 t42 H24) fun t43 H26=>
opP (zqa 36 (nth l_1 4)) fun t44=>
opW (zka 1 t44 t43 H26) fun u H29=>
N [(nth l_1 0),(nth l_1 1),(nth l_1 2),(nth l_1 3),(nth l_1 4)] H29))
theorem zKj:LpI P 65 zAi 61 zBi:=.mk (by kernel_rfl) fun l H N Qx Qr=>by kernel_rfl
def zrn(t0:Value)(H:Heap)(K:VH):Prop:=
zZb (zc P 29) H fun t2 H1=>
opP ((zbb P 88).f [(0,t0)]) fun t7=>
zZb (zCa t7) H1 fun t8 H4=>
wCall P zzf [t8,(.int .i64 65535)] H4 fun t10 H6=>
opP ((zbb P 29).f [(0,t10)]) fun t11=>
zZb (zc P 29) H6 fun t5 H9=>
opW (zka 37 t5 t11 H9) fun u H11=>
wCall P zIb [t8,(.int .i64 8)] H11 fun t13 H13=>
opP (zqa 1 t5) fun t14=>
opW (zka 1 t14 t13 H13) fun u_1 H16=>
wCall P zIb [t8,(.int .i64 4)] H16 fun t16 H18=>
opW (zLb .i64 t16 H18) fun t17 H20=>
opP (zqa 2 t5) fun t18=>
opW (zka 1 t18 t17 H20) fun u_2 H23=>
wCall P zIb [t8,(.int .i64 2)] H23 fun t20 H25=>
opW (zLb .i64 t20 H25) fun t21 H27=>
opP (zqa 3 t5) fun t22=>
opW (zka 1 t22 t21 H27) fun u_3 H30=>
wCall P zje [t8] H30 fun t24 H32=>
opP (zqa 4 t5) fun t25=>
opW (zka 32 t25 t24 H32) fun u_4 H35=>
zob P true 65 zAi 61 [t0,t2,(.int .i64 0),t8,t5] H35 (fun id l H37=>
cond (Nat.beq id 0) (
zQb (fun J=>
opP (zta (nth l 3)) fun t46=>
opP (zqa 1 t46) fun t47=>
opW (zba t47 H37) fun t48 H42=>
opP ((zma P .neq 3 true).f t48 (.int .i64 0)) fun t49=>
wIf t49 (
opP (zha t49 (.bool true) undef) fun t57=>
opP (zha t57 (.bool true) undef) fun t62=>
J [(nth l 1),(nth l 4),t62] H42) (
opW (zja 37 (nth l 4) H42) fun t51 H47=>
wCall P zyd [t51] H47 fun t52 H49=>
opW (zFa t52 H49) fun t53 H51=>
opW (zFa (nth l 0) H51) fun t55 H53=>
zgb (zcb H47 H49) (zDa [(nth l 0)])∧(opP ((zma P .neq 9 false).f t53 t55) fun t56=>
opP (zha t49 (.bool true) t56) fun t57_1=>
wIf t57_1 (
opP (zha t57_1 (.bool true) undef) fun t62_1=>
J [(nth l 1),(nth l 4),t62_1] H53) (
opW (lenSl (nth l 0) H53) fun t60 H58=>
opP ((zma P .eql 3 true).f t60 (.int .i64 0)) fun t61=>
opP (zha t57_1 (.bool true) t61) fun t62_2=>
J [(nth l 1),(nth l 4),t62_2] H58)))) (fun l_1 H62=>
wIf (nth l_1 2) (
opP ((zbb P 29).f []) fun t63=>
opW (zka 37 (nth l_1 0) t63 H62) fun u_5 H65=>
opW (zja 37 (nth l_1 0) H65) fun r _=>
K (.tuple [r,(.int .i64 131)].toArray) H65) (
opW (zja 37 (nth l_1 1) H62) fun t64 H68=>
opW (zka 37 (nth l_1 0) t64 H68) fun u_6 H70=>
opW (zja 37 (nth l_1 0) H70) fun r_1 _=>
K (.tuple [r_1,(.int .i64 0)].toArray) H70))) (
False)) (fun l H37=>
opW (zja 37 (nth l 1) H37) fun r_2 _=>
K (.tuple [r_2,(nth l 2)].toArray) H37)
theorem zto{t0:Value}{H:Heap}{K:VH}(h:zrn t0 H K):wCall P zJe [t0] H K:=zca rfl (Eq.mpr (by kernel_rfl) h)
def bytes_HasPrefix(t0 t1:Value)(H:Heap)(K:VH):Prop:=
opW (lenSl t0 H) fun t6 H1=>
opW (lenSl t1 H1) fun t8 H3=>
opP ((zma P .geq 3 false).f t6 t8) fun t9=>
wIf t9 (
opW (lenSl t1 H3) fun t13 H6=>
opP (zLa 1 t0 none (some t13) none) fun t14=>
wCall P zwg [t14,t1] H6 fun t16 H9=>
opP (zha t9 t16 (.bool false)) fun t17=>
K t17 H9) (
opP (zha t9 undef (.bool false)) fun t17_1=>
K t17_1 H3)
theorem zLj{t0 t1:Value}{H:Heap}{K:VH}(h:bytes_HasPrefix t0 t1 H K):wCall P zUd [t0,t1] H K:=zca rfl (Eq.mpr (by kernel_rfl) h)
def zZt(t0:Value)(H:Heap)(K:VH):Prop:=
opP ((zbb P 93).f [(0,t0)]) fun t4=>
zZb (zCa t4) H fun t5 H2=>
K t5 H2
theorem zSs{t0:Value}{H:Heap}{K:VH}(h:zZt t0 H K):wCall P zei [t0] H K:=zca rfl (Eq.mpr (by kernel_rfl) h)
noncomputable abbrev zkb:List Tmp × Code × Code:=rangeAt P zTa 0
def zye(vals args:List Value)(l:Nat)(H:Heap)(K:VH):Prop:=
zPt l H fun H0=>
opW (zba (nth vals 0) H0) fun t15 H2=>
opP ((zma P .shl 24 true).f t15 (.int .u64 8)) fun t16=>
opW (zLb .u64 (nth args 1) H2) fun t18 H5=>
opP ((zma P .or 24 false).f t16 t18) fun t19=>
opW (zka 1 (nth vals 0) t19 H5) fun u H8=>
zcC l .normal H8 K
theorem zBg(vals args:List Value)(l:Nat)(H:Heap)(K:VH):zJs P 21 zkb.1 zkb.2.1 zkb.2.2 vals args l H K=zye vals args l H K:=by kernel_rfl
def zVf(t0 t1:Value)(H:Heap)(K:VH):Prop:=
zZb (zc P 24) H fun t5 H1=>
opW (zka 1 t5 (.int .u64 0) H1) fun u H3=>
wCall P zLe [t1] H3 fun t10 H5=>
wCall P zwb [t0,t10] H5 fun t11 H7=>
wCall P zDc [t11] H7 fun t12 H9=>
zOt P 21 zkb.1 zkb.2.1 zkb.2.2 [t5,undef] t12 H9 (fun H10=>
opW (zba t5 H10) fun t20 H12=>
K t20 H12) (fun id H10=>
cond (Nat.beq id 0) (
opW (zba t5 H10) fun t20_1 H14=>
K t20_1 H14) (
False)) (fun H10=>
K (.int .u64 0) H10)
theorem zli{t0 t1:Value}{H:Heap}{K:VH}(h:zVf t0 t1 H K):wCall P zTa [t0,t1] H K:=zca rfl (Eq.mpr (by kernel_rfl) h)
noncomputable abbrev zWf:Code:=zrb P zad 0
def zXf(l:List Value)(H:Heap)(N:LN)(Qx:LX)(Qr:LN):Prop:=
opP ((zma P .lss 3 false).f (nth l 4) (nth l 3)) fun t33=>
wIf t33 (
opP (zfd 32 (nth l 2) (nth l 4)) fun t34=>
opW (zja 32 t34 H) fun t35 H3=>
zZb (zc P 26) H3 fun t5 H5=>
opW (zka 32 t5 t35 H5) fun u H7=>
opP (zdb 32 1 t5 none none none H7) fun t37=>
opW (zoa 1 1 (nth l 1) t37 H7) fun t38 H10=>
opP ((zma P .add 3 true).f (nth l 4) (.int .i64 1)) fun t39=>
N [(nth l 0),t38,(nth l 2),(nth l 3),t39] H10) (
Qx 0 [(nth l 0),(nth l 1)] H)
theorem zwh:LpI P 41 zWf 12 zXf:=.mk (by kernel_rfl) fun l H N Qx Qr=>by kernel_rfl
def zCi(t0:Value)(H:Heap)(K:VH):Prop:=
zZb (zCa t0) H fun t1 H1=>
opW (zja 37 t1 H1) fun t6 H3=>
wCall P zbd [t6] H3 fun t7 H5=>
opP (unA .not t7) fun t8=>
wIf t8 (
K (.slice none 0 0) H5) (
opP (zqa 0 t1) fun t9=>
opW (zba t9 H5) fun t10 H9=>
opW ((zga P 123 1).f [(0,t10)] H9) fun t11 H11=>
wCall P zxg [(.slice none 0 0),t11] H11 fun t12 H13=>
opP (zqa 1 t1) fun t13=>
opW (zba t13 H13) fun t14 H16=>
zgb (zcb H11 H13) (zDa [t13])∧(zGq (zDa [t13]) H9.next H11.next∧(wCall P zCc [t12,t14,(.int .i64 8)] H16 fun t15 H18=>
opP (zqa 2 t1) fun t17=>
opW (zba t17 H18) fun t18 H21=>
opW (zLb .u64 t18 H21) fun t19 H23=>
wCall P zCc [t15,t19,(.int .i64 4)] H23 fun t20 H25=>
opP (zqa 3 t1) fun t21=>
opW (zba t21 H25) fun t22 H28=>
zgb (zcb H23 H25) (zDa [t21])∧(opW (zLb .u64 t22 H28) fun t23 H30=>
wCall P zCc [t20,t23,(.int .i64 2)] H30 fun t24 H32=>
opP (zqa 4 t1) fun t26=>
opP (zdb 32 1 t26 none none none H32) fun t27=>
opW (zoa 1 1 t24 t27 H32) fun t28 H36=>
opP (zqa 36 t1) fun t29=>
opW (zba t29 H36) fun t30 H39=>
opW (lenSl t30 H39) fun t31 H41=>
zob P true 41 zWf 12 [(.slice none 0 0),t28,t30,t31,(.int .i64 0)] H41 (fun id l H43=>
cond (Nat.beq id 0) (
K (nth l 1) H43) (
False)) (fun l H43=>
K (nth l 0) H43)))))
theorem zQk{t0:Value}{H:Heap}{K:VH}(h:zCi t0 H K):wCall P zad [t0] H K:=zca rfl (Eq.mpr (by kernel_rfl) h)
def zau(t0 t1:Value)(H:Heap)(K:VH):Prop:=
wCall P zPa [t1] H fun t7 H1=>
opW ((zga P 74 2).f [(0,t0),(1,t7)] H1) fun t8 H3=>
wCall P zPa [t8] H3 fun t9 H5=>
K t9 H5
theorem zTs{t0 t1:Value}{H:Heap}{K:VH}(h:zau t0 t1 H K):wCall P zfi [t0,t1] H K:=zca rfl (Eq.mpr (by kernel_rfl) h)
noncomputable abbrev zMj:Code:=zrb P zCc 0
def zNj(l:List Value)(H:Heap)(N:LN)(Qx:LX)(Qr:LN):Prop:=
opP ((zma P .lss 3 false).f (nth l 4) (nth l 3)) fun t13=>
wIf t13 (
opW (zLb .u8 (nth l 0) H) fun t16 H2=>
opW ((zga P 22 1).f [(0,t16)] H2) fun t17 H4=>
opW (zoa 1 1 (nth l 2) t17 H4) fun t18 H6=>
opP ((zma P .shr 24 true).f (nth l 0) (.int .u64 8)) fun t20=>
opP ((zma P .add 3 true).f (nth l 4) (.int .i64 1)) fun t21=>
N [t20,(nth l 1),t18,(nth l 3),t21] H6) (
Qx 0 [(nth l 1),(nth l 2)] H)
theorem zRk:LpI P 23 zMj 192 zNj:=.mk (by kernel_rfl) fun l H N Qx Qr=>by kernel_rfl
def zfp(t0 t1 t2:Value)(H:Heap)(K:VH):Prop:=
wCall P zjb [t0] H fun t9 H1=>
wCall P zLe [t2] H1 fun t11 H3=>
zob P true 23 zMj 192 [t1,(.slice none 0 0),t9,t11,(.int .i64 0)] H3 (fun id l H5=>
cond (Nat.beq id 0) (
K (nth l 1) H5) (
False)) (fun l H5=>
K (nth l 0) H5)
theorem zkq{t0 t1 t2:Value}{H:Heap}{K:VH}(h:zfp t0 t1 t2 H K):wCall P zCc [t0,t1,t2] H K:=zca rfl (Eq.mpr (by kernel_rfl) h)
def zsn(t0:Value)(H:Heap)(K:VH):Prop:=
zZb (zCa t0) H fun t1 H1=>
zQb (fun J=>
opP (zqa 0 t1) fun t3=>
opW (zba t3 H1) fun t4 H5=>
wCall P zke [t4] H5 fun t5 H7=>
opP ((zma P .neq 3 true).f t5 (.int .i64 0)) fun t6=>
wIf t6 (
opP (zha t6 (.bool true) undef) fun t11=>
opP (zha t11 (.bool true) undef) fun t16=>
opP (zha t16 (.bool true) undef) fun t21=>
opP (zha t21 (.bool true) undef) fun t26=>
wIf t26 (
K (.bool false) H7) (
J [t1] H7)) (
opP (zqa 1 t1) fun t8=>
opW (zba t8 H7) fun t9 H15=>
opP ((zma P .lss 24 true).f t9 (.int .u64 1)) fun t10=>
opP (zha t6 (.bool true) t10) fun t11_1=>
wIf t11_1 (
opP (zha t11_1 (.bool true) undef) fun t16_1=>
opP (zha t16_1 (.bool true) undef) fun t21_1=>
opP (zha t21_1 (.bool true) undef) fun t26_1=>
wIf t26_1 (
K (.bool false) H15) (
J [t1] H15)) (
opP (zqa 1 t1) fun t13=>
opW (zba t13 H15) fun t14 H23=>
opP ((zma P .gtr 24 true).f t14 (.int .u64 281474976710656)) fun t15=>
opP (zha t11_1 (.bool true) t15) fun t16_2=>
wIf t16_2 (
opP (zha t16_2 (.bool true) undef) fun t21_2=>
opP (zha t21_2 (.bool true) undef) fun t26_2=>
wIf t26_2 (
K (.bool false) H23) (
J [t1] H23)) (
opP (zqa 2 t1) fun t18=>
opW (zba t18 H23) fun t19 H30=>
opP ((zma P .lss 3 true).f t19 (.int .i64 1)) fun t20=>
opP (zha t16_2 (.bool true) t20) fun t21_3=>
wIf t21_3 (
opP (zha t21_3 (.bool true) undef) fun t26_3=>
wIf t26_3 (
K (.bool false) H30) (
J [t1] H30)) (
opP (zqa 2 t1) fun t23=>
opW (zba t23 H30) fun t24 H36=>
opP ((zma P .gtr 3 true).f t24 (.int .i64 65536)) fun t25=>
opP (zha t21_3 (.bool true) t25) fun t26_4=>
wIf t26_4 (
K (.bool false) H36) (
J [t1] H36)))))) (fun l H40=>
zQb (fun J_1=>
opP (zqa 3 (nth l 0)) fun t27=>
opW (zba t27 H40) fun t28 H44=>
opP ((zma P .lss 3 true).f t28 (.int .i64 64)) fun t29=>
wIf t29 (
opP (zha t29 (.bool true) undef) fun t34=>
opP (zha t34 (.bool true) undef) fun t40=>
wIf t40 (
K (.bool false) H44) (
J_1 [(nth l 0)] H44)) (
opP (zqa 3 (nth l 0)) fun t31=>
opW (zba t31 H44) fun t32 H50=>
opP ((zma P .gtr 3 true).f t32 (.int .i64 1024)) fun t33=>
opP (zha t29 (.bool true) t33) fun t34_1=>
wIf t34_1 (
opP (zha t34_1 (.bool true) undef) fun t40_1=>
wIf t40_1 (
K (.bool false) H50) (
J_1 [(nth l 0)] H50)) (
opP (zqa 3 (nth l 0)) fun t36=>
opW (zba t36 H50) fun t37 H56=>
opP ((zma P .rem 3 true).f t37 (.int .i64 64)) fun t38=>
opP ((zma P .neq 3 true).f t38 (.int .i64 0)) fun t39=>
opP (zha t34_1 (.bool true) t39) fun t40_2=>
wIf t40_2 (
K (.bool false) H56) (
J_1 [(nth l 0)] H56)))) (fun l_1 H61=>
opP (zqa 36 (nth l_1 0)) fun t41=>
opW (zba t41 H61) fun t42 H64=>
opW (lenSl t42 H64) fun t43 H66=>
opP ((zma P .leq 3 true).f t43 (.int .i64 64)) fun t44=>
wIf t44 (
opP (zqa 36 (nth l_1 0)) fun t46=>
opW (zba t46 H66) fun t47 H70=>
opW (lenSl t47 H70) fun t48 H72=>
opP (zqa 2 (nth l_1 0)) fun t49=>
opW (zba t49 H72) fun t50 H75=>
opP (zqa 3 (nth l_1 0)) fun t51=>
opW (zba t51 H75) fun t52 H78=>
wCall P zyg [t50,t52] H78 fun t53 H80=>
zgb (zcb H78 H80) (zDa [t46])∧(opP ((zma P .eql 3 false).f t48 t53) fun t54=>
opP (zha t44 t54 (.bool false)) fun t55=>
K t55 H80)) (
opP (zha t44 undef (.bool false)) fun t55_1=>
K t55_1 H66)))
theorem zuo{t0:Value}{H:Heap}{K:VH}(h:zsn t0 H K):wCall P zKe [t0] H K:=zca rfl (Eq.mpr (by kernel_rfl) h)
noncomputable abbrev zDi:Code:=zrb P zyd 0
def zEi(l:List Value)(H:Heap)(N:LN)(Qx:LX)(Qr:LN):Prop:=
opP ((zma P .lss 3 false).f (nth l 4) (nth l 3)) fun t41=>
wIf t41 (
opP (zfd 32 (nth l 2) (nth l 4)) fun t42=>
opW (zja 32 t42 H) fun t43 H3=>
zZb (zc P 26) H3 fun t5 H5=>
opW (zka 32 t5 t43 H5) fun u H7=>
opP (zdb 32 1 t5 none none none H7) fun t45=>
opW (zoa 1 1 (nth l 1) t45 H7) fun t46 H10=>
opP ((zma P .add 3 true).f (nth l 4) (.int .i64 1)) fun t47=>
N [(nth l 0),t46,(nth l 2),(nth l 3),t47] H10) (
Qx 0 [(nth l 0),(nth l 1)] H)
theorem zOj:LpI P 49 zDi 12 zEi:=.mk (by kernel_rfl) fun l H N Qx Qr=>by kernel_rfl
def ztn(t0:Value)(H:Heap)(K:VH):Prop:=
zZb (zCa t0) H fun t1 H1=>
opW ((zga P 22 0).f [] H1) fun t6 H3=>
opW (zja 37 t1 H3) fun t7 H5=>
wCall P zKe [t7] H5 fun t8 H7=>
opP (unA .not t8) fun t9=>
wIf t9 (
K t6 H7) (
opP (zqa 0 t1) fun t12=>
opW (zba t12 H7) fun t13 H11=>
wCall P zph [t13] H11 fun t14 H13=>
opW (zoa 1 1 t6 t14 H13) fun t15 H15=>
opP (zqa 1 t1) fun t17=>
opW (zba t17 H15) fun t18 H18=>
wCall P zOb [t18,(.int .i64 8)] H18 fun t19 H20=>
opW (zoa 1 1 t15 t19 H20) fun t20 H22=>
opP (zqa 2 t1) fun t22=>
opW (zba t22 H22) fun t23 H25=>
opW (zLb .u64 t23 H25) fun t24 H27=>
wCall P zOb [t24,(.int .i64 4)] H27 fun t25 H29=>
opW (zoa 1 1 t20 t25 H29) fun t26 H31=>
opP (zqa 3 t1) fun t28=>
opW (zba t28 H31) fun t29 H34=>
opW (zLb .u64 t29 H34) fun t30 H36=>
wCall P zOb [t30,(.int .i64 2)] H36 fun t31 H38=>
opW (zoa 1 1 t26 t31 H38) fun t32 H40=>
opP (zqa 4 t1) fun t34=>
opP (zdb 32 1 t34 none none none H40) fun t35=>
opW (zoa 1 1 t32 t35 H40) fun t36 H44=>
opP (zqa 36 t1) fun t37=>
opW (zba t37 H44) fun t38 H47=>
opW (lenSl t38 H47) fun t39 H49=>
zob P true 49 zDi 12 [(.slice none 0 0),t36,t38,t39,(.int .i64 0)] H49 (fun id l H51=>
cond (Nat.beq id 0) (
K (nth l 1) H51) (
False)) (fun l H51=>
K (nth l 0) H51))
theorem zvo{t0:Value}{H:Heap}{K:VH}(h:ztn t0 H K):wCall P zyd [t0] H K:=zca rfl (Eq.mpr (by kernel_rfl) h)
noncomputable abbrev zFi:Code:=zrb P zOb 0
def zGi(l:List Value)(H:Heap)(N:LN)(Qx:LX)(Qr:LN):Prop:=
wCall P zrf [(nth l 1)] H fun t10 H1=>
opP ((zma P .lss 3 false).f (nth l 4) t10) fun t11=>
wIf t11 (
opP ((zma P .rem 24 true).f (nth l 0) (.int .u64 256)) fun t16=>
opW (zLb .u8 t16 H1) fun t17 H5=>
opW ((zga P 22 1).f [(0,t17)] H5) fun t18 H7=>
opW (zoa 1 1 (nth l 3) t18 H7) fun t19 H9=>
opP ((zma P .quo 24 true).f (nth l 0) (.int .u64 256)) fun t21=>
opP ((zma P .add 3 true).f (nth l 4) (.int .i64 1)) fun t13=>
N [t21,(nth l 1),(nth l 2),t19,t13] H9) (
Qx 0 [(nth l 2),(nth l 3)] H1)
theorem zPj:LpI P 23 zFi 48 zGi:=.mk (by kernel_rfl) fun l H N Qx Qr=>by kernel_rfl
def zun(t0 t1:Value)(H:Heap)(K:VH):Prop:=
opW ((zga P 22 0).f [] H) fun t7 H1=>
zob P true 23 zFi 48 [t0,t1,(.slice none 0 0),t7,(.int .i64 0)] H1 (fun id l H3=>
cond (Nat.beq id 0) (
K (nth l 1) H3) (
False)) (fun l H3=>
K (nth l 0) H3)
theorem zwo{t0 t1:Value}{H:Heap}{K:VH}(h:zun t0 t1 H K):wCall P zOb [t0,t1] H K:=zca rfl (Eq.mpr (by kernel_rfl) h)
def zHi(t0:Value)(H:Heap)(K:VH):Prop:=
zZb (zCa t0) H fun t1 H1=>
zQb (fun J=>
zQb (fun J_1=>
opP (zqa 0 t1) fun t4=>
opW (zba t4 H1) fun t5 H6=>
wCall P zqh [t5] H6 fun t6 H8=>
opP ((zma P .neq 30 true).f t6 (.int .i64 0)) fun t7=>
wIf t7 (
J_1 [t1,t7] H8) (
opP (zqa 1 t1) fun t8=>
opW (zba t8 H8) fun t9 H12=>
opP ((zma P .lss 24 true).f t9 (.int .u64 1)) fun t10=>
wIf t10 (
J_1 [t1,t10] H12) (
opP (zqa 1 t1) fun t11=>
opW (zba t11 H12) fun t12 H16=>
opP ((zma P .gtr 24 true).f t12 (.int .u64 281474976710656)) fun t13=>
J_1 [t1,t13] H16))) (fun l H19=>
wIf (nth l 1) (
K (.bool false) H19) (
zQb (fun J_2=>
opP (zqa 2 (nth l 0)) fun t15=>
opW (zba t15 H19) fun t16 H23=>
opP ((zma P .lss 3 true).f t16 (.int .i64 1)) fun t17=>
wIf t17 (
opP (zha t17 (.bool true) undef) fun t22=>
J_2 [(nth l 0),t22] H23) (
opP (zqa 2 (nth l 0)) fun t19=>
opW (zba t19 H23) fun t20 H28=>
opP ((zma P .gtr 3 true).f t20 (.int .i64 65536)) fun t21=>
opP (zha t17 (.bool true) t21) fun t22_1=>
J_2 [(nth l 0),t22_1] H28)) (fun l_1 H32=>
wIf (nth l_1 1) (
K (.bool false) H32) (
opP (zqa 3 (nth l_1 0)) fun t24=>
opW (zba t24 H32) fun t25 H35=>
opP ((zma P .lss 3 true).f t25 (.int .i64 64)) fun t26=>
wIf t26 (
opP (zha t26 (.bool true) undef) fun t31=>
opP (zha t31 (.bool true) undef) fun t37=>
wIf t37 (
K (.bool false) H35) (
J [(nth l_1 0)] H35)) (
opP (zqa 3 (nth l_1 0)) fun t28=>
opW (zba t28 H35) fun t29 H41=>
opP ((zma P .gtr 3 true).f t29 (.int .i64 1024)) fun t30=>
opP (zha t26 (.bool true) t30) fun t31_1=>
wIf t31_1 (
opP (zha t31_1 (.bool true) undef) fun t37_1=>
wIf t37_1 (
K (.bool false) H41) (
J [(nth l_1 0)] H41)) (
opP (zqa 3 (nth l_1 0)) fun t33=>
opW (zba t33 H41) fun t34 H47=>
opP ((zma P .rem 3 true).f t34 (.int .i64 64)) fun t35=>
opP ((zma P .neq 3 true).f t35 (.int .i64 0)) fun t36=>
opP (zha t31_1 (.bool true) t36) fun t37_2=>
wIf t37_2 (
K (.bool false) H47) (
J [(nth l_1 0)] H47)))))))) (fun l_2 H52=>
opP (zqa 36 (nth l_2 0)) fun t38=>
opW (zba t38 H52) fun t39 H55=>
opW (lenSl t39 H55) fun t40 H57=>
opP (zqa 2 (nth l_2 0)) fun t41=>
opW (zba t41 H57) fun t42 H60=>
opP (zqa 3 (nth l_2 0)) fun t43=>
opW (zba t43 H60) fun t44 H63=>
wCall P zcd [t42,t44] H63 fun t45 H65=>
zgb (zcb H63 H65) (zDa [t38])∧(opP ((zma P .eql 3 false).f t40 t45) fun t46=>
wIf t46 (
opP (zqa 36 (nth l_2 0)) fun t48=>
opW (zba t48 H65) fun t49 H69=>
opW (lenSl t49 H69) fun t50 H71=>
opP ((zma P .leq 3 true).f t50 (.int .i64 64)) fun t51=>
opP (zha t46 t51 (.bool false)) fun t52=>
K t52 H71) (
opP (zha t46 undef (.bool false)) fun t52_1=>
K t52_1 H65)))
theorem zSk{t0:Value}{H:Heap}{K:VH}(h:zHi t0 H K):wCall P zbd [t0] H K:=zca rfl (Eq.mpr (by kernel_rfl) h)
def zgp(H:Heap)(K:VH):Prop:=
wCall P zAf [] H fun t1 H1=>
opP ((zbb P 116).f [(0,t1)]) fun t2=>
zZb (zCa t2) H1 fun t3 H4=>
K t3 H4
theorem zlq{H:Heap}{K:VH}(h:zgp  H K):wCall P zqf [] H K:=zca rfl (Eq.mpr (by kernel_rfl) h)
noncomputable abbrev zEd:Code:=zrb P zEa 0
def zFd(l:List Value)(H:Heap)(N:LN)(Qx:LX)(Qr:LN):Prop:=
opP (zta (nth l 0)) fun t24=>
opP (zqa 8 t24) fun t25=>
opW (zba t25 H) fun t26 H3=>
opW (lenSl t26 H3) fun t27 H5=>
opP ((zma P .geq 3 true).f t27 (.int .i64 64)) fun t28=>
wIf t28 (
opP (zta (nth l 0)) fun t31=>
opP (zqa 0 t31) fun t32=>
opW (zja 8 t32 H5) fun t33 H10=>
opP (zta (nth l 0)) fun t35=>
opP (zqa 8 t35) fun t36=>
opW (zba t36 H10) fun t37 H14=>
opP (zLa 1 t37 none (some (.int .i64 64)) none) fun t38=>
wCall P zPb [t33,t38] H14 fun t39 H17=>
opP (zta (nth l 0)) fun t40=>
opP (zqa 0 t40) fun t41=>
opW (zka 8 t41 t39 H17) fun u H21=>
opP (zta (nth l 0)) fun t44=>
opP (zqa 8 t44) fun t45=>
opW (zba t45 H21) fun t46 H25=>
opP (zLa 1 t46 (some (.int .i64 64)) none none) fun t47=>
opP (zta (nth l 0)) fun t48=>
opP (zqa 8 t48) fun t49=>
opW (zka 1 t49 t47 H25) fun u_1 H30=>
N [(nth l 0)] H30) (
Qx 0 [] H5)
theorem zdf:LpI P 50 zEd 0 zFd:=.mk (by kernel_rfl) fun l H N Qx Qr=>by kernel_rfl
def zXe(t0 t1:Value)(H:Heap)(K:VH):Prop:=
opP (zta t0) fun t5=>
opP (zqa 9 t5) fun t6=>
opW (zba t6 H) fun t7 H3=>
opW (lenSl t1 H3) fun t9 H5=>
opW (zLb .u64 t9 H5) fun t10 H7=>
opP ((zma P .add 24 false).f t7 t10) fun t11=>
opP (zta t0) fun t12=>
opP (zqa 9 t12) fun t13=>
opW (zka 1 t13 t11 H7) fun u H12=>
opP (zta t0) fun t16=>
opP (zqa 8 t16) fun t17=>
opW (zba t17 H12) fun t18 H16=>
opW (zoa 1 1 t18 t1 H16) fun t20 H18=>
opP (zta t0) fun t21=>
opP (zqa 8 t21) fun t22=>
opW (zka 1 t22 t20 H18) fun u_1 H22=>
zob P true 50 zEd 0 [t0] H22 (fun id l H24=>
cond (Nat.beq id 0) (
K (.tuple [].toArray) H24) (
False)) (fun l H24=>
K (.tuple [].toArray) H24)
theorem zYg{t0 t1:Value}{H:Heap}{K:VH}(h:zXe t0 t1 H K):wCall P zEa [t0,t1] H K:=zca rfl (Eq.mpr (by kernel_rfl) h)
noncomputable abbrev zQj:Code:=zrb P zie 0
def zRj(l:List Value)(H:Heap)(N:LN)(Qx:LX)(Qr:LN):Prop:=
opP ((zma P .lss 3 true).f (nth l 3) (.int .i64 64)) fun t19=>
wIf t19 (
opP (zza 64 1 (nth l 2) (nth l 3)) fun t22=>
opW (zba t22 H) fun t23 H3=>
opP ((zma P .xor 5 false).f t23 (nth l 0)) fun t25=>
opP (zza 64 1 (nth l 2) (nth l 3)) fun t26=>
opW (zka 1 t26 t25 H3) fun u H7=>
opP ((zma P .add 3 true).f (nth l 3) (.int .i64 1)) fun t27=>
N [(nth l 0),(nth l 1),(nth l 2),t27] H7) (
Qx 0 [(nth l 1),(nth l 2)] H)
theorem zTk:LpI P 29 zQj 80 zRj:=.mk (by kernel_rfl) fun l H N Qx Qr=>by kernel_rfl
def zhp(t0 t1:Value)(H:Heap)(K:VH):Prop:=
zQb (fun J=>
opW (lenSl t0 H) fun t9 H2=>
opP ((zma P .gtr 3 true).f t9 (.int .i64 64)) fun t10=>
wIf t10 (
opW ((zga P 74 1).f [(0,t0)] H2) fun t12 H5=>
wCall P znd [t12] H5 fun t13 H7=>
zZb (zc P 26) H7 fun t5 H9=>
opW (zka 32 t5 t13 H9) fun u H11=>
opP (zdb 32 1 t5 none none none H11) fun t14=>
J [t14,t1,(.slice none 0 0)] H11) (
J [t0,t1,(.slice none 0 0)] H2)) (fun l H14=>
zZb (zc P 118) H14 fun t6 H16=>
opP (zdb 64 1 t6 none none none H16) fun t15=>
opW (zJg 1 t15 (nth l 0) H16) fun t17 H19=>
zob P true 29 zQj 80 [(nth l 1),(nth l 2),t6,(.int .i64 0)] H19 (fun id l_1 H21=>
cond (Nat.beq id 0) (
opP (zdb 64 1 (nth l_1 1) none none none H21) fun t28=>
K t28 H21) (
False)) (fun l_1 H21=>
K (nth l_1 0) H21))
theorem zmq{t0 t1:Value}{H:Heap}{K:VH}(h:zhp t0 t1 H K):wCall P zie [t0,t1] H K:=zca rfl (Eq.mpr (by kernel_rfl) h)
noncomputable abbrev zOc:Code:=zrb P zUa 0
noncomputable abbrev zPc:Code:=zrb P zUa 1
noncomputable abbrev zQc:Code:=zrb P zUa 2
noncomputable abbrev zRc:Code:=zrb P zUa 3
def zze(l:List Value)(H:Heap)(N:LN)(Qx:LX)(Qr:LN):Prop:=
opP (zta (nth l 1)) fun t21=>
opP (zqa 8 t21) fun t22=>
opW (zba t22 H) fun t23 H3=>
opW (lenSl t23 H3) fun t24 H5=>
opP ((zma P .neq 3 true).f t24 (.int .i64 56)) fun t25=>
wIf t25 (
opW ((zga P 22 1).f [(0,(.int .u8 0))] H5) fun t27 H8=>
wCall P zEa [(nth l 1),t27] H8 fun t28 H10=>
N [(nth l 0),(nth l 1),(nth l 2)] H10) (
Qx 0 [(nth l 0),(nth l 1),(nth l 2)] H5)
theorem zYf:LpI P 67 zOc 28 zze:=.mk (by kernel_rfl) fun l H N Qx Qr=>by kernel_rfl
def zAe(l:List Value)(H:Heap)(N:LN)(Qx:LX)(Qr:LN):Prop:=
opP ((zma P .lss 3 true).f (nth l 3) (.int .i64 8)) fun t30=>
wIf t30 (
opP ((zma P .mul 3 true).f (.int .i64 8) (nth l 3)) fun t35=>
opP ((zma P .sub 3 true).f (.int .i64 56) t35) fun t36=>
opP ((zma P .shr 24 false).f (nth l 2) t36) fun t37=>
opW (zLb .u8 t37 H) fun t38 H5=>
opW ((zga P 22 1).f [(0,t38)] H5) fun t39 H7=>
wCall P zEa [(nth l 1),t39] H7 fun t40 H9=>
opP ((zma P .add 3 true).f (nth l 3) (.int .i64 1)) fun t41=>
N [(nth l 0),(nth l 1),(nth l 2),t41] H9) (
Qx 2 [(nth l 0),(nth l 1)] H)
theorem zZf:LpI P 67 zPc 12 zAe:=.mk (by kernel_rfl) fun l H N Qx Qr=>by kernel_rfl
def zBe(l:List Value)(H:Heap)(N:LN)(Qx:LX)(Qr:LN):Prop:=
opP ((zma P .lss 3 true).f (nth l 3) (.int .i64 8)) fun t47=>
wIf t47 (
opP (zKg 8 1 (zlj P 111).f (nth l 2) (nth l 3)) fun t49=>
zob P true 67 zRc 105553116266564 [(nth l 0),(nth l 1),(nth l 3),t49,(nth l 2),(nth l 3),(.int .i64 0)] H (fun id l_1 H3=>
cond (Nat.beq id 6) (
opP ((zma P .add 3 true).f (nth l_1 3) (.int .i64 1)) fun t65=>
N [(nth l_1 0),(nth l_1 1),(nth l_1 2),t65] H3) (
cond (Nat.beq id 5) (
opP ((zma P .add 3 true).f (nth l_1 3) (.int .i64 1)) fun t65_1=>
N [(nth l_1 0),(nth l_1 1),(nth l_1 2),t65_1] H3) (
Qx id [(nth l_1 0),(nth l_1 1)] H3))) (fun l_1 H3=>
Qr [(nth l_1 0),(nth l_1 1)] H3)) (
Qx 4 [(nth l 0),(nth l 1)] H)
theorem zag:LpI P 67 zQc 68 zBe:=.mk (by kernel_rfl) fun l H N Qx Qr=>by kernel_rfl
def zCe(l:List Value)(H:Heap)(N:LN)(Qx:LX)(Qr:LN):Prop:=
opP ((zma P .lss 3 true).f (nth l 6) (.int .i64 4)) fun t51=>
wIf t51 (
opP ((zma P .mul 3 true).f (.int .i64 4) (nth l 2)) fun t54=>
opP ((zma P .add 3 false).f t54 (nth l 6)) fun t56=>
opP ((zma P .mul 3 true).f (.int .i64 8) (nth l 6)) fun t59=>
opP ((zma P .sub 3 true).f (.int .i64 24) t59) fun t60=>
opP ((zma P .shr 111 false).f (nth l 3) t60) fun t61=>
opW (zLb .u8 t61 H) fun t62 H7=>
opP (zza 32 1 (nth l 1) t56) fun t63=>
opW (zka 1 t63 t62 H7) fun u H10=>
opP ((zma P .add 3 true).f (nth l 6) (.int .i64 1)) fun t64=>
N [(nth l 0),(nth l 1),(nth l 2),(nth l 3),(nth l 4),(nth l 5),t64] H10) (
Qx 6 [(nth l 0),(nth l 1),(nth l 4),(nth l 5)] H)
theorem zbg:LpI P 67 zRc 105553116266564 zCe:=.mk (by kernel_rfl) fun l H N Qx Qr=>by kernel_rfl
def zcg(t0:Value)(H:Heap)(K:VH):Prop:=
zZb (zc P 26) H fun t2 H1=>
wCall P zNc [t0] H1 fun t11 H3=>
opP (zta t11) fun t13=>
opP (zqa 9 t13) fun t14=>
opW (zba t14 H3) fun t15 H7=>
opP ((zma P .mul 24 true).f t15 (.int .u64 8)) fun t16=>
opW ((zga P 22 1).f [(0,(.int .u8 128))] H7) fun t18 H10=>
wCall P zEa [t11,t18] H10 fun t19 H12=>
zob P true 67 zOc 28 [t2,t11,t16] H12 (fun id l H14=>
cond (Nat.beq id 0) (
zob P true 67 zPc 12 [(nth l 0),(nth l 1),(nth l 2),(.int .i64 0)] H14 (fun id l_1 H16=>
cond (Nat.beq id 2) (
zZb (zc P 26) H16 fun t6 H18=>
opP (zta (nth l_1 1)) fun t43=>
opP (zqa 0 t43) fun t44=>
opW (zja 8 t44 H18) fun t45 H22=>
zob P true 67 zQc 68 [(nth l_1 0),t6,t45,(.int .i64 0)] H22 (fun id l_2 H24=>
cond (Nat.beq id 4) (
opW (zja 32 (nth l_2 1) H24) fun t66 H26=>
opW (zka 32 (nth l_2 0) t66 H26) fun u H28=>
opW (zja 32 (nth l_2 0) H28) fun r _=>
K r H28) (
False)) (fun l_2 H24=>
opW (zja 32 (nth l_2 0) H24) fun r_1 _=>
K r_1 H24)) (
False)) (fun l_1 H16=>
opW (zja 32 (nth l_1 0) H16) fun r_2 _=>
K r_2 H16)) (
False)) (fun l H14=>
opW (zja 32 (nth l 0) H14) fun r_3 _=>
K r_3 H14)
theorem zmi{t0:Value}{H:Heap}{K:VH}(h:zcg t0 H K):wCall P zUa [t0] H K:=zca rfl (Eq.mpr (by kernel_rfl) h)
noncomputable abbrev zSj:Code:=zrb P znd 0
def zCg(l:List Value)(H:Heap)(N:LN)(Qx:LX)(Qr:LN):Prop:=
opP ((zma P .lss 3 false).f (nth l 4) (nth l 3)) fun t10=>
wIf t10 (
opP (zfd 1 (nth l 2) (nth l 4)) fun t11=>
opW (zba t11 H) fun t12 H3=>
wCall P zEa [(nth l 1),t12] H3 fun t15 H5=>
opP ((zma P .add 3 true).f (nth l 4) (.int .i64 1)) fun t16=>
N [(nth l 0),(nth l 1),(nth l 2),(nth l 3),t16] H5) (
Qx 0 [(nth l 0),(nth l 1)] H)
theorem zdg:LpI P 19 zSj 12 zCg:=.mk (by kernel_rfl) fun l H N Qx Qr=>by kernel_rfl
def zUk(t0:Value)(H:Heap)(K:VH):Prop:=
zZb (zc P 26) H fun t2 H1=>
wCall P zqf [] H1 fun t6 H3=>
opW (lenSl t0 H3) fun t8 H5=>
zob P true 19 zSj 12 [t2,t6,t0,t8,(.int .i64 0)] H5 (fun id l H7=>
cond (Nat.beq id 0) (
wCall P zUa [(nth l 1)] H7 fun t18 H9=>
opW (zka 32 (nth l 0) t18 H9) fun u H11=>
opW (zja 32 (nth l 0) H11) fun r _=>
K r H11) (
False)) (fun l H7=>
opW (zja 32 (nth l 0) H7) fun r_1 _=>
K r_1 H7)
theorem zTj{t0:Value}{H:Heap}{K:VH}(h:zUk t0 H K):wCall P znd [t0] H K:=zca rfl (Eq.mpr (by kernel_rfl) h)
def zOg(t0 t1:Value)(H:Heap)(K:VH):Prop:=
wCall P zTa [t0,(.int .i64 2)] H fun t7 H1=>
opW (zLb .i64 t7 H1) fun t8 H3=>
zQb (fun J=>
opP (zta t0) fun t10=>
opP (zqa 1 t10) fun t11=>
opW (zba t11 H3) fun t12 H8=>
opP ((zma P .eql 30 true).f t12 (.int .i64 0)) fun t13=>
wIf t13 (
opP ((zma P .gtr 3 false).f t8 t1) fun t17=>
opP (zha t13 t17 (.bool false)) fun t18=>
J [t0,t8,t18] H8) (
opP (zha t13 undef (.bool false)) fun t18_1=>
J [t0,t8,t18_1] H8)) (fun l H14=>
wIf (nth l 2) (
wCall P zyc [(nth l 0),(.int .i64 52)] H14 fun t20 H16=>
wCall P zwb [(nth l 0),(nth l 1)] H16 fun t23 H18=>
opW (zFa t23 H18) fun t24 H20=>
K t24 H20) (
wCall P zwb [(nth l 0),(nth l 1)] H14 fun t23_1 H22=>
opW (zFa t23_1 H22) fun t24_1 H24=>
K t24_1 H24))
theorem zcj{t0 t1:Value}{H:Heap}{K:VH}(h:zOg t0 t1 H K):wCall P zzd [t0,t1] H K:=zca rfl (Eq.mpr (by kernel_rfl) h)
def zUj(t0:Value)(H:Heap)(K:VH):Prop:=
zZb (zc P 26) H fun t2 H1=>
zZb (zc P 26) H1 fun t3 H3=>
opP (zdb 32 1 t3 none none none H3) fun t4=>
wCall P zWd [t0,(.int .i64 32)] H3 fun t6 H6=>
zgb (zcb H3 H6) (zDa [t3])∧(opW (zJg 1 t4 t6 H6) fun t7 H8=>
opW (zja 32 t3 H8) fun t8 H10=>
opW (zka 32 t2 t8 H10) fun u H12=>
opW (zja 32 t2 H12) fun r _=>
K r H12)
theorem zRl{t0:Value}{H:Heap}{K:VH}(h:zUj t0 H K):wCall P zAd [t0] H K:=zca rfl (Eq.mpr (by kernel_rfl) h)
def zIi(t0 t1:Value)(H:Heap)(K:VH):Prop:=
zQb (fun J=>
opP ((zma P .lss 3 true).f t0 (.int .i64 1)) fun t6=>
wIf t6 (
opP (zha t6 (.bool true) undef) fun t10=>
wIf t10 (
K (.int .i64 0) H) (
J [t0,t1] H)) (
opP ((zma P .lss 3 true).f t1 (.int .i64 1)) fun t9=>
opP (zha t6 (.bool true) t9) fun t10_1=>
wIf t10_1 (
K (.int .i64 0) H) (
J [t0,t1] H))) (fun l H6=>
opP ((zma P .sub 3 true).f (nth l 0) (.int .i64 1)) fun t12=>
opP ((zma P .quo 3 false).f t12 (nth l 1)) fun t14=>
opP ((zma P .add 3 true).f t14 (.int .i64 1)) fun t15=>
K t15 H6)
theorem zVk{t0 t1:Value}{H:Heap}{K:VH}(h:zIi t0 t1 H K):wCall P zcd [t0,t1] H K:=zca rfl (Eq.mpr (by kernel_rfl) h)
def zxh(t0:Value)(H:Heap)(K:VH):Prop:=
opP (zta t0) fun t4=>
opP (zqa 1 t4) fun t5=>
opW (zba t5 H) fun t6 H3=>
opP ((zma P .eql 30 true).f t6 (.int .i64 0)) fun t7=>
wIf t7 (
opP (zta t0) fun t10=>
opP (zqa 0 t10) fun t11=>
opW (zba t11 H3) fun t12 H8=>
opW (lenSl t12 H8) fun t13 H10=>
opP ((zma P .gtr 3 true).f t13 (.int .i64 0)) fun t14=>
opP (zha t7 t14 (.bool false)) fun t15=>
wIf t15 (
K (.int .i64 52) H10) (
opP (zta t0) fun t17=>
opP (zqa 1 t17) fun t18=>
opW (zba t18 H10) fun t19 H16=>
K t19 H16)) (
opP (zha t7 undef (.bool false)) fun t15_1=>
wIf t15_1 (
K (.int .i64 52) H3) (
opP (zta t0) fun t17_1=>
opP (zqa 1 t17_1) fun t18_1=>
opW (zba t18_1 H3) fun t19_1 H21=>
K t19_1 H21))
theorem zVj{t0:Value}{H:Heap}{K:VH}(h:zxh t0 H K):wCall P zVd [t0] H K:=zca rfl (Eq.mpr (by kernel_rfl) h)
noncomputable abbrev zwl:Code:=zrb P zvg 0
def zxl(l:List Value)(H:Heap)(N:LN)(Qx:LX)(Qr:LN):Prop:=
opP ((zma P .lss 3 true).f (nth l 5) (.int .i64 64)) fun t20=>
wIf t20 (
zQb (fun J=>
opW (lenSl (nth l 0) H) fun t25 H3=>
opP ((zma P .lss 3 false).f (nth l 5) t25) fun t26=>
wIf t26 (
opP (zfd 1 (nth l 0) (nth l 5)) fun t29=>
opW (zba t29 H3) fun t30 H7=>
J [(nth l 0),(nth l 1),(nth l 2),(nth l 3),(nth l 4),(nth l 5),t30] H7) (
J [(nth l 0),(nth l 1),(nth l 2),(nth l 3),(nth l 4),(nth l 5),(.int .u8 0)] H3)) (fun l_1 H9=>
opP ((zma P .xor 5 true).f (nth l_1 6) (.int .u8 54)) fun t33=>
opW ((zga P 22 1).f [(0,t33)] H9) fun t34 H12=>
opW (zoa 1 1 (nth l_1 3) t34 H12) fun t35 H14=>
opP ((zma P .xor 5 true).f (nth l_1 6) (.int .u8 92)) fun t38=>
opW ((zga P 22 1).f [(0,t38)] H14) fun t39 H17=>
opW (zoa 1 1 (nth l_1 4) t39 H17) fun t40 H19=>
opP ((zma P .add 3 true).f (nth l_1 5) (.int .i64 1)) fun t22=>
N [(nth l_1 0),(nth l_1 1),(nth l_1 2),t35,t40,t22] H19)) (
Qx 0 [(nth l 1),(nth l 2),(nth l 3),(nth l 4)] H)
theorem zSl:LpI P 49 zwl 210 zxl:=.mk (by kernel_rfl) fun l H N Qx Qr=>by kernel_rfl
def zAr(t0 t1:Value)(H:Heap)(K:VH):Prop:=
zZb (zc P 26) H fun t4 H1=>
zQb (fun J=>
opW (lenSl t0 H1) fun t12 H4=>
opP ((zma P .gtr 3 true).f t12 (.int .i64 64)) fun t13=>
wIf t13 (
wCall P zub [t0] H4 fun t15 H7=>
zZb (zc P 26) H7 fun t5 H9=>
opW (zka 32 t5 t15 H9) fun u H11=>
opP (zdb 32 1 t5 none none none H11) fun t16=>
J [t16,t1,t4] H11) (
J [t0,t1,t4] H4)) (fun l H14=>
opW ((zga P 22 0).f [] H14) fun t17 H16=>
opW ((zga P 22 0).f [] H16) fun t18 H18=>
zob P true 49 zwl 210 [(nth l 0),(nth l 1),(nth l 2),t17,t18,(.int .i64 0)] H18 (fun id l_1 H20=>
cond (Nat.beq id 0) (
opW (zoa 1 1 (nth l_1 2) (nth l_1 0) H20) fun t43 H22=>
wCall P zub [t43] H22 fun t44 H24=>
zZb (zc P 26) H24 fun t10 H26=>
opW (zka 32 t10 t44 H26) fun u_1 H28=>
opP (zdb 32 1 t10 none none none H28) fun t46=>
opW (zoa 1 1 (nth l_1 3) t46 H28) fun t47 H31=>
wCall P zub [t47] H31 fun t48 H33=>
opW (zka 32 (nth l_1 1) t48 H33) fun u_2 H35=>
opW (zja 32 (nth l_1 1) H35) fun r _=>
K r H35) (
False)) (fun l_1 H20=>
opW (zja 32 (nth l_1 1) H20) fun r_1 _=>
K r_1 H20))
theorem zBr{t0 t1:Value}{H:Heap}{K:VH}(h:zAr t0 t1 H K):wCall P zvg [t0,t1] H K:=zca rfl (Eq.mpr (by kernel_rfl) h)
def zyl(t0 t1:Value)(H:Heap)(K:VH):Prop:=
wCall P zIb [t0,(.int .i64 2)] H fun t7 H1=>
opW (zLb .i64 t7 H1) fun t8 H3=>
zQb (fun J=>
opP (zta t0) fun t10=>
opP (zqa 1 t10) fun t11=>
opW (zba t11 H3) fun t12 H8=>
opP ((zma P .eql 3 true).f t12 (.int .i64 0)) fun t13=>
wIf t13 (
opP ((zma P .gtr 3 false).f t8 t1) fun t17=>
opP (zha t13 t17 (.bool false)) fun t18=>
J [t0,t8,t18] H8) (
opP (zha t13 undef (.bool false)) fun t18_1=>
J [t0,t8,t18_1] H8)) (fun l H14=>
wIf (nth l 2) (
opP (zta (nth l 0)) fun t20=>
opP (zqa 1 t20) fun t21=>
opW (zka 1 t21 (.int .i64 52) H14) fun u H18=>
wCall P zXd [(nth l 0),(nth l 1)] H18 fun t24 H20=>
opW (zFa t24 H20) fun t25 H22=>
K t25 H22) (
wCall P zXd [(nth l 0),(nth l 1)] H14 fun t24_1 H24=>
opW (zFa t24_1 H24) fun t25_1 H26=>
K t25_1 H26))
theorem zvn{t0 t1:Value}{H:Heap}{K:VH}(h:zyl t0 t1 H K):wCall P zzf [t0,t1] H K:=zca rfl (Eq.mpr (by kernel_rfl) h)
noncomputable abbrev zPg:Code:=zrb P zIb 0
def zQg(l:List Value)(H:Heap)(N:LN)(Qx:LX)(Qr:LN):Prop:=
opP ((zma P .lss 3 false).f (nth l 5) (nth l 4)) fun t15=>
wIf t15 (
opP (zfd 1 (nth l 3) (nth l 5)) fun t16=>
opW (zba t16 H) fun t17 H3=>
opW (zLb .u64 t17 H3) fun t20 H5=>
opP ((zma P .mul 24 false).f t20 (nth l 2)) fun t22=>
opP ((zma P .add 24 false).f (nth l 1) t22) fun t23=>
opP ((zma P .mul 24 true).f (nth l 2) (.int .u64 256)) fun t25=>
opP ((zma P .add 3 true).f (nth l 5) (.int .i64 1)) fun t26=>
N [(nth l 0),t23,t25,(nth l 3),(nth l 4),t26] H5) (
Qx 0 [(nth l 0),(nth l 1)] H)
theorem zni:LpI P 28 zPg 48 zQg:=.mk (by kernel_rfl) fun l H N Qx Qr=>by kernel_rfl
def zWj(t0 t1:Value)(H:Heap)(K:VH):Prop:=
wCall P zrf [t1] H fun t11 H1=>
wCall P zXd [t0,t11] H1 fun t12 H3=>
opW (lenSl t12 H3) fun t13 H5=>
zob P true 28 zPg 48 [(.int .u64 0),(.int .u64 0),(.int .u64 1),t12,t13,(.int .i64 0)] H5 (fun id l H7=>
cond (Nat.beq id 0) (
K (nth l 1) H7) (
False)) (fun l H7=>
K (nth l 0) H7)
theorem zTl{t0 t1:Value}{H:Heap}{K:VH}(h:zWj t0 t1 H K):wCall P zIb [t0,t1] H K:=zca rfl (Eq.mpr (by kernel_rfl) h)
noncomputable abbrev zDg:Code:=zrb P zje 0
def zXj(l:List Value)(H:Heap)(N:LN)(Qx:LX)(Qr:LN):Prop:=
opP ((zma P .lss 3 false).f (nth l 4) (nth l 3)) fun t11=>
wIf t11 (
opP (zfd 1 (nth l 2) (nth l 4)) fun t13=>
opW (zba t13 H) fun t14 H3=>
opP (zza 32 1 (nth l 1) (nth l 4)) fun t17=>
opW (zka 1 t17 t14 H3) fun u H6=>
opP ((zma P .add 3 true).f (nth l 4) (.int .i64 1)) fun t18=>
N [(nth l 0),(nth l 1),(nth l 2),(nth l 3),t18] H6) (
Qx 0 [(nth l 0),(nth l 1)] H)
theorem zWk:LpI P 20 zDg 12 zXj:=.mk (by kernel_rfl) fun l H N Qx Qr=>by kernel_rfl
def zjp(t0:Value)(H:Heap)(K:VH):Prop:=
zZb (zc P 26) H fun t2 H1=>
opP ((zbb P 26).f []) fun t6=>
zZb (zc P 26) H1 fun t3 H4=>
opW (zka 32 t3 t6 H4) fun u H6=>
wCall P zXd [t0,(.int .i64 32)] H6 fun t8 H8=>
opW (lenSl t8 H8) fun t9 H10=>
zob P true 20 zDg 12 [t2,t3,t8,t9,(.int .i64 0)] H10 (fun id l H12=>
cond (Nat.beq id 0) (
opW (zja 32 (nth l 1) H12) fun t19 H14=>
opW (zka 32 (nth l 0) t19 H14) fun u_1 H16=>
opW (zja 32 (nth l 0) H16) fun r _=>
K r H16) (
False)) (fun l H12=>
opW (zja 32 (nth l 0) H12) fun r_1 _=>
K r_1 H12)
theorem znq{t0:Value}{H:Heap}{K:VH}(h:zjp t0 H K):wCall P zje [t0] H K:=zca rfl (Eq.mpr (by kernel_rfl) h)
def bytes_Equal(t0 t1:Value)(H:Heap)(K:VH):Prop:=
opW (zFa t0 H) fun t6 H1=>
opW (zFa t1 H1) fun t8 H3=>
opP ((zma P .eql 9 false).f t6 t8) fun t9=>
K t9 H3
theorem zxo{t0 t1:Value}{H:Heap}{K:VH}(h:bytes_Equal t0 t1 H K):wCall P zwg [t0,t1] H K:=zca rfl (Eq.mpr (by kernel_rfl) h)
def zXc(t0:Value)(H:Heap)(K:VH):Prop:=
zZb (zCa t0) H fun t1 H1=>
K (.func (.func zOa) [].toArray [t1].toArray) H1
theorem zNe{t0:Value}{H:Heap}{K:VH}(h:zXc t0 H K):wCall P zDc [t0] H K:=zca rfl (Eq.mpr (by kernel_rfl) h)
def zRg(t0 t1:Value)(H:Heap)(K:VH):Prop:=
opW (zqe H (zeA [t1,(.int .i64 0)])) fun t7 H1=>
zQb (fun J=>
opP (zta t0) fun t9=>
opP (zqa 1 t9) fun t10=>
opW (zba t10 H1) fun t11 H6=>
opP ((zma P .neq 30 true).f t11 (.int .i64 0)) fun t12=>
wIf t12 (
opP (zha t12 (.bool true) undef) fun t21=>
J [t0,t7,t21] H6) (
opP (zta t0) fun t16=>
opP (zqa 0 t16) fun t17=>
opW (zba t17 H6) fun t18 H12=>
opW (lenSl t18 H12) fun t19 H14=>
opP ((zma P .gtr 3 false).f t7 t19) fun t20=>
opP (zha t12 (.bool true) t20) fun t21_1=>
J [t0,t7,t21_1] H14)) (fun l H18=>
wIf (nth l 2) (
wCall P zyc [(nth l 0),(.int .i64 51)] H18 fun t23 H20=>
K (.slice none 0 0) H20) (
opP (zta (nth l 0)) fun t25=>
opP (zqa 0 t25) fun t26=>
opW (zba t26 H18) fun t27 H24=>
opP (zLa 1 t27 none (some (nth l 1)) none) fun t29=>
opP (zta (nth l 0)) fun t32=>
opP (zqa 0 t32) fun t33=>
opW (zba t33 H24) fun t34 H29=>
opP (zLa 1 t34 (some (nth l 1)) none none) fun t36=>
opP (zta (nth l 0)) fun t37=>
opP (zqa 0 t37) fun t38=>
opW (zka 1 t38 t36 H29) fun u H34=>
K t29 H34))
theorem zdj{t0 t1:Value}{H:Heap}{K:VH}(h:zRg t0 t1 H K):wCall P zwb [t0,t1] H K:=zca rfl (Eq.mpr (by kernel_rfl) h)
def zwn(t0:Value)(H:Heap)(K:VH):Prop:=
opW (zqe H (zdA [t0,(.int .i64 8)])) fun t4 H1=>
opW (zqe H1 (zeA [(.int .i64 0),t4])) fun t5 H3=>
K t5 H3
theorem zyo{t0:Value}{H:Heap}{K:VH}(h:zwn t0 H K):wCall P zLe [t0] H K:=zca rfl (Eq.mpr (by kernel_rfl) h)
noncomputable abbrev zzl:Code:=zrb P zxg 0
def zAl(l:List Value)(H:Heap)(N:LN)(Qx:LX)(Qr:LN):Prop:=
opP ((zma P .lss 3 false).f (nth l 4) (nth l 3)) fun t13=>
wIf t13 (
opP (zfd 1 (nth l 2) (nth l 4)) fun t14=>
opW (zba t14 H) fun t15 H3=>
opW (zbn t15 H3) fun t18 H5=>
opW (zLb .u8 t18 H5) fun t19 H7=>
opW (zbn t15 H7) fun t21 H9=>
opP ((zma P .shr 3 true).f t21 (.int .u64 8)) fun t22=>
opW (zLb .u8 t22 H9) fun t23 H12=>
opW ((zga P 22 2).f [(0,t19),(1,t23)] H12) fun t24 H14=>
opW (zoa 1 1 (nth l 1) t24 H14) fun t25 H16=>
opW (zoa 1 1 t25 t15 H16) fun t27 H18=>
opP ((zma P .add 3 true).f (nth l 4) (.int .i64 1)) fun t28=>
N [(nth l 0),t27,(nth l 2),(nth l 3),t28] H18) (
Qx 0 [(nth l 0),(nth l 1)] H)
theorem zUl:LpI P 30 zzl 48 zAl:=.mk (by kernel_rfl) fun l H N Qx Qr=>by kernel_rfl
def zCr(t0 t1:Value)(H:Heap)(K:VH):Prop:=
wCall P zjb [t0] H fun t9 H1=>
opW (lenSl t1 H1) fun t11 H3=>
zob P true 30 zzl 48 [(.slice none 0 0),t9,t1,t11,(.int .i64 0)] H3 (fun id l H5=>
cond (Nat.beq id 0) (
K (nth l 1) H5) (
False)) (fun l H5=>
K (nth l 0) H5)
theorem zDr{t0 t1:Value}{H:Heap}{K:VH}(h:zCr t0 t1 H K):wCall P zxg [t0,t1] H K:=zca rfl (Eq.mpr (by kernel_rfl) h)
noncomputable abbrev zIc:Code:=zrb P zPa 0
noncomputable abbrev zJc:Code:=zrb P zPa 1
def zKc(l:List Value)(H:Heap)(N:LN)(Qx:LX)(Qr:LN):Prop:=
opP ((zma P .lss 3 false).f (nth l 5) (nth l 4)) fun t12=>
wIf t12 (
opP (zfd 1 (nth l 3) (nth l 5)) fun t13=>
opW (zba t13 H) fun t14 H3=>
opW (lenSl t14 H3) fun t17 H5=>
opP ((zma P .add 3 false).f (nth l 2) t17) fun t18=>
opP ((zma P .lss 3 true).f t18 (.int .i64 0)) fun t20=>
wIf t20 (
False) (
opP ((zma P .add 3 true).f (nth l 5) (.int .i64 1)) fun t22=>
N [(nth l 0),(nth l 1),t18,(nth l 3),(nth l 4),t22] H5)) (
Qx 0 [(nth l 0),(nth l 1),(nth l 2)] H)
theorem zle:LpI P 36 zIc 13 zKc:=.mk (by kernel_rfl) fun l H N Qx Qr=>by kernel_rfl
def zLc(l:List Value)(H:Heap)(N:LN)(Qx:LX)(Qr:LN):Prop:=
opP ((zma P .lss 3 false).f (nth l 4) (nth l 3)) fun t28=>
wIf t28 (
opP (zfd 1 (nth l 2) (nth l 4)) fun t29=>
opW (zba t29 H) fun t30 H3=>
opW (zoa 1 1 (nth l 1) t30 H3) fun t33 H5=>
opP ((zma P .add 3 true).f (nth l 4) (.int .i64 1)) fun t34=>
N [(nth l 0),t33,(nth l 2),(nth l 3),t34] H5) (
Qx 2 [(nth l 0),(nth l 1)] H)
theorem zme:LpI P 36 zJc 68 zLc:=.mk (by kernel_rfl) fun l H N Qx Qr=>by kernel_rfl
def zCd(t0:Value)(H:Heap)(K:VH):Prop:=
opW (lenSl t0 H) fun t10 H1=>
zob P true 36 zIc 13 [t0,(.slice none 0 0),(.int .i64 0),t0,t10,(.int .i64 0)] H1 (fun id l H3=>
cond (Nat.beq id 0) (
wCall P zmc [(.slice none 0 0),(nth l 2)] H3 fun t24 H5=>
opW (lenSl (nth l 0) H5) fun t26 H7=>
zob P true 36 zJc 68 [(nth l 1),t24,(nth l 0),t26,(.int .i64 0)] H7 (fun id l_1 H9=>
cond (Nat.beq id 2) (
K (nth l_1 1) H9) (
False)) (fun l_1 H9=>
K (nth l_1 0) H9)) (
False)) (fun l H3=>
K (nth l 1) H3)
theorem zef{t0:Value}{H:Heap}{K:VH}(h:zCd t0 H K):wCall P zPa [t0] H K:=zca rfl (Eq.mpr (by kernel_rfl) h)
def zGd(t0:Value)(H:Heap)(K:VH):Prop:=
opP ((zma P .eql 22 true).f t0 (.slice none 0 0)) fun t4=>
wIf t4 (
K (.slice none 0 0) H) (
opW ((zga P 22 0).f [] H) fun t5 H2=>
opW (zoa 1 1 t5 t0 H2) fun t7 H4=>
K t7 H4)
theorem zDf{t0:Value}{H:Heap}{K:VH}(h:zGd t0 H K):wCall P zjb [t0] H K:=zca rfl (Eq.mpr (by kernel_rfl) h)
noncomputable abbrev zEg:Code:=zrb P zke 0
def zYj(l:List Value)(H:Heap)(N:LN)(Qx:LX)(Qr:LN):Prop:=
opP ((zma P .lss 3 false).f (nth l 3) (nth l 2)) fun t21=>
wIf t21 (
opP (zfd 3 (nth l 1) (nth l 3)) fun t23=>
opW (zja 3 t23 H) fun t24 H3=>
zZb (zc P 109) H3 fun t5 H5=>
opW (zka 3 t5 t24 H5) fun u H7=>
opP (zqa 0 t5) fun t25=>
opW (zba t25 H7) fun t26 H10=>
opW (zLb .i32 t26 H10) fun t27 H12=>
zQb (fun J=>
opP (zqa 2 t5) fun t28=>
opW (zba t28 H12) fun t29 H16=>
opP (unA .not t29) fun t30=>
wIf t30 (
wCall P zsf [t27] H16 fun t33 H19=>
opP (zha t30 t33 (.bool false)) fun t34=>
J [(nth l 0),(nth l 3),t5,t27,t34,(nth l 1),(nth l 2),(nth l 3)] H19) (
opP (zha t30 undef (.bool false)) fun t34_1=>
J [(nth l 0),(nth l 3),t5,t27,t34_1,(nth l 1),(nth l 2),(nth l 3)] H16)) (fun l_1 H23=>
zQb (fun J_1=>
opP ((zma P .gtr 3 true).f (nth l_1 1) (.int .i64 0)) fun t36=>
wIf t36 (
opP (zqa 2 (nth l_1 2)) fun t38=>
opW (zba t38 H23) fun t39 H28=>
opP (unA .not t39) fun t40=>
opP (zha t36 t40 (.bool false)) fun t41=>
wIf t41 (
wCall P zSf [(nth l_1 3)] H28 fun t44 H32=>
wIf t44 (
opP (zha t44 (.bool true) undef) fun t49=>
opP (zha t49 (.bool true) undef) fun t54=>
opP (zha t54 (.bool true) undef) fun t59=>
opP (zha t41 t59 (.bool false)) fun t60=>
wIf t60 (
J_1 [(nth l_1 0),(.bool true),(nth l_1 5),(nth l_1 6),(nth l_1 7)] H32) (
J_1 [(nth l_1 0),(nth l_1 4),(nth l_1 5),(nth l_1 6),(nth l_1 7)] H32)) (
opP (zqa 1 (nth l_1 2)) fun t46=>
opW (zba t46 H32) fun t47 H39=>
opP ((zma P .eql 9 true).f t47 (.string ⟨#[45]⟩)) fun t48=>
opP (zha t44 (.bool true) t48) fun t49_1=>
wIf t49_1 (
opP (zha t49_1 (.bool true) undef) fun t54_1=>
opP (zha t54_1 (.bool true) undef) fun t59_1=>
opP (zha t41 t59_1 (.bool false)) fun t60_1=>
wIf t60_1 (
J_1 [(nth l_1 0),(.bool true),(nth l_1 5),(nth l_1 6),(nth l_1 7)] H39) (
J_1 [(nth l_1 0),(nth l_1 4),(nth l_1 5),(nth l_1 6),(nth l_1 7)] H39)) (
opP (zqa 1 (nth l_1 2)) fun t51=>
opW (zba t51 H39) fun t52 H47=>
opP ((zma P .eql 9 true).f t52 (.string ⟨#[95]⟩)) fun t53=>
opP (zha t49_1 (.bool true) t53) fun t54_2=>
wIf t54_2 (
opP (zha t54_2 (.bool true) undef) fun t59_2=>
opP (zha t41 t59_2 (.bool false)) fun t60_2=>
wIf t60_2 (
J_1 [(nth l_1 0),(.bool true),(nth l_1 5),(nth l_1 6),(nth l_1 7)] H47) (
J_1 [(nth l_1 0),(nth l_1 4),(nth l_1 5),(nth l_1 6),(nth l_1 7)] H47)) (
opP (zqa 1 (nth l_1 2)) fun t56=>
opW (zba t56 H47) fun t57 H54=>
opP ((zma P .eql 9 true).f t57 (.string ⟨#[46]⟩)) fun t58=>
opP (zha t54_2 (.bool true) t58) fun t59_3=>
opP (zha t41 t59_3 (.bool false)) fun t60_3=>
wIf t60_3 (
J_1 [(nth l_1 0),(.bool true),(nth l_1 5),(nth l_1 6),(nth l_1 7)] H54) (
J_1 [(nth l_1 0),(nth l_1 4),(nth l_1 5),(nth l_1 6),(nth l_1 7)] H54))))) (
opP (zha t41 undef (.bool false)) fun t60_4=>
wIf t60_4 (
J_1 [(nth l_1 0),(.bool true),(nth l_1 5),(nth l_1 6),(nth l_1 7)] H28) (
J_1 [(nth l_1 0),(nth l_1 4),(nth l_1 5),(nth l_1 6),(nth l_1 7)] H28))) (
opP (zha t36 undef (.bool false)) fun t41_1=>
opP (zha t41_1 undef (.bool false)) fun t60_5=>
wIf t60_5 (
J_1 [(nth l_1 0),(.bool true),(nth l_1 5),(nth l_1 6),(nth l_1 7)] H23) (
J_1 [(nth l_1 0),(nth l_1 4),(nth l_1 5),(nth l_1 6),(nth l_1 7)] H23))) (fun l_2 H62=>
opP (unA .not (nth l_2 1)) fun t62=>
wIf t62 (
Qr [(.int .i64 41)] H62) (
opP ((zma P .add 3 true).f (nth l_2 4) (.int .i64 1)) fun t63=>
N [(nth l_2 0),(nth l_2 2),(nth l_2 3),t63] H62)))) (
Qx 0 [(nth l 0)] H)
theorem zXk:LpI P 64 zEg 4 zYj:=.mk (by kernel_rfl) fun l H N Qx Qr=>by kernel_rfl
def zkp(t0:Value)(H:Heap)(K:VH):Prop:=
wCall P zMe [t0] H fun t9 H1=>
zQb (fun J=>
opW (lenSl t9 H1) fun t11 H4=>
opP ((zma P .eql 3 true).f t11 (.int .i64 0)) fun t12=>
wIf t12 (
opP (zha t12 (.bool true) undef) fun t17=>
wIf t17 (
K (.int .i64 41) H4) (
J [(.int .i64 0),t9] H4)) (
opW (lenSl t9 H4) fun t15 H8=>
opP ((zma P .gtr 3 true).f t15 (.int .i64 24)) fun t16=>
opP (zha t12 (.bool true) t16) fun t17_1=>
wIf t17_1 (
K (.int .i64 41) H8) (
J [(.int .i64 0),t9] H8))) (fun l H12=>
opW (lenSl (nth l 1) H12) fun t19 H14=>
zob P true 64 zEg 4 [(nth l 0),(nth l 1),t19,(.int .i64 0)] H14 (fun id l_1 H16=>
cond (Nat.beq id 0) (
K (.int .i64 0) H16) (
False)) (fun l_1 H16=>
K (nth l_1 0) H16))
theorem zoq{t0:Value}{H:Heap}{K:VH}(h:zkp t0 H K):wCall P zke [t0] H K:=zca rfl (Eq.mpr (by kernel_rfl) h)
def zxn(t0 t1:Value)(H:Heap)(K:VH):Prop:=
zQb (fun J=>
opP ((zma P .lss 3 true).f t0 (.int .i64 1)) fun t7=>
wIf t7 (
opP (zha t7 (.bool true) undef) fun t11=>
wIf t11 (
K (.int .i64 0) H) (
J [t0,t1] H)) (
opP ((zma P .lss 3 true).f t1 (.int .i64 1)) fun t10=>
opP (zha t7 (.bool true) t10) fun t11_1=>
wIf t11_1 (
K (.int .i64 0) H) (
J [t0,t1] H))) (fun l H6=>
opP ((zma P .quo 3 false).f (nth l 0) (nth l 1)) fun t14=>
opP ((zma P .rem 3 false).f (nth l 0) (nth l 1)) fun t17=>
opP ((zma P .gtr 3 true).f t17 (.int .i64 0)) fun t18=>
wIf t18 (
opP ((zma P .add 3 true).f t14 (.int .i64 1)) fun t20=>
K t20 H6) (
K t14 H6))
theorem zzo{t0 t1:Value}{H:Heap}{K:VH}(h:zxn t0 t1 H K):wCall P zyg [t0,t1] H K:=zca rfl (Eq.mpr (by kernel_rfl) h)
def zlp(t0:Value)(H:Heap)(K:VH):Prop:=
opW (zbn t0 H) fun t4 H1=>
opW (zLb .u64 t4 H1) fun t5 H3=>
wCall P zOb [t5,(.int .i64 2)] H3 fun t6 H5=>
opW (zJd t0 H5) fun t8 H7=>
opW (zoa 1 1 t6 t8 H7) fun t9 H9=>
K t9 H9
theorem zpq{t0:Value}{H:Heap}{K:VH}(h:zlp t0 H K):wCall P zph [t0] H K:=zca rfl (Eq.mpr (by kernel_rfl) h)
def zmp(t0:Value)(H:Heap)(K:VH):Prop:=
opP ((zma P .lss 3 true).f t0 (.int .i64 0)) fun t4=>
wIf t4 (
K (.int .i64 0) H) (
opP ((zma P .gtr 3 true).f t0 (.int .i64 8)) fun t6=>
wIf t6 (
K (.int .i64 8) H) (
K t0 H))
theorem zqq{t0:Value}{H:Heap}{K:VH}(h:zmp t0 H K):wCall P zrf [t0] H K:=zca rfl (Eq.mpr (by kernel_rfl) h)
noncomputable abbrev zJi:Code:=zrb P zMe 0
def zKi(l:List Value)(H:Heap)(N:LN)(Qx:LX)(Qr:LN):Prop:=
opP ((zma P .neq 9 true).f (nth l 0) (.string ⟨#[]⟩)) fun t7=>
wIf t7 (
wCall P zzg [(nth l 0)] H fun t9 H2=>
zZb (zc P 109) H2 fun t4 H4=>
opW (zka 3 t4 t9 H4) fun u H6=>
opW (zja 3 t4 H6) fun t11 H8=>
opW ((zga P 106 1).f [(0,t11)] H8) fun t12 H10=>
opW (zoa 3 32 (nth l 2) t12 H10) fun t13 H12=>
opP (zqa 1 t4) fun t15=>
opW (zba t15 H12) fun t16 H15=>
opW (zbn t16 H15) fun t17 H17=>
opP (zhf (nth l 0) (some t17) none none) fun t18=>
N [t18,(nth l 1),t13] H17) (
Qx 0 [(nth l 1),(nth l 2)] H)
theorem zZj:LpI P 20 zJi 12 zKi:=.mk (by kernel_rfl) fun l H N Qx Qr=>by kernel_rfl
def zyn(t0:Value)(H:Heap)(K:VH):Prop:=
opW ((zga P 106 0).f [] H) fun t5 H1=>
zob P true 20 zJi 12 [t0,(.slice none 0 0),t5] H1 (fun id l H3=>
cond (Nat.beq id 0) (
K (nth l 1) H3) (
False)) (fun l H3=>
K (nth l 0) H3)
theorem zAo{t0:Value}{H:Heap}{K:VH}(h:zyn t0 H K):wCall P zMe [t0] H K:=zca rfl (Eq.mpr (by kernel_rfl) h)
def zBl(H:Heap)(K:VH):Prop:=
zZb (zc P 113) H fun t0 H1=>
opP ((zbb P 113).f [(0,(.int .u32 1779033703)),(1,(.int .u32 3144134277)),(2,(.int .u32 1013904242)),(3,(.int .u32 2773480762)),(4,(.int .u32 1359893119)),(5,(.int .u32 2600822924)),(6,(.int .u32 528734635)),(7,(.int .u32 1541459225))]) fun t1=>
opW (zka 8 t0 t1 H1) fun u H4=>
opW (zja 8 t0 H4) fun r _=>
K r H4
theorem zzn{H:Heap}{K:VH}(h:zBl  H K):wCall P zAf [] H K:=zca rfl (Eq.mpr (by kernel_rfl) h)
noncomputable abbrev zid:Code:=zrb P zPb 0
noncomputable abbrev zjd:Code:=zrb P zPb 1
def zYe(l:List Value)(H:Heap)(N:LN)(Qx:LX)(Qr:LN):Prop:=
opP ((zma P .lss 3 true).f (nth l 5) (.int .i64 64)) fun t19=>
wIf t19 (
opP (zza 8 1 (nth l 4) (.int .i64 0)) fun t21=>
opW (zba t21 H) fun t22 H3=>
opP (zza 8 1 (nth l 4) (.int .i64 4)) fun t23=>
opW (zba t23 H3) fun t24 H6=>
opP (zza 8 1 (nth l 4) (.int .i64 7)) fun t25=>
opW (zba t25 H6) fun t26 H9=>
opW ((zga P 160 3).f [(0,(.int .i64 6)),(1,(.int .i64 11)),(2,(.int .i64 25))] H9) fun t28 H11=>
wCall P znc [t24,t28] H11 fun t29 H13=>
zgb (zcb H11 H13) (zDa [t25])∧(opP ((zma P .add 111 false).f t26 t29) fun t30=>
opP (zza 8 1 (nth l 4) (.int .i64 5)) fun t32=>
opW (zba t32 H13) fun t33 H17=>
zgb (zcb H11 H13) (zDa [t32])∧(zGq (zDa [t32]) H9.next H11.next∧(opP ((zma P .and 111 false).f t24 t33) fun t34=>
opP (unA .xor t24) fun t36=>
opP (zza 8 1 (nth l 4) (.int .i64 6)) fun t37=>
opW (zba t37 H17) fun t38 H22=>
zgb (zcb H11 H13) (zDa [t37])∧(zGq (zDa [t37]) H9.next H11.next∧(opP ((zma P .and 111 false).f t36 t38) fun t39=>
opP ((zma P .xor 111 false).f t34 t39) fun t40=>
opP ((zma P .add 111 false).f t30 t40) fun t41=>
opP (zta (nth l 3)) fun t44=>
opP (zza 64 1 t44 (nth l 5)) fun t45=>
opW (zba t45 H22) fun t46 H29=>
zgb (zcb H11 H13) (zDa [t45])∧(zGq (zDa [t45]) H9.next H11.next∧(opP ((zma P .add 111 false).f t41 t46) fun t47=>
opP (zza 64 1 (nth l 2) (nth l 5)) fun t49=>
opW (zba t49 H29) fun t50 H33=>
zgb (zcb H11 H13) (zDa [t49])∧(zGq (zDa [t49]) H9.next H11.next∧(opP ((zma P .add 111 false).f t47 t50) fun t51=>
opW ((zga P 160 3).f [(0,(.int .i64 2)),(1,(.int .i64 13)),(2,(.int .i64 22))] H33) fun t53 H36=>
wCall P znc [t22,t53] H36 fun t54 H38=>
opP (zza 8 1 (nth l 4) (.int .i64 1)) fun t56=>
opW (zba t56 H38) fun t57 H41=>
zgb (zcb H36 H38) (zDa [t56])∧(zGq (zDa [t56]) H33.next H36.next∧(opP ((zma P .and 111 false).f t22 t57) fun t58=>
opP (zza 8 1 (nth l 4) (.int .i64 2)) fun t60=>
opW (zba t60 H41) fun t61 H45=>
zgb (zcb H36 H38) (zDa [t60])∧(zGq (zDa [t60]) H33.next H36.next∧(opP ((zma P .and 111 false).f t22 t61) fun t62=>
opP ((zma P .xor 111 false).f t58 t62) fun t63=>
opP (zza 8 1 (nth l 4) (.int .i64 1)) fun t64=>
opW (zba t64 H45) fun t65 H50=>
zgb (zcb H36 H38) (zDa [t64])∧(zGq (zDa [t64]) H33.next H36.next∧(opP (zza 8 1 (nth l 4) (.int .i64 2)) fun t66=>
opW (zba t66 H50) fun t67 H53=>
zgb (zcb H36 H38) (zDa [t66])∧(zGq (zDa [t66]) H33.next H36.next∧(opP ((zma P .and 111 false).f t65 t67) fun t68=>
opP ((zma P .xor 111 false).f t63 t68) fun t69=>
opP ((zma P .add 111 false).f t54 t69) fun t70=>
opP (zdb 8 1 (nth l 4) (some (.int .i64 1)) none none H53) fun t71=>
opP (zdb 8 1 (nth l 4) none (some (.int .i64 7)) none H53) fun t72=>
opW (zJg 1 t71 t72 H53) fun t73 H60=>
opP (zza 8 1 (nth l 4) (.int .i64 4)) fun t74=>
opW (zba t74 H60) fun t75 H63=>
opP ((zma P .add 111 false).f t75 t51) fun t77=>
opP (zza 8 1 (nth l 4) (.int .i64 4)) fun t78=>
opW (zka 1 t78 t77 H63) fun u H67=>
opP ((zma P .add 111 false).f t51 t70) fun t81=>
opP (zza 8 1 (nth l 4) (.int .i64 0)) fun t82=>
opW (zka 1 t82 t81 H67) fun u_1 H71=>
opP ((zma P .add 3 true).f (nth l 5) (.int .i64 1)) fun t83=>
N [(nth l 0),(nth l 1),(nth l 2),(nth l 3),(nth l 4),t83] H71)))))))))))))))))) (
Qx 0 [(nth l 0),(nth l 1),(nth l 4)] H)
theorem zFg:LpI P 97 zid 148 zYe:=.mk (by kernel_rfl) fun l H N Qx Qr=>by kernel_rfl
def zZe(l:List Value)(H:Heap)(N:LN)(Qx:LX)(Qr:LN):Prop:=
opP ((zma P .lss 3 true).f (nth l 3) (.int .i64 8)) fun t85=>
wIf t85 (
opP (zza 8 1 (nth l 0) (nth l 3)) fun t88=>
opW (zba t88 H) fun t89 H3=>
opP (zza 8 1 (nth l 2) (nth l 3)) fun t91=>
opW (zba t91 H3) fun t92 H6=>
opP ((zma P .add 111 false).f t89 t92) fun t93=>
opP (zza 8 1 (nth l 0) (nth l 3)) fun t94=>
opW (zka 1 t94 t93 H6) fun u H10=>
opP ((zma P .add 3 true).f (nth l 3) (.int .i64 1)) fun t95=>
N [(nth l 0),(nth l 1),(nth l 2),t95] H10) (
Qx 2 [(nth l 0),(nth l 1)] H)
theorem zGg:LpI P 97 zjd 20 zZe:=.mk (by kernel_rfl) fun l H N Qx Qr=>by kernel_rfl
def zSg(t0 t1:Value)(H:Heap)(K:VH):Prop:=
zZb (zCa t0) H fun t2 H1=>
zZb (zc P 113) H1 fun t4 H3=>
wCall P zBd [t1] H3 fun t15 H5=>
wCall P zBf [] H5 fun t16 H7=>
zZb (zc P 139) H7 fun t5 H9=>
opW (zka 64 t5 t15 H9) fun u H11=>
opW (zja 8 t2 H11) fun t17 H13=>
zZb (zc P 113) H13 fun t7 H15=>
opW (zka 8 t7 t17 H15) fun u_1 H17=>
zob P true 97 zid 148 [t2,t4,t5,t16,t7,(.int .i64 0)] H17 (fun id l H19=>
cond (Nat.beq id 0) (
zob P true 97 zjd 20 [(nth l 0),(nth l 1),(nth l 2),(.int .i64 0)] H19 (fun id l_1 H21=>
cond (Nat.beq id 2) (
opW (zja 8 (nth l_1 0) H21) fun t96 H23=>
opW (zka 8 (nth l_1 1) t96 H23) fun u_2 H25=>
opW (zja 8 (nth l_1 1) H25) fun r _=>
K r H25) (
False)) (fun l_1 H21=>
opW (zja 8 (nth l_1 1) H21) fun r_1 _=>
K r_1 H21)) (
False)) (fun l H19=>
opW (zja 8 (nth l 1) H19) fun r_2 _=>
K r_2 H19)
theorem zej{t0 t1:Value}{H:Heap}{K:VH}(h:zSg t0 t1 H K):wCall P zPb [t0,t1] H K:=zca rfl (Eq.mpr (by kernel_rfl) h)
def ztf(t0:Value)(H:Heap)(K:VH):Prop:=
opP (zta t0) fun t4=>
opP (zqa 0 t4) fun t5=>
opW (zja 8 t5 H) fun t6 H3=>
opP (zta t0) fun t8=>
opP (zqa 8 t8) fun t9=>
opW (zba t9 H3) fun t10 H7=>
opW (zoa 1 1 (.slice none 0 0) t10 H7) fun t11 H9=>
zql (zDa [t5]) (zDa [(.slice none 0 0),t10])∧(opP (zta t0) fun t13=>
opP (zqa 9 t13) fun t14=>
opW (zba t14 H9) fun t15 H13=>
zql (zDa [(.slice none 0 0),t10]) (zDa [t14])∧zGq (zDa [t14]) H7.next H9.next∧(opP ((zbb P 116).f [(0,t6),(1,t11),(2,t15)]) fun t16=>
zZb (zCa t16) H13 fun t17 H16=>
K t17 H16))
theorem zyh{t0:Value}{H:Heap}{K:VH}(h:ztf t0 H K):wCall P zNc [t0] H K:=zca rfl (Eq.mpr (by kernel_rfl) h)
def zTg(t0 t1:Value)(H:Heap)(K:VH):Prop:=
opP (zta t0) fun t5=>
opP (zqa 1 t5) fun t6=>
opW (zba t6 H) fun t7 H3=>
opP ((zma P .eql 30 true).f t7 (.int .i64 0)) fun t8=>
wIf t8 (
opP (zta t0) fun t11=>
opP (zqa 1 t11) fun t12=>
opW (zka 1 t12 t1 H3) fun u H8=>
opP (zta t0) fun t14=>
opP (zqa 0 t14) fun t15=>
opW (zka 1 t15 (.slice none 0 0) H8) fun u_1 H12=>
K (.tuple [].toArray) H12) (
opP (zta t0) fun t14_1=>
opP (zqa 0 t14_1) fun t15_1=>
opW (zka 1 t15_1 (.slice none 0 0) H3) fun u_2 H16=>
K (.tuple [].toArray) H16)
theorem zfj{t0 t1:Value}{H:Heap}{K:VH}(h:zTg t0 t1 H K):wCall P zyc [t0,t1] H K:=zca rfl (Eq.mpr (by kernel_rfl) h)
def zzh(t0 t1:Value)(H:Heap)(K:VH):Prop:=
wCall P zwb [t0,t1] H fun t7 H1=>
wCall P zjb [t7] H1 fun t8 H3=>
K t8 H3
theorem zak{t0 t1:Value}{H:Heap}{K:VH}(h:zzh t0 t1 H K):wCall P zWd [t0,t1] H K:=zca rfl (Eq.mpr (by kernel_rfl) h)
end
end J
set_option maxRecDepth 100000
namespace J
open Go Go.Ab
noncomputable section
noncomputable abbrev zAh:Code:=zrb P zub 0
noncomputable abbrev zBh:Code:=zrb P zub 1
noncomputable abbrev zCh:Code:=zrb P zub 2
noncomputable abbrev zDh:Code:=zrb P zub 3
noncomputable abbrev zEh:Code:=zrb P zub 4
noncomputable abbrev zFh:Code:=zrb P zub 5
noncomputable abbrev zGh:Code:=zrb P zub 6
noncomputable abbrev zHh:Code:=zrb P zub 7
def zCl(l:List Value)(H:Heap)(N:LN)(Qx:LX)(Qr:LN):Prop:=
opW (lenSl (nth l 2) H) fun t31 H1=>
opP ((zma P .rem 3 true).f t31 (.int .i64 64)) fun t32=>
opP ((zma P .neq 3 true).f t32 (.int .i64 56)) fun t33=>
wIf t33 (
opW ((zga P 22 1).f [(0,(.int .u8 0))] H1) fun t35 H5=>
opW (zoa 1 1 (nth l 2) t35 H5) fun t36 H7=>
N [(nth l 0),(nth l 1),t36] H7) (
Qx 0 [(nth l 0),(nth l 1),(nth l 2)] H1)
theorem zVl:LpI P 252 zAh 13 zCl:=.mk (by kernel_rfl) fun l H N Qx Qr=>by kernel_rfl
def zDl(l:List Value)(H:Heap)(N:LN)(Qx:LX)(Qr:LN):Prop:=
opP ((zma P .lss 3 true).f (nth l 4) (.int .i64 8)) fun t42=>
wIf t42 (
opP ((zma P .quo 24 false).f (nth l 2) (nth l 3)) fun t48=>
opP ((zma P .rem 24 true).f t48 (.int .u64 256)) fun t49=>
opW (zLb .u8 t49 H) fun t50 H4=>
opW ((zga P 22 1).f [(0,t50)] H4) fun t51 H6=>
opW (zoa 1 1 (nth l 1) t51 H6) fun t52 H8=>
opP ((zma P .quo 24 true).f (nth l 3) (.int .u64 256)) fun t54=>
opP ((zma P .add 3 true).f (nth l 4) (.int .i64 1)) fun t44=>
N [(nth l 0),t52,(nth l 2),t54,t44] H8) (
Qx 2 [(nth l 0),(nth l 1)] H)
theorem zWl:LpI P 252 zBh 12 zDl:=.mk (by kernel_rfl) fun l H N Qx Qr=>by kernel_rfl
def zEl(l:List Value)(H:Heap)(N:LN)(Qx:LX)(Qr:LN):Prop:=
opW (lenSl (nth l 1) H) fun t59 H1=>
opP ((zma P .lss 3 false).f (nth l 4) t59) fun t60=>
wIf t60 (
opP ((zbb P 147).f []) fun t63=>
zZb (zc P 147) H1 fun t10 H5=>
opW (zka 64 t10 t63 H5) fun u H7=>
zob P true 252 zDh 1932 [(nth l 0),(nth l 1),(nth l 2),(nth l 3),(nth l 4),t10,(.int .i64 0)] H7 (fun id l_1 H9=>
cond (Nat.beq id 6) (
opW (zja 8 (nth l_1 2) H9) fun t129 H11=>
zZb (zc P 145) H11 fun t15 H13=>
opW (zka 8 t15 t129 H13) fun u_1 H15=>
zob P true 252 zFh 33676 [(nth l_1 0),(nth l_1 1),(nth l_1 2),(nth l_1 3),(nth l_1 4),(nth l_1 5),t15,(.int .i64 0)] H15 (fun id l_2 H17=>
cond (Nat.beq id 10) (
zob P true 252 zGh 908 [(nth l_2 0),(nth l_2 1),(nth l_2 2),(nth l_2 3),(nth l_2 4),(nth l_2 5),(.int .i64 0)] H17 (fun id l_3 H19=>
cond (Nat.beq id 12) (
opP ((zma P .add 3 true).f (nth l_3 4) (.int .i64 64)) fun t62=>
N [(nth l_3 0),(nth l_3 1),(nth l_3 2),(nth l_3 3),t62] H19) (
cond (Nat.beq id 5) (
opP ((zma P .add 3 true).f (nth l_3 4) (.int .i64 64)) fun t62_1=>
N [(nth l_3 0),(nth l_3 1),(nth l_3 2),(nth l_3 3),t62_1] H19) (
Qx id [(nth l_3 0),(nth l_3 2)] H19))) (fun l_3 H19=>
Qr [(nth l_3 0),(nth l_3 2)] H19)) (
cond (Nat.beq id 5) (
opP ((zma P .add 3 true).f (nth l_2 4) (.int .i64 64)) fun t62_2=>
N [(nth l_2 0),(nth l_2 1),(nth l_2 2),(nth l_2 3),t62_2] H17) (
Qx id [(nth l_2 0),(nth l_2 2)] H17))) (fun l_2 H17=>
Qr [(nth l_2 0),(nth l_2 2)] H17)) (
cond (Nat.beq id 5) (
opP ((zma P .add 3 true).f (nth l_1 4) (.int .i64 64)) fun t62_3=>
N [(nth l_1 0),(nth l_1 1),(nth l_1 2),(nth l_1 3),t62_3] H9) (
Qx id [(nth l_1 0),(nth l_1 2)] H9))) (fun l_1 H9=>
Qr [(nth l_1 0),(nth l_1 2)] H9)) (
Qx 4 [(nth l 0),(nth l 2)] H1)
theorem zXl:LpI P 252 zCh 132 zEl:=.mk (by kernel_rfl) fun l H N Qx Qr=>by kernel_rfl
def zFl(l:List Value)(H:Heap)(N:LN)(Qx:LX)(Qr:LN):Prop:=
opP ((zma P .lss 3 true).f (nth l 3) (.int .i64 32)) fun t235=>
wIf t235 (
opP ((zma P .quo 3 true).f (nth l 3) (.int .i64 4)) fun t239=>
opP (zza 8 1 (nth l 1) t239) fun t240=>
opW (zba t240 H) fun t241 H4=>
opP ((zma P .rem 3 true).f (nth l 3) (.int .i64 4)) fun t243=>
opP ((zma P .mul 3 true).f (.int .i64 8) t243) fun t244=>
opP ((zma P .sub 3 true).f (.int .i64 24) t244) fun t245=>
opP ((zma P .shr 24 false).f t241 t245) fun t246=>
opP ((zma P .rem 24 true).f t246 (.int .u64 256)) fun t247=>
opW (zLb .u8 t247 H4) fun t248 H11=>
opP (zza 32 1 (nth l 2) (nth l 3)) fun t249=>
opW (zka 1 t249 t248 H11) fun u H14=>
opP ((zma P .add 3 true).f (nth l 3) (.int .i64 1)) fun t250=>
N [(nth l 0),(nth l 1),(nth l 2),t250] H14) (
Qx 14 [(nth l 0),(nth l 2)] H)
theorem zYl:LpI P 252 zHh 8388612 zFl:=.mk (by kernel_rfl) fun l H N Qx Qr=>by kernel_rfl
def zGl(l:List Value)(H:Heap)(N:LN)(Qx:LX)(Qr:LN):Prop:=
opP ((zma P .lss 3 true).f (nth l 6) (.int .i64 64)) fun t65=>
wIf t65 (
opP ((zma P .lss 3 true).f (nth l 6) (.int .i64 16)) fun t69=>
wIf t69 (
zob P true 252 zEh 3980 [(nth l 0),(nth l 1),(nth l 2),(nth l 3),(nth l 4),(nth l 5),(nth l 6),(.int .i64 0)] H (fun id l_1 H3=>
cond (Nat.beq id 8) (
opP ((zma P .add 3 true).f (nth l_1 6) (.int .i64 1)) fun t67=>
N [(nth l_1 0),(nth l_1 1),(nth l_1 2),(nth l_1 3),(nth l_1 4),(nth l_1 5),t67] H3) (
cond (Nat.beq id 7) (
opP ((zma P .add 3 true).f (nth l_1 6) (.int .i64 1)) fun t67_1=>
N [(nth l_1 0),(nth l_1 1),(nth l_1 2),(nth l_1 3),(nth l_1 4),(nth l_1 5),t67_1] H3) (
Qx id [(nth l_1 0),(nth l_1 1),(nth l_1 2),(nth l_1 3),(nth l_1 4),(nth l_1 5)] H3))) (fun l_1 H3=>
Qr [(nth l_1 0),(nth l_1 1),(nth l_1 2),(nth l_1 3),(nth l_1 4),(nth l_1 5)] H3)) (
opP ((zma P .sub 3 true).f (nth l 6) (.int .i64 15)) fun t92=>
opP (zza 64 1 (nth l 5) t92) fun t93=>
opW (zba t93 H) fun t94 H9=>
opP ((zma P .sub 3 true).f (nth l 6) (.int .i64 2)) fun t96=>
opP (zza 64 1 (nth l 5) t96) fun t97=>
opW (zba t97 H9) fun t98 H13=>
opP ((zma P .sub 3 true).f (nth l 6) (.int .i64 16)) fun t101=>
opP (zza 64 1 (nth l 5) t101) fun t102=>
opW (zba t102 H13) fun t103 H17=>
wCall P zeb [t94,(.int .u64 7)] H17 fun t105 H19=>
zgb (zcb H17 H19) (zDa [t102])∧(wCall P zeb [t94,(.int .u64 18)] H19 fun t107 H21=>
zgb (zcb H19 H21) (zDa [t102])∧(opP ((zma P .xor 24 false).f t105 t107) fun t108=>
opP ((zma P .shr 24 true).f t94 (.int .u64 3)) fun t110=>
opP ((zma P .xor 24 false).f t108 t110) fun t111=>
opP ((zma P .add 24 false).f t103 t111) fun t112=>
opP ((zma P .sub 3 true).f (nth l 6) (.int .i64 7)) fun t114=>
opP (zza 64 1 (nth l 5) t114) fun t115=>
opW (zba t115 H21) fun t116 H29=>
zgb (zcb H19 H21) (zDa [t115])∧(zgb (zcb H17 H19) (zDa [t115])∧(opP ((zma P .add 24 false).f t112 t116) fun t117=>
wCall P zeb [t98,(.int .u64 17)] H29 fun t119 H32=>
zgb (zcb H29 H32) (zDa [t115])∧(zgb (zcb H29 H32) (zDa [t102])∧(wCall P zeb [t98,(.int .u64 19)] H32 fun t121 H34=>
zgb (zcb H32 H34) (zDa [t115])∧(zgb (zcb H32 H34) (zDa [t102])∧(opP ((zma P .xor 24 false).f t119 t121) fun t122=>
opP ((zma P .shr 24 true).f t98 (.int .u64 10)) fun t124=>
opP ((zma P .xor 24 false).f t122 t124) fun t125=>
opP ((zma P .add 24 false).f t117 t125) fun t126=>
opP ((zma P .rem 24 true).f t126 (.int .u64 4294967296)) fun t127=>
opP (zza 64 1 (nth l 5) (nth l 6)) fun t128=>
opW (zka 1 t128 t127 H34) fun u H42=>
opP ((zma P .add 3 true).f (nth l 6) (.int .i64 1)) fun t67_2=>
N [(nth l 0),(nth l 1),(nth l 2),(nth l 3),(nth l 4),(nth l 5),t67_2] H42)))))))))) (
Qx 6 [(nth l 0),(nth l 1),(nth l 2),(nth l 3),(nth l 4),(nth l 5)] H)
theorem zZl:LpI P 252 zDh 1932 zGl:=.mk (by kernel_rfl) fun l H N Qx Qr=>by kernel_rfl
def zHl(l:List Value)(H:Heap)(N:LN)(Qx:LX)(Qr:LN):Prop:=
opP ((zma P .lss 3 true).f (nth l 7) (.int .i64 64)) fun t131=>
wIf t131 (
opP (zza 8 1 (nth l 6) (.int .i64 4)) fun t134=>
opW (zba t134 H) fun t135 H3=>
opP (zza 8 1 (nth l 6) (.int .i64 5)) fun t137=>
opW (zba t137 H3) fun t138 H6=>
opP ((zma P .and 24 false).f t135 t138) fun t139=>
opP ((zma P .sub 24 true).f (.int .u64 4294967295) t135) fun t141=>
opP (zza 8 1 (nth l 6) (.int .i64 6)) fun t142=>
opW (zba t142 H6) fun t143 H11=>
opP ((zma P .and 24 false).f t141 t143) fun t144=>
opP ((zma P .xor 24 false).f t139 t144) fun t145=>
opP (zza 8 1 (nth l 6) (.int .i64 7)) fun t146=>
opW (zba t146 H11) fun t147 H16=>
wCall P zeb [t135,(.int .u64 6)] H16 fun t149 H18=>
zgb (zcb H16 H18) (zDa [t146])∧(wCall P zeb [t135,(.int .u64 11)] H18 fun t151 H20=>
zgb (zcb H18 H20) (zDa [t146])∧(opP ((zma P .xor 24 false).f t149 t151) fun t152=>
wCall P zeb [t135,(.int .u64 25)] H20 fun t154 H23=>
zgb (zcb H20 H23) (zDa [t146])∧(opP ((zma P .xor 24 false).f t152 t154) fun t155=>
opP ((zma P .add 24 false).f t147 t155) fun t156=>
opP ((zma P .add 24 false).f t156 t145) fun t158=>
opP (zza 64 1 (nth l 3) (nth l 7)) fun t160=>
opW (zba t160 H23) fun t161 H29=>
zgb (zcb H20 H23) (zDa [t160])∧(zgb (zcb H18 H20) (zDa [t160])∧(zgb (zcb H16 H18) (zDa [t160])∧(opP ((zma P .add 24 false).f t158 t161) fun t162=>
opP (zza 64 1 (nth l 5) (nth l 7)) fun t164=>
opW (zba t164 H29) fun t165 H33=>
zgb (zcb H20 H23) (zDa [t164])∧(zgb (zcb H18 H20) (zDa [t164])∧(zgb (zcb H16 H18) (zDa [t164])∧(opP ((zma P .add 24 false).f t162 t165) fun t166=>
opP (zza 8 1 (nth l 6) (.int .i64 0)) fun t167=>
opW (zba t167 H33) fun t168 H37=>
opP (zza 8 1 (nth l 6) (.int .i64 1)) fun t169=>
opW (zba t169 H37) fun t170 H40=>
opP ((zma P .and 24 false).f t168 t170) fun t171=>
opP (zza 8 1 (nth l 6) (.int .i64 0)) fun t172=>
opW (zba t172 H40) fun t173 H44=>
opP (zza 8 1 (nth l 6) (.int .i64 2)) fun t174=>
opW (zba t174 H44) fun t175 H47=>
opP ((zma P .and 24 false).f t173 t175) fun t176=>
opP ((zma P .xor 24 false).f t171 t176) fun t177=>
opP (zza 8 1 (nth l 6) (.int .i64 1)) fun t178=>
opW (zba t178 H47) fun t179 H52=>
opP (zza 8 1 (nth l 6) (.int .i64 2)) fun t180=>
opW (zba t180 H52) fun t181 H55=>
opP ((zma P .and 24 false).f t179 t181) fun t182=>
opP ((zma P .xor 24 false).f t177 t182) fun t183=>
opP (zza 8 1 (nth l 6) (.int .i64 0)) fun t184=>
opW (zba t184 H55) fun t185 H60=>
wCall P zeb [t185,(.int .u64 2)] H60 fun t186 H62=>
opP (zza 8 1 (nth l 6) (.int .i64 0)) fun t187=>
opW (zba t187 H62) fun t188 H65=>
zgb (zcb H60 H62) (zDa [t187])∧(wCall P zeb [t188,(.int .u64 13)] H65 fun t189 H67=>
opP ((zma P .xor 24 false).f t186 t189) fun t190=>
opP (zza 8 1 (nth l 6) (.int .i64 0)) fun t191=>
opW (zba t191 H67) fun t192 H71=>
zgb (zcb H65 H67) (zDa [t191])∧(zgb (zcb H60 H62) (zDa [t191])∧(wCall P zeb [t192,(.int .u64 22)] H71 fun t193 H73=>
opP ((zma P .xor 24 false).f t190 t193) fun t194=>
opP ((zma P .add 24 false).f t194 t183) fun t196=>
opP ((zma P .add 24 false).f t166 t196) fun t199=>
opP ((zma P .rem 24 true).f t199 (.int .u64 4294967296)) fun t200=>
opP (zza 8 1 (nth l 6) (.int .i64 0)) fun t201=>
opW (zba t201 H73) fun t202 H80=>
opP (zza 8 1 (nth l 6) (.int .i64 1)) fun t203=>
opW (zba t203 H80) fun t204 H83=>
opP (zza 8 1 (nth l 6) (.int .i64 2)) fun t205=>
opW (zba t205 H83) fun t206 H86=>
opP (zza 8 1 (nth l 6) (.int .i64 3)) fun t207=>
opW (zba t207 H86) fun t208 H89=>
opP ((zma P .add 24 false).f t208 t166) fun t210=>
opP ((zma P .rem 24 true).f t210 (.int .u64 4294967296)) fun t211=>
opP (zza 8 1 (nth l 6) (.int .i64 4)) fun t212=>
opW (zba t212 H89) fun t213 H94=>
opP (zza 8 1 (nth l 6) (.int .i64 5)) fun t214=>
opW (zba t214 H94) fun t215 H97=>
opP (zza 8 1 (nth l 6) (.int .i64 6)) fun t216=>
opW (zba t216 H97) fun t217 H100=>
opP ((zbb P 145).f [(0,t200),(1,t202),(2,t204),(3,t206),(4,t211),(5,t213),(6,t215),(7,t217)]) fun t218=>
opW (zka 8 (nth l 6) t218 H100) fun u H103=>
opP ((zma P .add 3 true).f (nth l 7) (.int .i64 1)) fun t133=>
N [(nth l 0),(nth l 1),(nth l 2),(nth l 3),(nth l 4),(nth l 5),(nth l 6),t133] H103))))))))))))) (
Qx 10 [(nth l 0),(nth l 1),(nth l 2),(nth l 3),(nth l 4),(nth l 6)] H)
theorem zam:LpI P 252 zFh 33676 zHl:=.mk (by kernel_rfl) fun l H N Qx Qr=>by kernel_rfl
def zIl(l:List Value)(H:Heap)(N:LN)(Qx:LX)(Qr:LN):Prop:=
opP ((zma P .lss 3 true).f (nth l 6) (.int .i64 8)) fun t220=>
wIf t220 (
opP (zza 8 1 (nth l 2) (nth l 6)) fun t224=>
opW (zba t224 H) fun t225 H3=>
opP (zza 8 1 (nth l 5) (nth l 6)) fun t227=>
opW (zba t227 H3) fun t228 H6=>
opP ((zma P .add 24 false).f t225 t228) fun t229=>
opP ((zma P .rem 24 true).f t229 (.int .u64 4294967296)) fun t230=>
opP (zza 8 1 (nth l 2) (nth l 6)) fun t231=>
opW (zka 1 t231 t230 H6) fun u H11=>
opP ((zma P .add 3 true).f (nth l 6) (.int .i64 1)) fun t232=>
N [(nth l 0),(nth l 1),(nth l 2),(nth l 3),(nth l 4),(nth l 5),t232] H11) (
Qx 12 [(nth l 0),(nth l 1),(nth l 2),(nth l 3),(nth l 4)] H)
theorem zbm:LpI P 252 zGh 908 zIl:=.mk (by kernel_rfl) fun l H N Qx Qr=>by kernel_rfl
def zJl(l:List Value)(H:Heap)(N:LN)(Qx:LX)(Qr:LN):Prop:=
opP ((zma P .lss 3 true).f (nth l 7) (.int .i64 4)) fun t71=>
wIf t71 (
opP (zza 64 1 (nth l 5) (nth l 6)) fun t76=>
opW (zba t76 H) fun t77 H3=>
opP ((zma P .mul 24 true).f (.int .u64 256) t77) fun t78=>
opP ((zma P .mul 3 true).f (.int .i64 4) (nth l 6)) fun t82=>
opP ((zma P .add 3 false).f (nth l 4) t82) fun t83=>
opP ((zma P .add 3 false).f t83 (nth l 7)) fun t85=>
opP (zfd 1 (nth l 1) t85) fun t86=>
opW (zba t86 H3) fun t87 H10=>
opW (zLb .u64 t87 H10) fun t88 H12=>
opP ((zma P .add 24 false).f t78 t88) fun t89=>
opP (zza 64 1 (nth l 5) (nth l 6)) fun t90=>
opW (zka 1 t90 t89 H12) fun u H16=>
opP ((zma P .add 3 true).f (nth l 7) (.int .i64 1)) fun t73=>
N [(nth l 0),(nth l 1),(nth l 2),(nth l 3),(nth l 4),(nth l 5),(nth l 6),t73] H16) (
Qx 8 [(nth l 0),(nth l 1),(nth l 2),(nth l 3),(nth l 4),(nth l 5),(nth l 6)] H)
theorem zcm:LpI P 252 zEh 3980 zJl:=.mk (by kernel_rfl) fun l H N Qx Qr=>by kernel_rfl
def zEr(t0:Value)(H:Heap)(K:VH):Prop:=
zZb (zc P 26) H fun t2 H1=>
opW ((zga P 22 0).f [] H1) fun t25 H3=>
opW (zoa 1 1 t25 t0 H3) fun t27 H5=>
opW ((zga P 22 1).f [(0,(.int .u8 128))] H5) fun t28 H7=>
opW (zoa 1 1 t27 t28 H7) fun t29 H9=>
zob P true 252 zAh 13 [t0,t2,t29] H9 (fun id l H11=>
cond (Nat.beq id 0) (
opW (lenSl (nth l 0) H11) fun t38 H13=>
opW (zLb .u64 t38 H13) fun t39 H15=>
opP ((zma P .mul 24 true).f t39 (.int .u64 8)) fun t40=>
zob P true 252 zBh 12 [(nth l 1),(nth l 2),t40,(.int .u64 72057594037927936),(.int .i64 0)] H15 (fun id l_1 H18=>
cond (Nat.beq id 2) (
wCall P zAg [] H18 fun t55 H20=>
wCall P zCf [] H20 fun t56 H22=>
zZb (zc P 145) H22 fun t7 H24=>
zZb (zc P 147) H24 fun t8 H26=>
opW (zka 8 t7 t55 H26) fun u H28=>
opW (zka 64 t8 t56 H28) fun u_1 H30=>
zob P true 252 zCh 132 [(nth l_1 0),(nth l_1 1),t7,t8,(.int .i64 0)] H30 (fun id l_2 H32=>
cond (Nat.beq id 4) (
opP ((zbb P 26).f []) fun t233=>
zZb (zc P 26) H32 fun t23 H35=>
opW (zka 32 t23 t233 H35) fun u_2 H37=>
zob P true 252 zHh 8388612 [(nth l_2 0),(nth l_2 1),t23,(.int .i64 0)] H37 (fun id l_3 H39=>
cond (Nat.beq id 14) (
opW (zja 32 (nth l_3 1) H39) fun t251 H41=>
opW (zka 32 (nth l_3 0) t251 H41) fun u_3 H43=>
opW (zja 32 (nth l_3 0) H43) fun r _=>
K r H43) (
False)) (fun l_3 H39=>
opW (zja 32 (nth l_3 0) H39) fun r_1 _=>
K r_1 H39)) (
False)) (fun l_2 H32=>
opW (zja 32 (nth l_2 0) H32) fun r_2 _=>
K r_2 H32)) (
False)) (fun l_1 H18=>
opW (zja 32 (nth l_1 0) H18) fun r_3 _=>
K r_3 H18)) (
False)) (fun l H11=>
opW (zja 32 (nth l 1) H11) fun r_4 _=>
K r_4 H11)
theorem zFr{t0:Value}{H:Heap}{K:VH}(h:zEr t0 H K):wCall P zub [t0] H K:=zca rfl (Eq.mpr (by kernel_rfl) h)
def zGr(t0 t1:Value)(H:Heap)(K:VH):Prop:=
zQb (fun J=>
opP ((zma P .lss 3 true).f t1 (.int .i64 0)) fun t7=>
wIf t7 (
J [t0,(.int .i64 0)] H) (
J [t0,t1] H)) (fun l H3=>
zQb (fun J_1=>
zQb (fun J_2=>
opP (zta (nth l 0)) fun t9=>
opP (zqa 1 t9) fun t10=>
opW (zba t10 H3) fun t11 H9=>
opP ((zma P .eql 3 true).f t11 (.int .i64 0)) fun t12=>
wIf t12 (
opP (zta (nth l 0)) fun t16=>
opP (zqa 0 t16) fun t17=>
opW (zba t17 H9) fun t18 H14=>
opW (lenSl t18 H14) fun t19 H16=>
opP ((zma P .gtr 3 false).f (nth l 1) t19) fun t20=>
opP (zha t12 t20 (.bool false)) fun t21=>
J_2 [(nth l 0),(nth l 1),t21] H16) (
opP (zha t12 undef (.bool false)) fun t21_1=>
J_2 [(nth l 0),(nth l 1),t21_1] H9)) (fun l_1 H21=>
wIf (nth l_1 2) (
opP (zta (nth l_1 0)) fun t23=>
opP (zqa 1 t23) fun t24=>
opW (zka 1 t24 (.int .i64 51) H21) fun u H25=>
J_1 [(nth l_1 0),(nth l_1 1)] H25) (
J_1 [(nth l_1 0),(nth l_1 1)] H21))) (fun l_2 H27=>
opP (zta (nth l_2 0)) fun t26=>
opP (zqa 1 t26) fun t27=>
opW (zba t27 H27) fun t28 H31=>
opP ((zma P .neq 3 true).f t28 (.int .i64 0)) fun t29=>
wIf t29 (
opP (zta (nth l_2 0)) fun t31=>
opP (zqa 0 t31) fun t32=>
opW (zka 1 t32 (.slice none 0 0) H31) fun u_1 H36=>
K (.slice none 0 0) H36) (
opW ((zga P 22 0).f [] H31) fun t33 H38=>
opP (zta (nth l_2 0)) fun t35=>
opP (zqa 0 t35) fun t36=>
opW (zba t36 H38) fun t37 H42=>
opP (zLa 1 t37 none (some (nth l_2 1)) none) fun t39=>
opW (zoa 1 1 t33 t39 H42) fun t40 H45=>
opP (zta (nth l_2 0)) fun t43=>
opP (zqa 0 t43) fun t44=>
opW (zba t44 H45) fun t45 H49=>
opP (zLa 1 t45 (some (nth l_2 1)) none none) fun t47=>
opP (zta (nth l_2 0)) fun t48=>
opP (zqa 0 t48) fun t49=>
opW (zka 1 t49 t47 H49) fun u_2 H54=>
K t40 H54)))
theorem zHr{t0 t1:Value}{H:Heap}{K:VH}(h:zGr t0 t1 H K):wCall P zXd [t0,t1] H K:=zca rfl (Eq.mpr (by kernel_rfl) h)
noncomputable abbrev zdc:Code:=zrb P zOa 0
def zec(l:List Value)(H:Heap)(N:LN)(Qx:LX)(Qr:LN):Prop:=
opP ((zma P .geq 3 true).f (nth l 2) (.int .i64 0)) fun t8=>
wIf t8 (
opW (zba (nth l 1) H) fun t13 H2=>
opP (zfd 1 t13 (nth l 2)) fun t15=>
opW (zba t15 H2) fun t16 H5=>
zBB P (zlg (nth l 0) [(nth l 2),t16]) H5 fun t17 H7=>
opP (unA .not t17) fun t18=>
wIf t18 (
Qr [] H7) (
opP ((zma P .sub 3 true).f (nth l 2) (.int .i64 1)) fun t10=>
N [(nth l 0),(nth l 1),t10] H7)) (
Qx 0 [] H)
theorem zod:LpI P 19 zdc 0 zec:=.mk (by kernel_rfl) fun l H N Qx Qr=>by kernel_rfl
def zEc(t0 t1:Value)(H:Heap)(K:VH):Prop:=
opW (zba t1 H) fun t4 H1=>
opW (lenSl t4 H1) fun t5 H3=>
opP ((zma P .sub 3 true).f t5 (.int .i64 1)) fun t6=>
zob P true 19 zdc 0 [t0,t1,t6] H3 (fun id l H6=>
cond (Nat.beq id 0) (
K (.tuple [].toArray) H6) (
False)) (fun l H6=>
K (.tuple [].toArray) H6)
theorem zne{t0 t1:Value}{H:Heap}{K:VH}(h:zEc t0 t1 H K):wCall P zOa [t0,t1] H K:=zca rfl (Eq.mpr (by kernel_rfl) h)
def zoe(t0 t1:Value)(H:Heap)(K:VH):Prop:=
zQb (fun J=>
opP ((zma P .lss 3 true).f t1 (.int .i64 0)) fun t6=>
wIf t6 (
False) (
J [t0,t1] H)) (fun l H3=>
opW ((zwc P .cap [22]).f [(nth l 0)] H3) fun t10 H5=>
opW (lenSl (nth l 0) H5) fun t12 H7=>
opP ((zma P .sub 3 false).f t10 t12) fun t13=>
opP ((zma P .sub 3 false).f (nth l 1) t13) fun t14=>
opP ((zma P .gtr 3 true).f t14 (.int .i64 0)) fun t16=>
wIf t16 (
opW ((zwc P .cap [22]).f [(nth l 0)] H7) fun t19 H12=>
opP (zLa 1 (nth l 0) none (some t19) none) fun t20=>
opW ((zwc P .append [22,3]).f [t20,t14] H12) fun t22 H15=>
opW (lenSl (nth l 0) H15) fun t24 H17=>
opP (zLa 1 t22 none (some t24) none) fun t25=>
K t25 H17) (
K (nth l 0) H7))
theorem zeg{t0 t1:Value}{H:Heap}{K:VH}(h:zoe t0 t1 H K):wCall P zmc [t0,t1] H K:=zca rfl (Eq.mpr (by kernel_rfl) h)
noncomputable abbrev zIh:Code:=zrb P zzg 0
def zKl(l:List Value)(H:Heap)(N:LN)(Qx:LX)(Qr:LN):Prop:=
opP ((zma P .lss 3 false).f (nth l 6) (nth l 3)) fun t58=>
wIf t58 (
opP (zKq (nth l 0) (nth l 6)) fun t63=>
opW (zLb .i64 t63 H) fun t64 H3=>
zQb (fun J=>
opP ((zma P .lss 3 true).f t64 (.int .i64 128)) fun t66=>
wIf t66 (
opP (zha t66 (.bool true) undef) fun t70=>
J [(nth l 0),(nth l 1),(nth l 2),(nth l 3),(nth l 4),(nth l 5),(nth l 6),t64,t70] H3) (
opP ((zma P .gtr 3 true).f t64 (.int .i64 191)) fun t69=>
opP (zha t66 (.bool true) t69) fun t70_1=>
J [(nth l 0),(nth l 1),(nth l 2),(nth l 3),(nth l 4),(nth l 5),(nth l 6),t64,t70_1] H3)) (fun l_1 H10=>
wIf (nth l_1 8) (
opW (zja 3 (nth l_1 2) H10) fun t71 H12=>
opW (zka 3 (nth l_1 1) t71 H12) fun u H14=>
Qr [(nth l_1 0),(nth l_1 1),(nth l_1 2),(nth l_1 3),(nth l_1 4),(nth l_1 5)] H14) (
opP ((zma P .mul 3 true).f (.int .i64 64) (nth l_1 4)) fun t73=>
opP ((zma P .add 3 false).f t73 (nth l_1 7)) fun t75=>
opP ((zma P .sub 3 true).f t75 (.int .i64 128)) fun t76=>
opP ((zma P .add 3 true).f (nth l_1 6) (.int .i64 1)) fun t60=>
N [(nth l_1 0),(nth l_1 1),(nth l_1 2),(nth l_1 3),t76,(nth l_1 5),t60] H10))) (
Qx 1 [(nth l 0),(nth l 1),(nth l 2),(nth l 3),(nth l 4),(nth l 5)] H)
theorem zdm:LpI P 98 zIh 245 zKl:=.mk (by kernel_rfl) fun l H N Qx Qr=>by kernel_rfl
def zIr(t0:Value)(H:Heap)(K:VH):Prop:=
zZb (zc P 109) H fun t2 H1=>
opP (zKq t0 (.int .i64 0)) fun t11=>
opW (zLb .i64 t11 H1) fun t12 H4=>
opP (zhf t0 none (some (.int .i64 1)) none) fun t15=>
opP ((zbb P 109).f [(0,t12),(1,t15),(2,(.bool true))]) fun t16=>
zZb (zc P 109) H4 fun t4 H8=>
opW (zka 3 t4 t16 H8) fun u H10=>
opP ((zma P .lss 3 true).f t12 (.int .i64 128)) fun t18=>
wIf t18 (
opP (zhf t0 none (some (.int .i64 1)) none) fun t21=>
opP ((zbb P 109).f [(0,t12),(1,t21),(2,(.bool false))]) fun t22=>
opW (zka 3 t2 t22 H10) fun u_1 H15=>
opW (zja 3 t2 H15) fun r _=>
K r H15) (
zQb (fun J=>
zQb (fun J_1=>
opP ((zma P .geq 3 true).f t12 (.int .i64 194)) fun t26=>
wIf t26 (
opP ((zma P .lss 3 true).f t12 (.int .i64 224)) fun t29=>
opP (zha t26 t29 (.bool false)) fun t30=>
J_1 [t0,t2,t12,t4,(.int .i64 0),(.int .i64 0),(.int .i64 0),t30] H10) (
opP (zha t26 undef (.bool false)) fun t30_1=>
J_1 [t0,t2,t12,t4,(.int .i64 0),(.int .i64 0),(.int .i64 0),t30_1] H10)) (fun l H24=>
wIf (nth l 7) (
opP ((zma P .sub 3 true).f (nth l 2) (.int .i64 192)) fun t32=>
J [(nth l 0),(nth l 1),(nth l 3),(.int .i64 2),t32,(.int .i64 128)] H24) (
zQb (fun J_2=>
opP ((zma P .geq 3 true).f (nth l 2) (.int .i64 224)) fun t35=>
wIf t35 (
opP ((zma P .lss 3 true).f (nth l 2) (.int .i64 240)) fun t38=>
opP (zha t35 t38 (.bool false)) fun t39=>
J_2 [(nth l 0),(nth l 1),(nth l 2),(nth l 3),(nth l 4),(nth l 5),(nth l 6),t39] H24) (
opP (zha t35 undef (.bool false)) fun t39_1=>
J_2 [(nth l 0),(nth l 1),(nth l 2),(nth l 3),(nth l 4),(nth l 5),(nth l 6),t39_1] H24)) (fun l_1 H32=>
wIf (nth l_1 7) (
opP ((zma P .sub 3 true).f (nth l_1 2) (.int .i64 224)) fun t41=>
J [(nth l_1 0),(nth l_1 1),(nth l_1 3),(.int .i64 3),t41,(.int .i64 2048)] H32) (
zQb (fun J_3=>
opP ((zma P .geq 3 true).f (nth l_1 2) (.int .i64 240)) fun t44=>
wIf t44 (
opP ((zma P .lss 3 true).f (nth l_1 2) (.int .i64 245)) fun t47=>
opP (zha t44 t47 (.bool false)) fun t48=>
J_3 [(nth l_1 0),(nth l_1 1),(nth l_1 2),(nth l_1 3),(nth l_1 4),(nth l_1 5),(nth l_1 6),t48] H32) (
opP (zha t44 undef (.bool false)) fun t48_1=>
J_3 [(nth l_1 0),(nth l_1 1),(nth l_1 2),(nth l_1 3),(nth l_1 4),(nth l_1 5),(nth l_1 6),t48_1] H32)) (fun l_2 H40=>
wIf (nth l_2 7) (
opP ((zma P .sub 3 true).f (nth l_2 2) (.int .i64 240)) fun t50=>
J [(nth l_2 0),(nth l_2 1),(nth l_2 3),(.int .i64 4),t50,(.int .i64 65536)] H40) (
opW (zja 3 (nth l_2 3) H40) fun t23 H43=>
opW (zka 3 (nth l_2 1) t23 H43) fun u_2 H45=>
opW (zja 3 (nth l_2 1) H45) fun r_1 _=>
K r_1 H45))))))) (fun l_3 H48=>
opW (zbn (nth l_3 0) H48) fun t52 H50=>
opP ((zma P .lss 3 false).f t52 (nth l_3 3)) fun t54=>
wIf t54 (
opW (zja 3 (nth l_3 2) H50) fun t55 H53=>
opW (zka 3 (nth l_3 1) t55 H53) fun u_3 H55=>
opW (zja 3 (nth l_3 1) H55) fun r_2 _=>
K r_2 H55) (
zob P true 98 zIh 245 [(nth l_3 0),(nth l_3 1),(nth l_3 2),(nth l_3 3),(nth l_3 4),(nth l_3 5),(.int .i64 1)] H50 (fun id l_4 H58=>
cond (Nat.beq id 1) (
zQb (fun J_4=>
opP ((zma P .lss 3 false).f (nth l_4 4) (nth l_4 5)) fun t79=>
wIf t79 (
opP (zha t79 (.bool true) undef) fun t83=>
opP (zha t83 (.bool true) undef) fun t91=>
J_4 [(nth l_4 0),(nth l_4 1),(nth l_4 2),(nth l_4 3),(nth l_4 4),t91] H58) (
opP ((zma P .gtr 3 true).f (nth l_4 4) (.int .i64 1114111)) fun t82=>
opP (zha t79 (.bool true) t82) fun t83_1=>
wIf t83_1 (
opP (zha t83_1 (.bool true) undef) fun t91_1=>
J_4 [(nth l_4 0),(nth l_4 1),(nth l_4 2),(nth l_4 3),(nth l_4 4),t91_1] H58) (
opP ((zma P .geq 3 true).f (nth l_4 4) (.int .i64 55296)) fun t86=>
wIf t86 (
opP ((zma P .leq 3 true).f (nth l_4 4) (.int .i64 57343)) fun t89=>
opP (zha t86 t89 (.bool false)) fun t90=>
opP (zha t83_1 (.bool true) t90) fun t91_2=>
J_4 [(nth l_4 0),(nth l_4 1),(nth l_4 2),(nth l_4 3),(nth l_4 4),t91_2] H58) (
opP (zha t86 undef (.bool false)) fun t90_1=>
opP (zha t83_1 (.bool true) t90_1) fun t91_3=>
J_4 [(nth l_4 0),(nth l_4 1),(nth l_4 2),(nth l_4 3),(nth l_4 4),t91_3] H58)))) (fun l_5 H73=>
wIf (nth l_5 5) (
opW (zja 3 (nth l_5 2) H73) fun t92 H75=>
opW (zka 3 (nth l_5 1) t92 H75) fun u_4 H77=>
opW (zja 3 (nth l_5 1) H77) fun r_3 _=>
K r_3 H77) (
opP (zhf (nth l_5 0) none (some (nth l_5 3)) none) fun t96=>
opP ((zbb P 109).f [(0,(nth l_5 4)),(1,t96),(2,(.bool false))]) fun t97=>
opW (zka 3 (nth l_5 1) t97 H73) fun u_5 H82=>
opW (zja 3 (nth l_5 1) H82) fun r_4 _=>
K r_4 H82))) (
False)) (fun l_4 H58=>
opW (zja 3 (nth l_4 1) H58) fun r_5 _=>
K r_5 H58))))
theorem zJr{t0:Value}{H:Heap}{K:VH}(h:zIr t0 H K):wCall P zzg [t0] H K:=zca rfl (Eq.mpr (by kernel_rfl) h)
noncomputable abbrev zUg:Code:=zrb P zBd 0
def zVg(l:List Value)(H:Heap)(N:LN)(Qx:LX)(Qr:LN):Prop:=
opP ((zma P .lss 3 true).f (nth l 3) (.int .i64 64)) fun t8=>
wIf t8 (
opP ((zma P .lss 3 true).f (nth l 3) (.int .i64 16)) fun t11=>
wIf t11 (
opP ((zma P .mul 3 true).f (.int .i64 4) (nth l 3)) fun t15=>
opP (zfd 1 (nth l 0) t15) fun t16=>
opW (zba t16 H) fun t17 H5=>
opW (zLb .u32 t17 H5) fun t18 H7=>
opP ((zma P .shl 111 true).f t18 (.int .u64 24)) fun t19=>
opP ((zma P .mul 3 true).f (.int .i64 4) (nth l 3)) fun t22=>
opP ((zma P .add 3 true).f t22 (.int .i64 1)) fun t23=>
opP (zfd 1 (nth l 0) t23) fun t24=>
opW (zba t24 H7) fun t25 H13=>
opW (zLb .u32 t25 H13) fun t26 H15=>
opP ((zma P .shl 111 true).f t26 (.int .u64 16)) fun t27=>
opP ((zma P .or 111 false).f t19 t27) fun t28=>
opP ((zma P .mul 3 true).f (.int .i64 4) (nth l 3)) fun t31=>
opP ((zma P .add 3 true).f t31 (.int .i64 2)) fun t32=>
opP (zfd 1 (nth l 0) t32) fun t33=>
opW (zba t33 H15) fun t34 H22=>
opW (zLb .u32 t34 H22) fun t35 H24=>
opP ((zma P .shl 111 true).f t35 (.int .u64 8)) fun t36=>
opP ((zma P .or 111 false).f t28 t36) fun t37=>
opP ((zma P .mul 3 true).f (.int .i64 4) (nth l 3)) fun t40=>
opP ((zma P .add 3 true).f t40 (.int .i64 3)) fun t41=>
opP (zfd 1 (nth l 0) t41) fun t42=>
opW (zba t42 H24) fun t43 H31=>
opW (zLb .u32 t43 H31) fun t44 H33=>
opP ((zma P .or 111 false).f t37 t44) fun t45=>
opP (zza 64 1 (nth l 2) (nth l 3)) fun t46=>
opW (zka 1 t46 t45 H33) fun u H37=>
opP ((zma P .add 3 true).f (nth l 3) (.int .i64 1)) fun t80=>
N [(nth l 0),(nth l 1),(nth l 2),t80] H37) (
opP ((zma P .sub 3 true).f (nth l 3) (.int .i64 15)) fun t48=>
opP (zza 64 1 (nth l 2) t48) fun t49=>
opW (zba t49 H) fun t50 H42=>
opP ((zma P .sub 3 true).f (nth l 3) (.int .i64 2)) fun t52=>
opP (zza 64 1 (nth l 2) t52) fun t53=>
opW (zba t53 H42) fun t54 H46=>
opP ((zma P .sub 3 true).f (nth l 3) (.int .i64 16)) fun t57=>
opP (zza 64 1 (nth l 2) t57) fun t58=>
opW (zba t58 H46) fun t59 H50=>
opW ((zga P 160 2).f [(0,(.int .i64 7)),(1,(.int .i64 18))] H50) fun t61 H52=>
wCall P znc [t50,t61] H52 fun t62 H54=>
zgb (zcb H52 H54) (zDa [t58])∧(opP ((zma P .shr 111 true).f t50 (.int .u64 3)) fun t64=>
opP ((zma P .xor 111 false).f t62 t64) fun t65=>
opP ((zma P .add 111 false).f t59 t65) fun t66=>
opP ((zma P .sub 3 true).f (nth l 3) (.int .i64 7)) fun t68=>
opP (zza 64 1 (nth l 2) t68) fun t69=>
opW (zba t69 H54) fun t70 H61=>
zgb (zcb H52 H54) (zDa [t69])∧(zGq (zDa [t69]) H50.next H52.next∧(opP ((zma P .add 111 false).f t66 t70) fun t71=>
opW ((zga P 160 2).f [(0,(.int .i64 17)),(1,(.int .i64 19))] H61) fun t73 H64=>
wCall P znc [t54,t73] H64 fun t74 H66=>
zgb (zcb H64 H66) (zDa [t69])∧(zgb (zcb H64 H66) (zDa [t58])∧(opP ((zma P .shr 111 true).f t54 (.int .u64 10)) fun t76=>
opP ((zma P .xor 111 false).f t74 t76) fun t77=>
opP ((zma P .add 111 false).f t71 t77) fun t78=>
opP (zza 64 1 (nth l 2) (nth l 3)) fun t79=>
opW (zka 1 t79 t78 H66) fun u_1 H72=>
opP ((zma P .add 3 true).f (nth l 3) (.int .i64 1)) fun t80_1=>
N [(nth l 0),(nth l 1),(nth l 2),t80_1] H72))))))) (
Qx 0 [(nth l 1),(nth l 2)] H)
theorem zoi:LpI P 82 zUg 12 zVg:=.mk (by kernel_rfl) fun l H N Qx Qr=>by kernel_rfl
def zbk(t0:Value)(H:Heap)(K:VH):Prop:=
zZb (zc P 139) H fun t2 H1=>
zZb (zc P 139) H1 fun t3 H3=>
zob P true 82 zUg 12 [t0,t2,t3,(.int .i64 0)] H3 (fun id l H5=>
cond (Nat.beq id 0) (
opW (zja 64 (nth l 1) H5) fun t81 H7=>
opW (zka 64 (nth l 0) t81 H7) fun u H9=>
opW (zja 64 (nth l 0) H9) fun r _=>
K r H9) (
False)) (fun l H5=>
opW (zja 64 (nth l 0) H5) fun r_1 _=>
K r_1 H5)
theorem zem{t0:Value}{H:Heap}{K:VH}(h:zbk t0 H K):wCall P zBd [t0] H K:=zca rfl (Eq.mpr (by kernel_rfl) h)
def zLl(H:Heap)(K:VH):Prop:=
opP ((zbb P 139).f [(0,(.int .u32 1116352408)),(1,(.int .u32 1899447441)),(2,(.int .u32 3049323471)),(3,(.int .u32 3921009573)),(4,(.int .u32 961987163)),(5,(.int .u32 1508970993)),(6,(.int .u32 2453635748)),(7,(.int .u32 2870763221)),(8,(.int .u32 3624381080)),(9,(.int .u32 310598401)),(10,(.int .u32 607225278)),(11,(.int .u32 1426881987)),(12,(.int .u32 1925078388)),(13,(.int .u32 2162078206)),(14,(.int .u32 2614888103)),(15,(.int .u32 3248222580)),(16,(.int .u32 3835390401)),(17,(.int .u32 4022224774)),(18,(.int .u32 264347078)),(19,(.int .u32 604807628)),(20,(.int .u32 770255983)),(21,(.int .u32 1249150122)),(22,(.int .u32 1555081692)),(23,(.int .u32 1996064986)),(24,(.int .u32 2554220882)),(25,(.int .u32 2821834349)),(26,(.int .u32 2952996808)),(27,(.int .u32 3210313671)),(28,(.int .u32 3336571891)),(29,(.int .u32 3584528711)),(30,(.int .u32 113926993)),(31,(.int .u32 338241895)),(32,(.int .u32 666307205)),(33,(.int .u32 773529912)),(34,(.int .u32 1294757372)),(35,(.int .u32 1396182291)),(36,(.int .u32 1695183700)),(37,(.int .u32 1986661051)),(38,(.int .u32 2177026350)),(39,(.int .u32 2456956037)),(40,(.int .u32 2730485921)),(41,(.int .u32 2820302411)),(42,(.int .u32 3259730800)),(43,(.int .u32 3345764771)),(44,(.int .u32 3516065817)),(45,(.int .u32 3600352804)),(46,(.int .u32 4094571909)),(47,(.int .u32 275423344)),(48,(.int .u32 430227734)),(49,(.int .u32 506948616)),(50,(.int .u32 659060556)),(51,(.int .u32 883997877)),(52,(.int .u32 958139571)),(53,(.int .u32 1322822218)),(54,(.int .u32 1537002063)),(55,(.int .u32 1747873779)),(56,(.int .u32 1955562222)),(57,(.int .u32 2024104815)),(58,(.int .u32 2227730452)),(59,(.int .u32 2361852424)),(60,(.int .u32 2428436474)),(61,(.int .u32 2756734187)),(62,(.int .u32 3204031479)),(63,(.int .u32 3329325298))]) fun t1=>
zZb (zCa t1) H fun t2 H2=>
K t2 H2
theorem zAn{H:Heap}{K:VH}(h:zLl  H K):wCall P zBf [] H K:=zca rfl (Eq.mpr (by kernel_rfl) h)
noncomputable abbrev zLi:Code:=zrb P znc 0
def zMi(l:List Value)(H:Heap)(N:LN)(Qx:LX)(Qr:LN):Prop:=
opP ((zma P .lss 3 false).f (nth l 5) (nth l 4)) fun t11=>
wIf t11 (
opP (zfd 1 (nth l 3) (nth l 5)) fun t12=>
opW (zba t12 H) fun t13 H3=>
opP (unA .neg t13) fun t17=>
wCall P zXb [(nth l 0),t17] H3 fun t18 H6=>
opP ((zma P .xor 111 false).f (nth l 2) t18) fun t19=>
opP ((zma P .add 3 true).f (nth l 5) (.int .i64 1)) fun t20=>
N [(nth l 0),(nth l 1),t19,(nth l 3),(nth l 4),t20] H6) (
Qx 0 [(nth l 1),(nth l 2)] H)
theorem zck:LpI P 22 zLi 48 zMi:=.mk (by kernel_rfl) fun l H N Qx Qr=>by kernel_rfl
def zBn(t0 t1:Value)(H:Heap)(K:VH):Prop:=
opW (lenSl t1 H) fun t9 H1=>
zob P true 22 zLi 48 [t0,(.int .u32 0),(.int .u32 0),t1,t9,(.int .i64 0)] H1 (fun id l H3=>
cond (Nat.beq id 0) (
K (nth l 1) H3) (
False)) (fun l H3=>
K (nth l 0) H3)
theorem zBo{t0 t1:Value}{H:Heap}{K:VH}(h:zBn t0 t1 H K):wCall P znc [t0,t1] H K:=zca rfl (Eq.mpr (by kernel_rfl) h)
def zCn(H:Heap)(K:VH):Prop:=
zZb (zc P 145) H fun t0 H1=>
opP ((zbb P 145).f [(0,(.int .u64 1779033703)),(1,(.int .u64 3144134277)),(2,(.int .u64 1013904242)),(3,(.int .u64 2773480762)),(4,(.int .u64 1359893119)),(5,(.int .u64 2600822924)),(6,(.int .u64 528734635)),(7,(.int .u64 1541459225))]) fun t1=>
opW (zka 8 t0 t1 H1) fun u H4=>
opW (zja 8 t0 H4) fun r _=>
K r H4
theorem zCo{H:Heap}{K:VH}(h:zCn  H K):wCall P zAg [] H K:=zca rfl (Eq.mpr (by kernel_rfl) h)
def zMl(H:Heap)(K:VH):Prop:=
zZb (zc P 147) H fun t0 H1=>
opP ((zbb P 147).f [(0,(.int .u64 1116352408)),(1,(.int .u64 1899447441)),(2,(.int .u64 3049323471)),(3,(.int .u64 3921009573)),(4,(.int .u64 961987163)),(5,(.int .u64 1508970993)),(6,(.int .u64 2453635748)),(7,(.int .u64 2870763221)),(8,(.int .u64 3624381080)),(9,(.int .u64 310598401)),(10,(.int .u64 607225278)),(11,(.int .u64 1426881987)),(12,(.int .u64 1925078388)),(13,(.int .u64 2162078206)),(14,(.int .u64 2614888103)),(15,(.int .u64 3248222580)),(16,(.int .u64 3835390401)),(17,(.int .u64 4022224774)),(18,(.int .u64 264347078)),(19,(.int .u64 604807628)),(20,(.int .u64 770255983)),(21,(.int .u64 1249150122)),(22,(.int .u64 1555081692)),(23,(.int .u64 1996064986)),(24,(.int .u64 2554220882)),(25,(.int .u64 2821834349)),(26,(.int .u64 2952996808)),(27,(.int .u64 3210313671)),(28,(.int .u64 3336571891)),(29,(.int .u64 3584528711)),(30,(.int .u64 113926993)),(31,(.int .u64 338241895)),(32,(.int .u64 666307205)),(33,(.int .u64 773529912)),(34,(.int .u64 1294757372)),(35,(.int .u64 1396182291)),(36,(.int .u64 1695183700)),(37,(.int .u64 1986661051)),(38,(.int .u64 2177026350)),(39,(.int .u64 2456956037)),(40,(.int .u64 2730485921)),(41,(.int .u64 2820302411)),(42,(.int .u64 3259730800)),(43,(.int .u64 3345764771)),(44,(.int .u64 3516065817)),(45,(.int .u64 3600352804)),(46,(.int .u64 4094571909)),(47,(.int .u64 275423344)),(48,(.int .u64 430227734)),(49,(.int .u64 506948616)),(50,(.int .u64 659060556)),(51,(.int .u64 883997877)),(52,(.int .u64 958139571)),(53,(.int .u64 1322822218)),(54,(.int .u64 1537002063)),(55,(.int .u64 1747873779)),(56,(.int .u64 1955562222)),(57,(.int .u64 2024104815)),(58,(.int .u64 2227730452)),(59,(.int .u64 2361852424)),(60,(.int .u64 2428436474)),(61,(.int .u64 2756734187)),(62,(.int .u64 3204031479)),(63,(.int .u64 3329325298))]) fun t1=>
opW (zka 64 t0 t1 H1) fun u H4=>
opW (zja 64 t0 H4) fun r _=>
K r H4
theorem zDn{H:Heap}{K:VH}(h:zMl  H K):wCall P zCf [] H K:=zca rfl (Eq.mpr (by kernel_rfl) h)
def zEn(t0 t1:Value)(H:Heap)(K:VH):Prop:=
opP ((zma P .shr 24 false).f t0 t1) fun t7=>
opP ((zma P .sub 24 true).f (.int .u64 32) t1) fun t10=>
opP ((zma P .shl 24 false).f t0 t10) fun t11=>
opP ((zma P .or 24 false).f t7 t11) fun t12=>
opP ((zma P .rem 24 true).f t12 (.int .u64 4294967296)) fun t13=>
K t13 H
theorem zDo{t0 t1:Value}{H:Heap}{K:VH}(h:zEn t0 t1 H K):wCall P zeb [t0,t1] H K:=zca rfl (Eq.mpr (by kernel_rfl) h)
def zHd(t0 t1:Value)(H:Heap)(K:VH):Prop:=
opW (zLb .u64 t1 H) fun t7 H1=>
opP ((zma P .and 99 true).f t7 (.int .u64 31)) fun t8=>
opP ((zma P .shl 111 false).f t0 t8) fun t11=>
opP ((zma P .sub 99 true).f (.int .u64 32) t8) fun t14=>
opP ((zma P .shr 111 false).f t0 t14) fun t15=>
opP ((zma P .or 111 false).f t11 t15) fun t16=>
K t16 H1
theorem zEf{t0 t1:Value}{H:Heap}{K:VH}(h:zHd t0 t1 H K):wCall P zXb [t0,t1] H K:=zca rfl (Eq.mpr (by kernel_rfl) h)
end
end J
