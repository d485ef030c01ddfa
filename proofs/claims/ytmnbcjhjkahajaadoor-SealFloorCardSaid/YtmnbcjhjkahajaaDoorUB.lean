/- texts of the proof, one behind the other -/
import Derived.KernelRfl
import Derived.Test.YtmnbcjhjkahajaaDoorUA
set_option linter.unusedSimpArgs false
set_option linter.unusedSectionVars false
set_option linter.unusedVariables false
set_option maxRecDepth 100000
namespace J
open Go Go.Ab
noncomputable abbrev P:Program:=Go.Proofs.Tryd.prog
noncomputable section
abbrev zef:Nat:=7
abbrev zye:Nat:=8
abbrev zff:Nat:=9
abbrev ztb:Nat:=10
abbrev zJh:Nat:=11
abbrev znb:Nat:=13
abbrev zze:Nat:=15
abbrev zbe:Nat:=16
abbrev zKh:Nat:=17
abbrev zTc:Nat:=20
abbrev zab:Nat:=21
abbrev zEf:Nat:=22
abbrev zFf:Nat:=23
abbrev zwg:Nat:=24
abbrev ztc:Nat:=25
abbrev zmd:Nat:=28
abbrev zZg:Nat:=29
abbrev zGa:Nat:=30
abbrev zuc:Nat:=31
abbrev znj:Nat:=32
abbrev zXb:Nat:=33
abbrev zGf:Nat:=34
abbrev zNb:Nat:=37
abbrev zxg:Nat:=38
abbrev zzd:Nat:=39
abbrev zAe:Nat:=40
abbrev zua:Nat:=41
abbrev zAd:Nat:=42
abbrev zHa:Nat:=43
abbrev zHc:Nat:=44
abbrev zUc:Nat:=45
abbrev zVc:Nat:=46
abbrev zvc:Nat:=47
abbrev znd:Nat:=48
abbrev zHf:Nat:=53
abbrev zYb:Nat:=54
abbrev zdb:Nat:=55
abbrev zce:Nat:=56
abbrev zIf:Nat:=57
abbrev zDa:Nat:=58
abbrev zOa:Nat:=59
abbrev zBd:Nat:=60
abbrev zJf:Nat:=61
abbrev zyg:Nat:=64
abbrev zBe:Nat:=65
abbrev zWc:Nat:=66
abbrev zLh:Nat:=67
abbrev zgf:Nat:=68
abbrev zLe:Nat:=69
abbrev zob:Nat:=70
abbrev zic:Nat:=71
abbrev zTb:Nat:=72
abbrev zod:Nat:=73
abbrev zBa:Nat:=76
abbrev zIb:Nat:=77
abbrev zCe:Nat:=78
abbrev zhf:Nat:=79
abbrev zKf:Nat:=85
abbrev zXc:Nat:=87
abbrev zMe:Nat:=88
abbrev zJb:Nat:=89
abbrev zub:Nat:=98
instance:Orc:=Seal.orcS2
instance (priority:=1) noBase:Base:=⟨fun _=>none,0⟩
theorem zFw{s:ByteArray}(hs:s.size < 4611686018427387904)(H:Heap):Orc.tab 64 [Value.string s] H=some (.int .i64 (Seal.nmF s s.size 0 0)):=by
 show cond (Nat.blt s.size 4611686018427387904) (some (Value.int .i64 (Seal.nmF s s.size 0 0))) none=_
 rw[show Nat.blt s.size 4611686018427387904=true from by rw[blt_eq]; exact decide_eq_true hs]
 rfl
theorem zzg{P:Program}{me:zeh}{f:FuncId}{args:List Value}{H:Heap}{v:Value}(h:Orc.tab f args H=some v):zes P me (.call f args H)=some ⟨.ret,[v],H⟩:=by
 unfold zes
 simp only[h]
theorem zjl{H:Heap}{K:VH}{s:ByteArray}(hs:s.size < 4611686018427387904)(hk:K (.int .i64 (Seal.nmF s s.size 0 0)) H):wCall P zyg [.string s] H K:=
 ⟨1,.ret,_,H,zzg (zFw hs H),hk⟩
theorem zqs{r:Int}(h1:-2147483648≤r)(h2:r≤2147483647)(H:Heap):Orc.tab 78 [Value.int .i32 r] H=some (.bool (Go.Lib.isLetterU r)):=by
 show cond (decide (-2147483648≤r) && decide (r≤2147483647)) (some (Value.bool (Go.Lib.isLetterU r))) none=_
 rw[decide_eq_true h1,decide_eq_true h2]; rfl
theorem zyu{r:Int}(h1:-2147483648≤r)(h2:r≤2147483647)(H:Heap):Orc.tab 79 [Value.int .i32 r] H=some (.bool (Go.Lib.isDigitU r)):=by
 show cond (decide (-2147483648≤r) && decide (r≤2147483647)) (some (Value.bool (Go.Lib.isDigitU r))) none=_
 rw[decide_eq_true h1,decide_eq_true h2]; rfl
theorem zoq{H:Heap}{K:VH}{r:Int}(h1:-2147483648≤r)(h2:r≤2147483647)(hk:K (.bool (Go.Lib.isLetterU r)) H):wCall P zCe [.int .i32 r] H K:=
 ⟨1,.ret,_,H,zzg (zqs h1 h2 H),hk⟩
theorem zrs{H:Heap}{K:VH}{r:Int}(h1:-2147483648≤r)(h2:r≤2147483647)(hk:K (.bool (Go.Lib.isDigitU r)) H):wCall P zhf [.int .i32 r] H K:=
 ⟨1,.ret,_,H,zzg (zyu h1 h2 H),hk⟩
theorem zGw{s:ByteArray}(hs:s.size≤35184372088832)(H:Heap):Orc.tab 65 [Value.string s] H=some (.string (Seal.foldF s)):=by
 show cond (Nat.ble s.size 35184372088832) (some (Value.string (Seal.foldF s))) none=_
 rw[Nat.ble_eq_true_of_le hs]
 rfl
theorem zkl{H:Heap}{K:VH}{s:ByteArray}(hs:s.size≤35184372088832)(hk:K (.string (Seal.foldF s)) H):wCall P zBe [.string s] H K:=
 ⟨1,.ret,_,H,zzg (zGw hs H),hk⟩
theorem zxy(r:Int)(H:Heap):Orc.tab 68 [Value.int .i32 r] H=some (.int .i32 (Go.Lib.toLowerU r)):=rfl
theorem zss{H:Heap}{K:VH}{r:Int}(hk:K (.int .i32 (Go.Lib.toLowerU r)) H):wCall P zgf [.int .i32 r] H K:=
 ⟨1,.ret,.int .i32 (Go.Lib.toLowerU r),H,zzg (P:=P) (me:=zhe P 0) (zxy r H),hk⟩
def zAg(H:Heap)(K:VH):Prop:=
wCall P ztb [] H fun t12 H1=>
opP (unA .not t12) fun t13=>
wIf t13 (
K (.bool false) H1) (
wCall P znb [(.slice none 0 0)] H1 fun t15 H4=>
opP (zNj 0 t15) fun t16=>
opP (zNj 1 t15) fun t17=>
opW ((zea P 22 4).f [(0,(.int .u8 66)),(1,(.int .u8 85)),(2,(.int .u8 220)),(3,(.int .u8 8))] H4) fun t19 H8=>
wCall P znb [t19] H8 fun t20 H10=>
opP (zNj 0 t20) fun t21=>
opP (zNj 1 t20) fun t22=>
opW ((zea P 22 5).f [(0,(.int .u8 66)),(1,(.int .u8 85)),(2,(.int .u8 220)),(3,(.int .u8 8)),(4,(.int .u8 1))] H10) fun t24 H14=>
wCall P znb [t24] H14 fun t25 H16=>
opP (zNj 0 t25) fun t26=>
opP (zNj 1 t25) fun t27=>
opW ((zea P 22 4).f [(0,(.int .u8 66)),(1,(.int .u8 85)),(2,(.int .u8 221)),(3,(.int .u8 8))] H16) fun t29 H20=>
wCall P znb [t29] H20 fun t30 H22=>
opP (zNj 0 t30) fun t31=>
opP (zNj 1 t30) fun t32=>
opW ((zea P 22 4).f [(0,(.int .u8 66)),(1,(.int .u8 86)),(2,(.int .u8 1)),(3,(.int .u8 1))] H22) fun t34 H26=>
opW (zlg t34 H26) fun t35 H28=>
wCall P znb [t35] H28 fun t36 H30=>
opP (zNj 0 t36) fun t37=>
opP (zNj 1 t36) fun t38=>
wCall P zTc [] H30 fun t39 H34=>
zIc (zc P 29) H34 fun t11 H36=>
opW (zma 37 t11 t39 H36) fun u H38=>
opP ((zla P .eql 30 true).f t17 (.int .i64 141)) fun t42=>
opP (zfa (.bool true) t42 (.bool false)) fun t43=>
wIf t43 (
opP ((zla P .eql 30 true).f t22 (.int .i64 0)) fun t46=>
opP (zfa t43 t46 (.bool false)) fun t47=>
wIf t47 (
opP ((zla P .eql 3 true).f t26 (.int .i64 2304)) fun t50=>
opP (zfa t47 t50 (.bool false)) fun t51=>
wIf t51 (
opP ((zla P .eql 30 true).f t27 (.int .i64 0)) fun t54=>
opP (zfa t51 t54 (.bool false)) fun t55=>
wIf t55 (
opP ((zla P .eql 30 true).f t32 (.int .i64 141)) fun t58=>
opP (zfa t55 t58 (.bool false)) fun t59=>
wIf t59 (
opP ((zla P .eql 30 true).f t38 (.int .i64 141)) fun t62=>
opP (zfa t59 t62 (.bool false)) fun t63=>
wIf t63 (
opW (zka 37 t11 H38) fun t65 H52=>
opP ((zWa P 52).f [(0,(.string ⟨#[66,79,79,84,49]⟩)),(1,(.int .u64 7)),(2,(.int .i64 65))]) fun t66=>
wCall P zab [t65,t66] H52 fun t67 H55=>
opP ((zla P .eql 30 true).f t67 (.int .i64 0)) fun t68=>
opP (zfa t63 t68 (.bool false)) fun t69=>
wIf t69 (
opW (zka 37 t11 H55) fun t71 H59=>
opP ((zWa P 52).f [(0,(.string ⟨#[98,111,111,116,50]⟩))]) fun t72=>
wCall P zab [t71,t72] H59 fun t73 H62=>
opP ((zla P .eql 30 true).f t73 (.int .i64 143)) fun t74=>
opP (zfa t69 t74 (.bool false)) fun t75=>
wIf t75 (
opW (zka 37 t11 H62) fun t77 H66=>
opP ((zWa P 52).f [(0,(.string ⟨#[98,111,111,116,49]⟩)),(1,(.int .u64 8))]) fun t78=>
wCall P zab [t77,t78] H66 fun t79 H69=>
opP ((zla P .eql 30 true).f t79 (.int .i64 144)) fun t80=>
opP (zfa t75 t80 (.bool false)) fun t81=>
wIf t81 (
opW (zka 37 t11 H69) fun t83 H73=>
opP ((zWa P 52).f [(0,(.string ⟨#[98,111,111,116,49]⟩)),(2,(.int .i64 64))]) fun t84=>
wCall P zab [t83,t84] H73 fun t85 H76=>
opP ((zla P .eql 30 true).f t85 (.int .i64 145)) fun t86=>
opP (zfa t81 t86 (.bool false)) fun t87=>
wIf t87 (
opP ((zWa P 29).f []) fun t89=>
opP ((zWa P 52).f []) fun t90=>
wCall P zab [t89,t90] H76 fun t91 H82=>
opP ((zla P .eql 30 true).f t91 (.int .i64 131)) fun t92=>
opP (zfa t87 t92 (.bool false)) fun t93=>
K t93 H82) (
opP (zfa t87 undef (.bool false)) fun t93_1=>
K t93_1 H76)) (
opP (zfa t81 undef (.bool false)) fun t87_1=>
opP (zfa t87_1 undef (.bool false)) fun t93_2=>
K t93_2 H69)) (
opP (zfa t75 undef (.bool false)) fun t81_1=>
opP (zfa t81_1 undef (.bool false)) fun t87_2=>
opP (zfa t87_2 undef (.bool false)) fun t93_3=>
K t93_3 H62)) (
opP (zfa t69 undef (.bool false)) fun t75_1=>
opP (zfa t75_1 undef (.bool false)) fun t81_2=>
opP (zfa t81_2 undef (.bool false)) fun t87_3=>
opP (zfa t87_3 undef (.bool false)) fun t93_4=>
K t93_4 H55)) (
opP (zfa t63 undef (.bool false)) fun t69_1=>
opP (zfa t69_1 undef (.bool false)) fun t75_2=>
opP (zfa t75_2 undef (.bool false)) fun t81_3=>
opP (zfa t81_3 undef (.bool false)) fun t87_4=>
opP (zfa t87_4 undef (.bool false)) fun t93_5=>
K t93_5 H38)) (
opP (zfa t59 undef (.bool false)) fun t63_1=>
opP (zfa t63_1 undef (.bool false)) fun t69_2=>
opP (zfa t69_2 undef (.bool false)) fun t75_3=>
opP (zfa t75_3 undef (.bool false)) fun t81_4=>
opP (zfa t81_4 undef (.bool false)) fun t87_5=>
opP (zfa t87_5 undef (.bool false)) fun t93_6=>
K t93_6 H38)) (
opP (zfa t55 undef (.bool false)) fun t59_1=>
opP (zfa t59_1 undef (.bool false)) fun t63_2=>
opP (zfa t63_2 undef (.bool false)) fun t69_3=>
opP (zfa t69_3 undef (.bool false)) fun t75_4=>
opP (zfa t75_4 undef (.bool false)) fun t81_5=>
opP (zfa t81_5 undef (.bool false)) fun t87_6=>
opP (zfa t87_6 undef (.bool false)) fun t93_7=>
K t93_7 H38)) (
opP (zfa t51 undef (.bool false)) fun t55_1=>
opP (zfa t55_1 undef (.bool false)) fun t59_2=>
opP (zfa t59_2 undef (.bool false)) fun t63_3=>
opP (zfa t63_3 undef (.bool false)) fun t69_4=>
opP (zfa t69_4 undef (.bool false)) fun t75_5=>
opP (zfa t75_5 undef (.bool false)) fun t81_6=>
opP (zfa t81_6 undef (.bool false)) fun t87_7=>
opP (zfa t87_7 undef (.bool false)) fun t93_8=>
K t93_8 H38)) (
opP (zfa t47 undef (.bool false)) fun t51_1=>
opP (zfa t51_1 undef (.bool false)) fun t55_2=>
opP (zfa t55_2 undef (.bool false)) fun t59_3=>
opP (zfa t59_3 undef (.bool false)) fun t63_4=>
opP (zfa t63_4 undef (.bool false)) fun t69_5=>
opP (zfa t69_5 undef (.bool false)) fun t75_6=>
opP (zfa t75_6 undef (.bool false)) fun t81_7=>
opP (zfa t81_7 undef (.bool false)) fun t87_8=>
opP (zfa t87_8 undef (.bool false)) fun t93_9=>
K t93_9 H38)) (
opP (zfa t43 undef (.bool false)) fun t47_1=>
opP (zfa t47_1 undef (.bool false)) fun t51_2=>
opP (zfa t51_2 undef (.bool false)) fun t55_3=>
opP (zfa t55_3 undef (.bool false)) fun t59_4=>
opP (zfa t59_4 undef (.bool false)) fun t63_5=>
opP (zfa t63_5 undef (.bool false)) fun t69_6=>
opP (zfa t69_6 undef (.bool false)) fun t75_7=>
opP (zfa t75_7 undef (.bool false)) fun t81_8=>
opP (zfa t81_8 undef (.bool false)) fun t87_9=>
opP (zfa t87_9 undef (.bool false)) fun t93_10=>
K t93_10 H38))
theorem zri{H:Heap}{K:VH}(h:zAg  H K):wCall P zef [] H K:=zda rfl (Eq.mpr (by kernel_rfl) h)
def zYf(t0 t1:Value)(H:Heap)(K:VH):Prop:=
zIc (zsa t0) H fun t2 H1=>
zIc (zsa t1) H1 fun t3 H3=>
wCall P ztb [] H3 fun t5 H5=>
opP (unA .not t5) fun t6=>
wIf t6 (
K (.bool false) H5) (
zzc (fun J=>
opW (zka 37 t2 H5) fun t7 H9=>
wCall P zbe [t7] H9 fun t8 H11=>
wIf t8 (
opP (zfa t8 (.bool true) undef) fun t14=>
wIf t14 (
K (.bool true) H11) (
J [t2,t3] H11)) (
opP (zga 0 t3) fun t10=>
opW (zca t10 H11) fun t11 H15=>
opW (zOj t11 H15) fun t12 H17=>
opP ((zla P .gtr 3 true).f t12 (.int .i64 300)) fun t13=>
opP (zfa t8 (.bool true) t13) fun t14_1=>
wIf t14_1 (
K (.bool true) H17) (
J [t2,t3] H17))) (fun l H21=>
opW (zka 37 (nth l 0) H21) fun t15 H23=>
opW (zka 3 (nth l 1) H23) fun t16 H25=>
wCall P zab [t15,t16] H25 fun t17 H27=>
opW (zka 37 (nth l 0) H27) fun t18 H29=>
zPb (zEb H25 H27) (zza [(nth l 0)])∧(opW (zka 3 (nth l 1) H29) fun t19 H31=>
zPb (zEb H25 H27) (zza [(nth l 1)])∧(wCall P zEf [t18,t19] H31 fun t20 H33=>
opP ((zla P .eql 3 false).f t17 t20) fun t21=>
K t21 H33))))
theorem zMh{t0 t1:Value}{H:Heap}{K:VH}(h:zYf t0 t1 H K):wCall P zye [t0,t1] H K:=zda rfl (Eq.mpr (by kernel_rfl) h)
def zBg(t0:Value)(H:Heap)(K:VH):Prop:=
zIc (zsa t0) H fun t1 H1=>
wCall P ztb [] H1 fun t9 H3=>
opP (unA .not t9) fun t10=>
wIf t10 (
K (.bool false) H3) (
opP (zga 0 t1) fun t11=>
opW (zka 37 t11 H3) fun t12 H7=>
opP (zga 37 t1) fun t13=>
opW (zka 3 t13 H7) fun t14 H10=>
opP (zga 40 t1) fun t15=>
opW (zca t15 H10) fun t16 H13=>
opP (zga 41 t1) fun t17=>
opW (zca t17 H13) fun t18 H16=>
zIc (zc P 29) H16 fun t3 H18=>
zIc (zc P 52) H18 fun t4 H20=>
opW (zma 37 t3 t12 H20) fun u H22=>
zVf (zza [t17]) (zza [t3,t12])∧(zVf (zza [t15]) (zza [t3,t12])∧(zVf (zza [t13]) (zza [t3,t12])∧(opW (zma 3 t4 t14 H22) fun u_1 H24=>
zVf (zza [t17]) (zza [t4,t14])∧(zVf (zza [t15]) (zza [t4,t14])∧(zzc (fun J=>
opW (zka 37 t3 H24) fun t19 H27=>
wCall P zbe [t19] H27 fun t20 H29=>
wIf t20 (
opP (zfa t20 (.bool true) undef) fun t26=>
wIf t26 (
K (.bool true) H29) (
J [t3,t4,t16,t18] H29)) (
opP (zga 0 t4) fun t22=>
opW (zca t22 H29) fun t23 H33=>
opW (zOj t23 H33) fun t24 H35=>
opP ((zla P .gtr 3 true).f t24 (.int .i64 300)) fun t25=>
opP (zfa t20 (.bool true) t25) fun t26_1=>
wIf t26_1 (
K (.bool true) H35) (
J [t3,t4,t16,t18] H35))) (fun l H39=>
opW (zka 37 (nth l 0) H39) fun t27 H41=>
opW (zka 3 (nth l 1) H41) fun t28 H43=>
wCall P zab [t27,t28] H43 fun t29 H45=>
opW (zka 3 (nth l 1) H45) fun t30 H47=>
zIc (zc P 52) H47 fun t8 H49=>
opW (zma 3 t8 t30 H49) fun u_2 H51=>
opP (zga 1 (nth l 1)) fun t32=>
opW (zca t32 H51) fun t33 H54=>
opW (zJd H54 (zQx [(nth l 2),t33])) fun t34 H56=>
opP (zga 1 t8) fun t35=>
opW (zma 1 t35 t34 H56) fun u_3 H59=>
opP (zga 2 (nth l 1)) fun t37=>
opW (zca t37 H59) fun t38 H62=>
opW (zJd H62 (zRx [(nth l 3),t38])) fun t39 H64=>
opP (zga 2 t8) fun t40=>
opW (zma 1 t40 t39 H64) fun u_4 H67=>
zzc (fun J_1=>
opP ((zla P .eql 30 true).f t29 (.int .i64 0)) fun t42=>
wIf t42 (
opW (zka 37 (nth l 0) H67) fun t44 H71=>
opW (zka 3 t8 H71) fun t45 H73=>
wCall P zab [t44,t45] H73 fun t46 H75=>
opP ((zla P .neq 30 true).f t46 (.int .i64 0)) fun t47=>
wIf t47 (
opP (zfa t47 (.bool true) undef) fun t54=>
opP (zfa t54 (.bool true) undef) fun t61=>
opP (zfa t61 (.bool true) undef) fun t66=>
opP (zfa t42 t66 (.bool false)) fun t67=>
wIf t67 (
K (.bool false) H75) (
J_1 [(nth l 0),(nth l 1)] H75)) (
opP (zga 1 (nth l 0)) fun t49=>
opW (zca t49 H75) fun t50 H83=>
opP (zga 1 (nth l 1)) fun t51=>
opW (zca t51 H83) fun t52 H86=>
opP ((zla P .lss 24 false).f t50 t52) fun t53=>
opP (zfa t47 (.bool true) t53) fun t54_1=>
wIf t54_1 (
opP (zfa t54_1 (.bool true) undef) fun t61_1=>
opP (zfa t61_1 (.bool true) undef) fun t66_1=>
opP (zfa t42 t66_1 (.bool false)) fun t67_1=>
wIf t67_1 (
K (.bool false) H86) (
J_1 [(nth l 0),(nth l 1)] H86)) (
opP (zga 2 (nth l 0)) fun t56=>
opW (zca t56 H86) fun t57 H94=>
opP (zga 2 (nth l 1)) fun t58=>
opW (zca t58 H94) fun t59 H97=>
opP ((zla P .gtr 3 false).f t57 t59) fun t60=>
opP (zfa t54_1 (.bool true) t60) fun t61_2=>
wIf t61_2 (
opP (zfa t61_2 (.bool true) undef) fun t66_2=>
opP (zfa t42 t66_2 (.bool false)) fun t67_2=>
wIf t67_2 (
K (.bool false) H97) (
J_1 [(nth l 0),(nth l 1)] H97)) (
opP (zga 1 (nth l 0)) fun t63=>
opW (zca t63 H97) fun t64 H104=>
opP ((zla P .lss 24 true).f t64 (.int .u64 1)) fun t65=>
opP (zfa t61_2 (.bool true) t65) fun t66_3=>
opP (zfa t42 t66_3 (.bool false)) fun t67_3=>
wIf t67_3 (
K (.bool false) H104) (
J_1 [(nth l 0),(nth l 1)] H104))))) (
opP (zfa t42 undef (.bool false)) fun t67_4=>
wIf t67_4 (
K (.bool false) H67) (
J_1 [(nth l 0),(nth l 1)] H67))) (fun l_1 H110=>
opP (zga 1 (nth l_1 1)) fun t68=>
opW (zma 1 t68 (.int .u64 281474976710657) H110) fun u_5 H113=>
opW (zka 37 (nth l_1 0) H113) fun t69 H115=>
opW (zka 3 (nth l_1 1) H115) fun t70 H117=>
wCall P zab [t69,t70] H117 fun t71 H119=>
opP ((zla P .neq 30 true).f t71 (.int .i64 0)) fun t72=>
K t72 H119))))))))
theorem zsi{t0:Value}{H:Heap}{K:VH}(h:zBg t0 H K):wCall P zff [t0] H K:=zda rfl (Eq.mpr (by kernel_rfl) h)
def zCg(H:Heap)(K:VH):Prop:=
opW ((zea P 22 3).f [(0,(.int .u8 107)),(1,(.int .u8 101)),(2,(.int .u8 121))] H) fun t7 H1=>
opW (zlg t7 H1) fun t8 H3=>
wCall P zTc [] H3 fun t9 H5=>
wCall P zKh [t8,t9] H5 fun t10 H7=>
opP (zNj 0 t10) fun t11=>
opP (zNj 1 t10) fun t12=>
opW ((zea P 22 3).f [(0,(.int .u8 107)),(1,(.int .u8 101)),(2,(.int .u8 121))] H7) fun t14 H11=>
opW (zlg t14 H11) fun t15 H13=>
wCall P zJh [t15,t11] H13 fun t17 H15=>
opP (zNj 0 t17) fun t18=>
opP (zNj 1 t17) fun t19=>
opP (zNj 2 t17) fun t20=>
zIc (zc P 29) H15 fun t3 H20=>
opW (zma 37 t3 t18 H20) fun u H22=>
opP ((zla P .eql 30 true).f t12 (.int .i64 0)) fun t22=>
wIf t22 (
opP ((zla P .eql 30 true).f t20 (.int .i64 0)) fun t25=>
opP (zfa t22 t25 (.bool false)) fun t26=>
wIf t26 (
opW (lenSl t11 H22) fun t29 H27=>
opP ((zla P .eql 3 true).f t29 (.int .i64 153)) fun t30=>
opP (zfa t26 t30 (.bool false)) fun t31=>
wIf t31 (
opP ((zla P .eql 3 true).f t19 (.int .i64 153)) fun t34=>
opP (zfa t31 t34 (.bool false)) fun t35=>
wIf t35 (
opW (zka 37 t3 H27) fun t37 H33=>
wCall P zTc [] H33 fun t38 H35=>
zPb (zEb H33 H35) (zza [t3])∧(wCall P zze [t37,t38] H35 fun t39 H37=>
opP (zfa t35 t39 (.bool false)) fun t40=>
K t40 H37)) (
opP (zfa t35 undef (.bool false)) fun t40_1=>
K t40_1 H27)) (
opP (zfa t31 undef (.bool false)) fun t35_1=>
opP (zfa t35_1 undef (.bool false)) fun t40_2=>
K t40_2 H27)) (
opP (zfa t26 undef (.bool false)) fun t31_1=>
opP (zfa t31_1 undef (.bool false)) fun t35_2=>
opP (zfa t35_2 undef (.bool false)) fun t40_3=>
K t40_3 H22)) (
opP (zfa t22 undef (.bool false)) fun t26_1=>
opP (zfa t26_1 undef (.bool false)) fun t31_2=>
opP (zfa t31_2 undef (.bool false)) fun t35_3=>
opP (zfa t35_3 undef (.bool false)) fun t40_4=>
K t40_4 H22)
theorem zti{H:Heap}{K:VH}(h:zCg  H K):wCall P ztb [] H K:=zda rfl (Eq.mpr (by kernel_rfl) h)
def zOo(t0 t1:Value)(H:Heap)(K:VH):Prop:=
zIc (zc P 29) H fun t4 H1=>
wCall P znb [t1] H1 fun t15 H3=>
opP (zNj 0 t15) fun t16=>
opP (zNj 1 t15) fun t17=>
zzc (fun J=>
opP ((zla P .neq 30 true).f t17 (.int .i64 0)) fun t19=>
wIf t19 (
opP (zfa t19 (.bool true) undef) fun t25=>
J [t0,t1,t4,t16,t25] H3) (
opW (lenSl t1 H3) fun t22 H10=>
opP ((zla P .lss 3 false).f t22 t16) fun t24=>
opP (zfa t19 (.bool true) t24) fun t25_1=>
J [t0,t1,t4,t16,t25_1] H10)) (fun l H14=>
wIf (nth l 4) (
opP ((zWa P 29).f []) fun t26=>
opW (zma 37 (nth l 2) t26 H14) fun u H17=>
opW (zka 37 (nth l 2) H17) fun r _=>
K (.tuple [r,(.int .i64 0),(.int .i64 141)].toArray) H17) (
opP ((zla P .sub 3 true).f (nth l 3) (.int .i64 32)) fun t29=>
opP (zJa 1 (nth l 1) none (some t29) none) fun t30=>
opP ((zla P .sub 3 true).f (nth l 3) (.int .i64 32)) fun t33=>
opP (zJa 1 (nth l 1) (some t33) (some (nth l 3)) none) fun t35=>
zIc (zc P 26) H14 fun t11 H24=>
opP (zcb 32 1 t11 none none none H24) fun t36=>
opW (zSf 1 t36 t35 H24) fun t38 H27=>
opW ((zea P 74 1).f [(0,t30)] H27) fun t41 H29=>
wCall P zwg [(nth l 0),t41] H29 fun t42 H31=>
opW (zka 32 t11 H31) fun t43 H33=>
zPb (zEb H29 H31) (zza [t11])∧(zsp (zza [t11]) H27.next H29.next∧(wCall P zFf [t42,t43] H33 fun t44 H35=>
opP (unA .not t44) fun t45=>
wIf t45 (
opP ((zWa P 29).f []) fun t46=>
opW (zma 37 (nth l 2) t46 H35) fun u_1 H39=>
opW (zka 37 (nth l 2) H39) fun r_1 _=>
K (.tuple [r_1,(.int .i64 0),(.int .i64 142)].toArray) H39) (
opP (zJa 1 t30 (some (.int .i64 4)) none none) fun t49=>
wCall P ztc [t49] H35 fun t50 H43=>
opP (zNj 0 t50) fun t51=>
opP (zNj 1 t50) fun t52=>
zIc (zc P 29) H43 fun t12 H47=>
opW (zma 37 t12 t51 H47) fun u_2 H49=>
opP ((zla P .neq 30 true).f t52 (.int .i64 0)) fun t54=>
wIf t54 (
opP ((zWa P 29).f []) fun t55=>
opW (zma 37 (nth l 2) t55 H49) fun u_3 H53=>
opW (zka 37 (nth l 2) H53) fun r_2 _=>
K (.tuple [r_2,(.int .i64 0),t52].toArray) H53) (
opW (zka 37 t12 H49) fun t57 H56=>
opW (zma 37 (nth l 2) t57 H56) fun u_4 H58=>
opW (zka 37 (nth l 2) H58) fun r_3 _=>
K (.tuple [r_3,(nth l 3),(.int .i64 0)].toArray) H58))))))
theorem zPo{t0 t1:Value}{H:Heap}{K:VH}(h:zOo t0 t1 H K):wCall P zJh [t0,t1] H K:=zda rfl (Eq.mpr (by kernel_rfl) h)
def zll(t0:Value)(H:Heap)(K:VH):Prop:=
zzc (fun J=>
opW (lenSl t0 H) fun t6 H2=>
opP ((zla P .lss 3 true).f t6 (.int .i64 4)) fun t7=>
wIf t7 (
opP (zfa t7 (.bool true) undef) fun t14=>
J [t0,t14] H2) (
opW ((zea P 22 2).f [(0,(.int .u8 66)),(1,(.int .u8 85))] H2) fun t10 H6=>
opW (zlg t10 H6) fun t11 H8=>
wCall P zmd [t0,t11] H8 fun t12 H10=>
opP (unA .not t12) fun t13=>
opP (zfa t7 (.bool true) t13) fun t14_1=>
J [t0,t14_1] H10)) (fun l H14=>
wIf (nth l 1) (
K (.tuple [(.int .i64 0),(.int .i64 141)].toArray) H14) (
opP (zJa 1 (nth l 0) (some (.int .i64 2)) (some (.int .i64 4)) none) fun t16=>
wCall P zZg [t16] H14 fun t17 H17=>
wCall P zGa [t17,(.int .i64 2)] H17 fun t18 H19=>
opW (zmb .i64 t18 H19) fun t19 H21=>
opP ((zla P .add 3 true).f t19 (.int .i64 36)) fun t20=>
opP ((zla P .gtr 3 true).f t20 (.int .i64 2304)) fun t22=>
wIf t22 (
K (.tuple [(.int .i64 0),(.int .i64 141)].toArray) H21) (
K (.tuple [t20,(.int .i64 0)].toArray) H21)))
theorem zWl{t0:Value}{H:Heap}{K:VH}(h:zll t0 H K):wCall P znb [t0] H K:=zda rfl (Eq.mpr (by kernel_rfl) h)
noncomputable abbrev zui:Code:=zLb P zze 0
def zvi(l:List Value)(H:Heap)(N:LN)(Qx:LX)(Qr:LN):Prop:=
opP ((zla P .lss 3 false).f (nth l 4) (nth l 3)) fun t52=>
wIf t52 (
opP (zga 36 (nth l 0)) fun t54=>
opW (zca t54 H) fun t55 H3=>
opP (zIe 32 t55 (nth l 4)) fun t57=>
opW (zka 32 t57 H3) fun t58 H6=>
opP (zga 36 (nth l 1)) fun t59=>
opW (zca t59 H6) fun t60 H9=>
opP (zIe 32 t60 (nth l 4)) fun t62=>
opW (zka 32 t62 H9) fun t63 H12=>
opP ((zla P .neq 26 false).f t58 t63) fun t64=>
wIf t64 (
Qr [(.bool false)] H12) (
opP ((zla P .add 3 true).f (nth l 4) (.int .i64 1)) fun t65=>
N [(nth l 0),(nth l 1),(nth l 2),(nth l 3),t65] H12)) (
Qx 0 [(nth l 2)] H)
theorem zoj:LpI P 66 zui 16 zvi:=.mk (by kernel_rfl) fun l H N Qx Qr=>by kernel_rfl
def zCm(t0 t1:Value)(H:Heap)(K:VH):Prop:=
zIc (zsa t0) H fun t2 H1=>
zIc (zsa t1) H1 fun t3 H3=>
zzc (fun J=>
opP (zga 0 t2) fun t6=>
opW (zca t6 H3) fun t7 H7=>
opP (zga 0 t3) fun t8=>
opW (zca t8 H7) fun t9 H10=>
opP ((zla P .neq 9 false).f t7 t9) fun t10=>
wIf t10 (
opP (zfa t10 (.bool true) undef) fun t17=>
opP (zfa t17 (.bool true) undef) fun t24=>
opP (zfa t24 (.bool true) undef) fun t31=>
opP (zfa t31 (.bool true) undef) fun t38=>
opP (zfa t38 (.bool true) undef) fun t47=>
wIf t47 (
K (.bool false) H10) (
J [t2,t3,(.bool false)] H10)) (
opP (zga 1 t2) fun t12=>
opW (zca t12 H10) fun t13 H19=>
opP (zga 1 t3) fun t14=>
opW (zca t14 H19) fun t15 H22=>
opP ((zla P .neq 24 false).f t13 t15) fun t16=>
opP (zfa t10 (.bool true) t16) fun t17_1=>
wIf t17_1 (
opP (zfa t17_1 (.bool true) undef) fun t24_1=>
opP (zfa t24_1 (.bool true) undef) fun t31_1=>
opP (zfa t31_1 (.bool true) undef) fun t38_1=>
opP (zfa t38_1 (.bool true) undef) fun t47_1=>
wIf t47_1 (
K (.bool false) H22) (
J [t2,t3,(.bool false)] H22)) (
opP (zga 2 t2) fun t19=>
opW (zca t19 H22) fun t20 H31=>
opP (zga 2 t3) fun t21=>
opW (zca t21 H31) fun t22 H34=>
opP ((zla P .neq 3 false).f t20 t22) fun t23=>
opP (zfa t17_1 (.bool true) t23) fun t24_2=>
wIf t24_2 (
opP (zfa t24_2 (.bool true) undef) fun t31_2=>
opP (zfa t31_2 (.bool true) undef) fun t38_2=>
opP (zfa t38_2 (.bool true) undef) fun t47_2=>
wIf t47_2 (
K (.bool false) H34) (
J [t2,t3,(.bool false)] H34)) (
opP (zga 3 t2) fun t26=>
opW (zca t26 H34) fun t27 H42=>
opP (zga 3 t3) fun t28=>
opW (zca t28 H42) fun t29 H45=>
opP ((zla P .neq 3 false).f t27 t29) fun t30=>
opP (zfa t24_2 (.bool true) t30) fun t31_3=>
wIf t31_3 (
opP (zfa t31_3 (.bool true) undef) fun t38_3=>
opP (zfa t38_3 (.bool true) undef) fun t47_3=>
wIf t47_3 (
K (.bool false) H45) (
J [t2,t3,(.bool false)] H45)) (
opP (zga 4 t2) fun t33=>
opW (zka 32 t33 H45) fun t34 H52=>
opP (zga 4 t3) fun t35=>
opW (zka 32 t35 H52) fun t36 H55=>
opP ((zla P .neq 26 false).f t34 t36) fun t37=>
opP (zfa t31_3 (.bool true) t37) fun t38_4=>
wIf t38_4 (
opP (zfa t38_4 (.bool true) undef) fun t47_4=>
wIf t47_4 (
K (.bool false) H55) (
J [t2,t3,(.bool false)] H55)) (
opP (zga 36 t2) fun t40=>
opW (zca t40 H55) fun t41 H61=>
opW (lenSl t41 H61) fun t42 H63=>
opP (zga 36 t3) fun t43=>
opW (zca t43 H63) fun t44 H66=>
opW (lenSl t44 H66) fun t45 H68=>
opP ((zla P .neq 3 false).f t42 t45) fun t46=>
opP (zfa t38_4 (.bool true) t46) fun t47_5=>
wIf t47_5 (
K (.bool false) H68) (
J [t2,t3,(.bool false)] H68))))))) (fun l H72=>
opP (zga 36 (nth l 0)) fun t48=>
opW (zca t48 H72) fun t49 H75=>
opW (lenSl t49 H75) fun t50 H77=>
zQb P true 66 zui 16 [(nth l 0),(nth l 1),(nth l 2),t50,(.int .i64 0)] H77 (fun id l_1 H79=>
cond (Nat.beq id 0) (
K (.bool true) H79) (
False)) (fun l_1 H79=>
K (nth l_1 0) H79))
theorem zCn{t0 t1:Value}{H:Heap}{K:VH}(h:zCm t0 t1 H K):wCall P zze [t0,t1] H K:=zda rfl (Eq.mpr (by kernel_rfl) h)
def zml(t0:Value)(H:Heap)(K:VH):Prop:=
zIc (zsa t0) H fun t1 H1=>
opP (zga 0 t1) fun t3=>
opW (zca t3 H1) fun t4 H4=>
opW (zOj t4 H4) fun t5 H6=>
opP ((zla P .gtr 3 true).f t5 (.int .i64 300)) fun t6=>
wIf t6 (
opP (zfa t6 (.bool true) undef) fun t12=>
K t12 H6) (
opP (zga 36 t1) fun t8=>
opW (zca t8 H6) fun t9 H11=>
opW (lenSl t9 H11) fun t10 H13=>
opP ((zla P .gtr 3 true).f t10 (.int .i64 100)) fun t11=>
opP (zfa t6 (.bool true) t11) fun t12_1=>
K t12_1 H13)
theorem zXl{t0:Value}{H:Heap}{K:VH}(h:zml t0 H K):wCall P zbe [t0] H K:=zda rfl (Eq.mpr (by kernel_rfl) h)
def zQo(t0 t1:Value)(H:Heap)(K:VH):Prop:=
zIc (zsa t1) H fun t3 H1=>
opW (zka 37 t3 H1) fun t9 H3=>
wCall P zuc [t9] H3 fun t10 H5=>
opW (lenSl t10 H5) fun t12 H7=>
opP ((zla P .eql 3 true).f t12 (.int .i64 0)) fun t13=>
wIf t13 (
K (.tuple [(.slice none 0 0),(.int .i64 131)].toArray) H7) (
opW ((zea P 22 2).f [(0,(.int .u8 66)),(1,(.int .u8 85))] H7) fun t14 H10=>
opW (zlg t14 H10) fun t15 H12=>
opW (lenSl t10 H12) fun t17 H14=>
opW (zmb .u64 t17 H14) fun t18 H16=>
wCall P zXb [t15,t18,(.int .i64 2)] H16 fun t19 H18=>
opW ((zea P 74 1).f [(0,t10)] H18) fun t21 H20=>
wCall P znj [t19,t21] H20 fun t22 H22=>
opW ((zea P 74 1).f [(0,t22)] H22) fun t25 H24=>
wCall P zwg [t0,t25] H24 fun t26 H26=>
zIc (zc P 26) H26 fun t8 H28=>
opW (zma 32 t8 t26 H28) fun u H30=>
opP (zcb 32 1 t8 none none none H30) fun t28=>
opW (zoa 1 1 t22 t28 H30) fun t29 H33=>
K (.tuple [t29,(.int .i64 0)].toArray) H33)
theorem zRo{t0 t1:Value}{H:Heap}{K:VH}(h:zQo t0 t1 H K):wCall P zKh [t0,t1] H K:=zda rfl (Eq.mpr (by kernel_rfl) h)
def znl(H:Heap)(K:VH):Prop:=
zIc (zc P 29) H fun t0 H1=>
opW ((zGc P 27).f (.int .i64 2) (.int .i64 2) H1) fun t1 H3=>
opP ((zWa P 29).f [(0,(.string ⟨#[98,111,111,116,49]⟩)),(1,(.int .u64 7)),(2,(.int .i64 65)),(3,(.int .i64 64)),(5,t1)]) fun t2=>
opW (zma 37 t0 t2 H3) fun u H6=>
opW (zka 37 t0 H6) fun r _=>
K r H6
theorem zYl{H:Heap}{K:VH}(h:znl  H K):wCall P zTc [] H K:=zda rfl (Eq.mpr (by kernel_rfl) h)
def zDm(t0 t1:Value)(H:Heap)(K:VH):Prop:=
zIc (zsa t0) H fun t2 H1=>
zIc (zsa t1) H1 fun t3 H3=>
opW (zka 37 t2 H3) fun t6 H5=>
wCall P zNb [t6] H5 fun t7 H7=>
opP (unA .not t7) fun t8=>
wIf t8 (
K (.int .i64 131) H7) (
opP (zga 0 t2) fun t10=>
opW (zca t10 H7) fun t11 H11=>
opP (zga 0 t3) fun t12=>
opW (zca t12 H11) fun t13 H14=>
wCall P zxg [t11,t13] H14 fun t14 H16=>
opP (unA .not t14) fun t15=>
wIf t15 (
K (.int .i64 143) H16) (
opP (zga 1 t2) fun t17=>
opW (zca t17 H16) fun t18 H20=>
opP (zga 1 t3) fun t19=>
opW (zca t19 H20) fun t20 H23=>
opP ((zla P .lss 24 false).f t18 t20) fun t21=>
wIf t21 (
K (.int .i64 144) H23) (
opP (zga 2 t2) fun t23=>
opW (zca t23 H23) fun t24 H27=>
opP (zga 2 t3) fun t25=>
opW (zca t25 H27) fun t26 H30=>
opP ((zla P .gtr 3 false).f t24 t26) fun t27=>
wIf t27 (
K (.int .i64 145) H30) (
K (.int .i64 0) H30))))
theorem zDn{t0 t1:Value}{H:Heap}{K:VH}(h:zDm t0 t1 H K):wCall P zab [t0,t1] H K:=zda rfl (Eq.mpr (by kernel_rfl) h)
def zol(t0 t1:Value)(H:Heap)(K:VH):Prop:=
zIc (zsa t0) H fun t2 H1=>
zIc (zsa t1) H1 fun t3 H3=>
opW (zka 37 t2 H3) fun t5 H5=>
wCall P zGf [t5] H5 fun t6 H7=>
opP (unA .not t6) fun t7=>
wIf t7 (
K (.int .i64 131) H7) (
opP (zga 0 t2) fun t8=>
opW (zca t8 H7) fun t9 H11=>
wCall P zzd [t9] H11 fun t10 H13=>
opP (zga 0 t3) fun t11=>
opW (zca t11 H13) fun t12 H16=>
zPb (zEb H11 H13) (zza [t11])∧(wCall P zzd [t12] H16 fun t13 H18=>
opP ((zla P .neq 9 false).f t10 t13) fun t14=>
wIf t14 (
K (.int .i64 143) H18) (
opP (zga 1 t2) fun t15=>
opW (zca t15 H18) fun t16 H22=>
opP (zga 1 t3) fun t17=>
opW (zca t17 H22) fun t18 H25=>
opP ((zla P .lss 24 false).f t16 t18) fun t19=>
wIf t19 (
K (.int .i64 144) H25) (
opP (zga 2 t2) fun t20=>
opW (zca t20 H25) fun t21 H29=>
opP (zga 2 t3) fun t22=>
opW (zca t22 H29) fun t23 H32=>
opP ((zla P .gtr 3 false).f t21 t23) fun t24=>
wIf t24 (
K (.int .i64 145) H32) (
K (.int .i64 0) H32)))))
theorem zZl{t0 t1:Value}{H:Heap}{K:VH}(h:zol t0 t1 H K):wCall P zEf [t0,t1] H K:=zda rfl (Eq.mpr (by kernel_rfl) h)
noncomputable abbrev zRj:Code:=zLb P zFf 0
def zSj(l:List Value)(H:Heap)(N:LN)(Qx:LX)(Qr:LN):Prop:=
opP ((zla P .lss 3 true).f (nth l 4) (.int .i64 32)) fun t8=>
wIf t8 (
opP (zTa 32 1 (nth l 0) (nth l 4)) fun t12=>
opW (zca t12 H) fun t13 H3=>
opP (zTa 32 1 (nth l 1) (nth l 4)) fun t15=>
opW (zca t15 H3) fun t16 H6=>
opP ((zla P .xor 5 false).f t13 t16) fun t17=>
opP ((zla P .or 5 false).f (nth l 3) t17) fun t18=>
opP ((zla P .add 3 true).f (nth l 4) (.int .i64 1)) fun t19=>
N [(nth l 0),(nth l 1),(nth l 2),t18,t19] H6) (
Qx 0 [(nth l 2),(nth l 3)] H)
theorem zbk:LpI P 22 zRj 48 zSj:=.mk (by kernel_rfl) fun l H N Qx Qr=>by kernel_rfl
def zSo(t0 t1:Value)(H:Heap)(K:VH):Prop:=
zIc (zsa t0) H fun t2 H1=>
zIc (zsa t1) H1 fun t3 H3=>
zQb P true 22 zRj 48 [t2,t3,(.bool false),(.int .u8 0),(.int .i64 0)] H3 (fun id l H5=>
cond (Nat.beq id 0) (
opP ((zla P .eql 5 true).f (nth l 1) (.int .u8 0)) fun t21=>
K t21 H5) (
False)) (fun l H5=>
K (nth l 0) H5)
theorem zTo{t0 t1:Value}{H:Heap}{K:VH}(h:zSo t0 t1 H K):wCall P zFf [t0,t1] H K:=zda rfl (Eq.mpr (by kernel_rfl) h)
noncomputable abbrev zEm:Code:=zLb P zwg 0
def zFm(l:List Value)(H:Heap)(N:LN)(Qx:LX)(Qr:LN):Prop:=
opP ((zla P .lss 3 false).f (nth l 5) (nth l 4)) fun t17=>
wIf t17 (
opP (zIe 1 (nth l 3) (nth l 5)) fun t18=>
opW (zca t18 H) fun t19 H3=>
wCall P zua [(nth l 2),t19] H3 fun t22 H5=>
opP ((zla P .add 3 true).f (nth l 5) (.int .i64 1)) fun t23=>
N [(nth l 0),(nth l 1),(nth l 2),(nth l 3),(nth l 4),t23] H5) (
Qx 0 [(nth l 0),(nth l 1),(nth l 2)] H)
theorem zam:LpI P 31 zEm 49 zFm:=.mk (by kernel_rfl) fun l H N Qx Qr=>by kernel_rfl
def zzu(t0 t1:Value)(H:Heap)(K:VH):Prop:=
zIc (zc P 26) H fun t4 H1=>
wCall P zAe [] H1 fun t9 H3=>
wCall P zAd [t0,(.int .u8 54)] H3 fun t12 H5=>
wCall P zua [t9,t12] H5 fun t13 H7=>
opW (lenSl t1 H7) fun t15 H9=>
zQb P true 31 zEm 49 [t0,t4,t9,t1,t15,(.int .i64 0)] H9 (fun id l H11=>
cond (Nat.beq id 0) (
wCall P zHa [(nth l 2)] H11 fun t25 H13=>
zIc (zc P 26) H13 fun t8 H15=>
opW (zma 32 t8 t25 H15) fun u H17=>
wCall P zAd [(nth l 0),(.int .u8 92)] H17 fun t27 H19=>
opP (zcb 32 1 t8 none none none H19) fun t28=>
zPb (zEb H17 H19) (zza [t8])∧(opW ((zea P 74 2).f [(0,t27),(1,t28)] H19) fun t29 H22=>
wCall P zHc [t29] H22 fun t30 H24=>
opW (zma 32 (nth l 1) t30 H24) fun u_1 H26=>
opW (zka 32 (nth l 1) H26) fun r _=>
K r H26)) (
False)) (fun l H11=>
opW (zka 32 (nth l 1) H11) fun r_1 _=>
K r_1 H11)
theorem zts{t0 t1:Value}{H:Heap}{K:VH}(h:zzu t0 t1 H K):wCall P zwg [t0,t1] H K:=zda rfl (Eq.mpr (by kernel_rfl) h)
noncomputable abbrev zif:Code:=zLb P ztc 0
def zjf(l:List Value)(H:Heap)(N:LN)(Qx:LX)(Qr:LN):Prop:=
opP ((zla P .lss 3 false).f (nth l 5) (nth l 4)) fun t29=>
wIf t29 (
opP (zga 36 (nth l 3)) fun t30=>
opW (zca t30 H) fun t31 H3=>
wCall P zVc [(nth l 2)] H3 fun t33 H5=>
zPb (zEb H3 H5) (zza [t30])∧(opW ((zea P 27 1).f [(0,t33)] H5) fun t34 H7=>
opW (zoa 32 32 t31 t34 H7) fun t35 H9=>
opP (zga 36 (nth l 3)) fun t36=>
opW (zma 1 t36 t35 H9) fun u H12=>
opP ((zla P .add 3 true).f (nth l 5) (.int .i64 1)) fun t37=>
N [(nth l 0),(nth l 1),(nth l 2),(nth l 3),(nth l 4),t37] H12)) (
Qx 0 [(nth l 0),(nth l 1),(nth l 2),(nth l 3)] H)
theorem zDg:LpI P 48 zif 60 zjf:=.mk (by kernel_rfl) fun l H N Qx Qr=>by kernel_rfl
def zsh(t0:Value)(H:Heap)(K:VH):Prop:=
zIc (zc P 29) H fun t2 H1=>
wCall P zZg [t0] H1 fun t7 H3=>
wCall P zUc [t7,(.int .i64 96)] H3 fun t9 H5=>
wCall P zGa [t7,(.int .i64 8)] H5 fun t11 H7=>
wCall P zGa [t7,(.int .i64 4)] H7 fun t13 H9=>
opW (zmb .i64 t13 H9) fun t14 H11=>
wCall P zGa [t7,(.int .i64 2)] H11 fun t16 H13=>
opW (zmb .i64 t16 H13) fun t17 H15=>
opP ((zWa P 29).f [(0,t9),(1,t11),(2,t14),(3,t17)]) fun t18=>
zIc (zc P 29) H15 fun t5 H18=>
opW (zma 37 t5 t18 H18) fun u H20=>
wCall P zVc [t7] H20 fun t20 H22=>
opP (zga 4 t5) fun t21=>
opW (zma 32 t21 t20 H22) fun u_1 H25=>
opP (zga 2 t5) fun t22=>
opW (zca t22 H25) fun t23 H28=>
opP (zga 3 t5) fun t24=>
opW (zca t24 H28) fun t25 H31=>
wCall P zvc [t23,t25] H31 fun t26 H33=>
opW (zJd H33 (zQx [t26,(.int .i64 65)])) fun t27 H35=>
zQb P true 48 zif 60 [t2,(.int .i64 0),t7,t5,t27,(.int .i64 0)] H35 (fun id l H37=>
cond (Nat.beq id 0) (
zzc (fun J=>
wCall P znd [(nth l 2)] H37 fun t39 H40=>
opP ((zla P .neq 30 true).f t39 (.int .i64 0)) fun t40=>
wIf t40 (
opP (zfa t40 (.bool true) undef) fun t45=>
J [(nth l 0),(nth l 3),t45] H40) (
opW (zka 37 (nth l 3) H40) fun t42 H44=>
wCall P zNb [t42] H44 fun t43 H46=>
opP (unA .not t43) fun t44=>
opP (zfa t40 (.bool true) t44) fun t45_1=>
J [(nth l 0),(nth l 3),t45_1] H46)) (fun l_1 H50=>
wIf (nth l_1 2) (
opP ((zWa P 29).f []) fun t46=>
opW (zma 37 (nth l_1 0) t46 H50) fun u_2 H53=>
opW (zka 37 (nth l_1 0) H53) fun r _=>
K (.tuple [r,(.int .i64 131)].toArray) H53) (
opW (zka 37 (nth l_1 1) H50) fun t47 H56=>
opW (zma 37 (nth l_1 0) t47 H56) fun u_3 H58=>
opW (zka 37 (nth l_1 0) H58) fun r_1 _=>
K (.tuple [r_1,(.int .i64 0)].toArray) H58))) (
False)) (fun l H37=>
opW (zka 37 (nth l 0) H37) fun r_2 _=>
K (.tuple [r_2,(nth l 1)].toArray) H37)
theorem zpj{t0:Value}{H:Heap}{K:VH}(h:zsh t0 H K):wCall P ztc [t0] H K:=zda rfl (Eq.mpr (by kernel_rfl) h)
def bytes_HasPrefix(t0 t1:Value)(H:Heap)(K:VH):Prop:=
opW (lenSl t0 H) fun t6 H1=>
opW (lenSl t1 H1) fun t8 H3=>
opP ((zla P .geq 3 false).f t6 t8) fun t9=>
wIf t9 (
opW (lenSl t1 H3) fun t13 H6=>
opP (zJa 1 t0 none (some t13) none) fun t14=>
wCall P zHf [t14,t1] H6 fun t16 H9=>
opP (zfa t9 t16 (.bool false)) fun t17=>
K t17 H9) (
opP (zfa t9 undef (.bool false)) fun t17_1=>
K t17_1 H3)
theorem zwi{t0 t1:Value}{H:Heap}{K:VH}(h:bytes_HasPrefix t0 t1 H K):wCall P zmd [t0,t1] H K:=zda rfl (Eq.mpr (by kernel_rfl) h)
def ztr(t0:Value)(H:Heap)(K:VH):Prop:=
opP ((zWa P 93).f [(0,t0)]) fun t4=>
zIc (zsa t4) H fun t5 H2=>
K t5 H2
theorem zpq{t0:Value}{H:Heap}{K:VH}(h:ztr t0 H K):wCall P zZg [t0] H K:=zda rfl (Eq.mpr (by kernel_rfl) h)
noncomputable abbrev zPa:List Tmp × Code × Code:=rangeAt P zGa 0
def zQd(vals args:List Value)(l:Nat)(H:Heap)(K:VH):Prop:=
zkr l H fun H0=>
opW (zca (nth vals 0) H0) fun t15 H2=>
opP ((zla P .shl 24 true).f t15 (.int .u64 8)) fun t16=>
opW (zmb .u64 (nth args 1) H2) fun t18 H5=>
opP ((zla P .or 24 false).f t16 t18) fun t19=>
opW (zma 1 (nth vals 0) t19 H5) fun u H8=>
zLz l .normal H8 K
theorem zLf(vals args:List Value)(l:Nat)(H:Heap)(K:VH):zbq P 21 zPa.1 zPa.2.1 zPa.2.2 vals args l H K=zQd vals args l H K:=by kernel_rfl
def zkf(t0 t1:Value)(H:Heap)(K:VH):Prop:=
zIc (zc P 24) H fun t5 H1=>
opW (zma 1 t5 (.int .u64 0) H1) fun u H3=>
wCall P zce [t1] H3 fun t10 H5=>
wCall P zdb [t0,t10] H5 fun t11 H7=>
wCall P zYb [t11] H7 fun t12 H9=>
zjr P 21 zPa.1 zPa.2.1 zPa.2.2 [t5,undef] t12 H9 (fun H10=>
opW (zca t5 H10) fun t20 H12=>
K t20 H12) (fun id H10=>
cond (Nat.beq id 0) (
opW (zca t5 H10) fun t20_1 H14=>
K t20_1 H14) (
False)) (fun H10=>
K (.int .u64 0) H10)
theorem zgh{t0 t1:Value}{H:Heap}{K:VH}(h:zkf t0 t1 H K):wCall P zGa [t0,t1] H K:=zda rfl (Eq.mpr (by kernel_rfl) h)
noncomputable abbrev zlf:Code:=zLb P zuc 0
def zmf(l:List Value)(H:Heap)(N:LN)(Qx:LX)(Qr:LN):Prop:=
opP ((zla P .lss 3 false).f (nth l 4) (nth l 3)) fun t33=>
wIf t33 (
opP (zIe 32 (nth l 2) (nth l 4)) fun t34=>
opW (zka 32 t34 H) fun t35 H3=>
zIc (zc P 26) H3 fun t5 H5=>
opW (zma 32 t5 t35 H5) fun u H7=>
opP (zcb 32 1 t5 none none none H7) fun t37=>
opW (zoa 1 1 (nth l 1) t37 H7) fun t38 H10=>
opP ((zla P .add 3 true).f (nth l 4) (.int .i64 1)) fun t39=>
N [(nth l 0),t38,(nth l 2),(nth l 3),t39] H10) (
Qx 0 [(nth l 0),(nth l 1)] H)
theorem zEg:LpI P 41 zlf 12 zmf:=.mk (by kernel_rfl) fun l H N Qx Qr=>by kernel_rfl
def zth(t0:Value)(H:Heap)(K:VH):Prop:=
zIc (zsa t0) H fun t1 H1=>
opW (zka 37 t1 H1) fun t6 H3=>
wCall P zNb [t6] H3 fun t7 H5=>
opP (unA .not t7) fun t8=>
wIf t8 (
K (.slice none 0 0) H5) (
opP (zga 0 t1) fun t9=>
opW (zca t9 H5) fun t10 H9=>
opW ((zea P 123 1).f [(0,t10)] H9) fun t11 H11=>
wCall P zIf [(.slice none 0 0),t11] H11 fun t12 H13=>
opP (zga 1 t1) fun t13=>
opW (zca t13 H13) fun t14 H16=>
zPb (zEb H11 H13) (zza [t13])∧(zsp (zza [t13]) H9.next H11.next∧(wCall P zXb [t12,t14,(.int .i64 8)] H16 fun t15 H18=>
opP (zga 2 t1) fun t17=>
opW (zca t17 H18) fun t18 H21=>
opW (zmb .u64 t18 H21) fun t19 H23=>
wCall P zXb [t15,t19,(.int .i64 4)] H23 fun t20 H25=>
opP (zga 3 t1) fun t21=>
opW (zca t21 H25) fun t22 H28=>
zPb (zEb H23 H25) (zza [t21])∧(opW (zmb .u64 t22 H28) fun t23 H30=>
wCall P zXb [t20,t23,(.int .i64 2)] H30 fun t24 H32=>
opP (zga 4 t1) fun t26=>
opP (zcb 32 1 t26 none none none H32) fun t27=>
opW (zoa 1 1 t24 t27 H32) fun t28 H36=>
opP (zga 36 t1) fun t29=>
opW (zca t29 H36) fun t30 H39=>
opW (lenSl t30 H39) fun t31 H41=>
zQb P true 41 zlf 12 [(.slice none 0 0),t28,t30,t31,(.int .i64 0)] H41 (fun id l H43=>
cond (Nat.beq id 0) (
K (nth l 1) H43) (
False)) (fun l H43=>
K (nth l 0) H43)))))
theorem zqj{t0:Value}{H:Heap}{K:VH}(h:zth t0 H K):wCall P zuc [t0] H K:=zda rfl (Eq.mpr (by kernel_rfl) h)
def zur(t0 t1:Value)(H:Heap)(K:VH):Prop:=
wCall P zDa [t1] H fun t7 H1=>
opW ((zea P 74 2).f [(0,t0),(1,t7)] H1) fun t8 H3=>
wCall P zDa [t8] H3 fun t9 H5=>
K t9 H5
theorem zqq{t0 t1:Value}{H:Heap}{K:VH}(h:zur t0 t1 H K):wCall P znj [t0,t1] H K:=zda rfl (Eq.mpr (by kernel_rfl) h)
noncomputable abbrev zxi:Code:=zLb P zXb 0
def zyi(l:List Value)(H:Heap)(N:LN)(Qx:LX)(Qr:LN):Prop:=
opP ((zla P .lss 3 false).f (nth l 4) (nth l 3)) fun t13=>
wIf t13 (
opW (zmb .u8 (nth l 0) H) fun t16 H2=>
opW ((zea P 22 1).f [(0,t16)] H2) fun t17 H4=>
opW (zoa 1 1 (nth l 2) t17 H4) fun t18 H6=>
opP ((zla P .shr 24 true).f (nth l 0) (.int .u64 8)) fun t20=>
opP ((zla P .add 3 true).f (nth l 4) (.int .i64 1)) fun t21=>
N [t20,(nth l 1),t18,(nth l 3),t21] H6) (
Qx 0 [(nth l 1),(nth l 2)] H)
theorem zrj:LpI P 23 zxi 192 zyi:=.mk (by kernel_rfl) fun l H N Qx Qr=>by kernel_rfl
def zGm(t0 t1 t2:Value)(H:Heap)(K:VH):Prop:=
wCall P zOa [t0] H fun t9 H1=>
wCall P zce [t2] H1 fun t11 H3=>
zQb P true 23 zxi 192 [t1,(.slice none 0 0),t9,t11,(.int .i64 0)] H3 (fun id l H5=>
cond (Nat.beq id 0) (
K (nth l 1) H5) (
False)) (fun l H5=>
K (nth l 0) H5)
theorem zEn{t0 t1 t2:Value}{H:Heap}{K:VH}(h:zGm t0 t1 t2 H K):wCall P zXb [t0,t1,t2] H K:=zda rfl (Eq.mpr (by kernel_rfl) h)
def zpl(t0:Value)(H:Heap)(K:VH):Prop:=
zIc (zsa t0) H fun t1 H1=>
zzc (fun J=>
opP (zga 0 t1) fun t3=>
opW (zca t3 H1) fun t4 H5=>
wCall P zBd [t4] H5 fun t5 H7=>
opP ((zla P .neq 3 true).f t5 (.int .i64 0)) fun t6=>
wIf t6 (
opP (zfa t6 (.bool true) undef) fun t11=>
opP (zfa t11 (.bool true) undef) fun t16=>
opP (zfa t16 (.bool true) undef) fun t21=>
opP (zfa t21 (.bool true) undef) fun t26=>
wIf t26 (
K (.bool false) H7) (
J [t1] H7)) (
opP (zga 1 t1) fun t8=>
opW (zca t8 H7) fun t9 H15=>
opP ((zla P .lss 24 true).f t9 (.int .u64 1)) fun t10=>
opP (zfa t6 (.bool true) t10) fun t11_1=>
wIf t11_1 (
opP (zfa t11_1 (.bool true) undef) fun t16_1=>
opP (zfa t16_1 (.bool true) undef) fun t21_1=>
opP (zfa t21_1 (.bool true) undef) fun t26_1=>
wIf t26_1 (
K (.bool false) H15) (
J [t1] H15)) (
opP (zga 1 t1) fun t13=>
opW (zca t13 H15) fun t14 H23=>
opP ((zla P .gtr 24 true).f t14 (.int .u64 281474976710656)) fun t15=>
opP (zfa t11_1 (.bool true) t15) fun t16_2=>
wIf t16_2 (
opP (zfa t16_2 (.bool true) undef) fun t21_2=>
opP (zfa t21_2 (.bool true) undef) fun t26_2=>
wIf t26_2 (
K (.bool false) H23) (
J [t1] H23)) (
opP (zga 2 t1) fun t18=>
opW (zca t18 H23) fun t19 H30=>
opP ((zla P .lss 3 true).f t19 (.int .i64 1)) fun t20=>
opP (zfa t16_2 (.bool true) t20) fun t21_3=>
wIf t21_3 (
opP (zfa t21_3 (.bool true) undef) fun t26_3=>
wIf t26_3 (
K (.bool false) H30) (
J [t1] H30)) (
opP (zga 2 t1) fun t23=>
opW (zca t23 H30) fun t24 H36=>
opP ((zla P .gtr 3 true).f t24 (.int .i64 65536)) fun t25=>
opP (zfa t21_3 (.bool true) t25) fun t26_4=>
wIf t26_4 (
K (.bool false) H36) (
J [t1] H36)))))) (fun l H40=>
zzc (fun J_1=>
opP (zga 3 (nth l 0)) fun t27=>
opW (zca t27 H40) fun t28 H44=>
opP ((zla P .lss 3 true).f t28 (.int .i64 64)) fun t29=>
wIf t29 (
opP (zfa t29 (.bool true) undef) fun t34=>
opP (zfa t34 (.bool true) undef) fun t40=>
wIf t40 (
K (.bool false) H44) (
J_1 [(nth l 0)] H44)) (
opP (zga 3 (nth l 0)) fun t31=>
opW (zca t31 H44) fun t32 H50=>
opP ((zla P .gtr 3 true).f t32 (.int .i64 1024)) fun t33=>
opP (zfa t29 (.bool true) t33) fun t34_1=>
wIf t34_1 (
opP (zfa t34_1 (.bool true) undef) fun t40_1=>
wIf t40_1 (
K (.bool false) H50) (
J_1 [(nth l 0)] H50)) (
opP (zga 3 (nth l 0)) fun t36=>
opW (zca t36 H50) fun t37 H56=>
opP ((zla P .rem 3 true).f t37 (.int .i64 64)) fun t38=>
opP ((zla P .neq 3 true).f t38 (.int .i64 0)) fun t39=>
opP (zfa t34_1 (.bool true) t39) fun t40_2=>
wIf t40_2 (
K (.bool false) H56) (
J_1 [(nth l 0)] H56)))) (fun l_1 H61=>
opP (zga 36 (nth l_1 0)) fun t41=>
opW (zca t41 H61) fun t42 H64=>
opW (lenSl t42 H64) fun t43 H66=>
opP ((zla P .leq 3 true).f t43 (.int .i64 64)) fun t44=>
wIf t44 (
opP (zga 36 (nth l_1 0)) fun t46=>
opW (zca t46 H66) fun t47 H70=>
opW (lenSl t47 H70) fun t48 H72=>
opP (zga 2 (nth l_1 0)) fun t49=>
opW (zca t49 H72) fun t50 H75=>
opP (zga 3 (nth l_1 0)) fun t51=>
opW (zca t51 H75) fun t52 H78=>
wCall P zJf [t50,t52] H78 fun t53 H80=>
zPb (zEb H78 H80) (zza [t46])∧(opP ((zla P .eql 3 false).f t48 t53) fun t54=>
opP (zfa t44 t54 (.bool false)) fun t55=>
K t55 H80)) (
opP (zfa t44 undef (.bool false)) fun t55_1=>
K t55_1 H66)))
theorem zbm{t0:Value}{H:Heap}{K:VH}(h:zpl t0 H K):wCall P zGf [t0] H K:=zda rfl (Eq.mpr (by kernel_rfl) h)
def zuh(t0:Value)(H:Heap)(K:VH):Prop:=
zIc (zsa t0) H fun t1 H1=>
zzc (fun J=>
zzc (fun J_1=>
opP (zga 0 t1) fun t4=>
opW (zca t4 H1) fun t5 H6=>
wCall P zyg [t5] H6 fun t6 H8=>
opP ((zla P .neq 30 true).f t6 (.int .i64 0)) fun t7=>
wIf t7 (
J_1 [t1,t7] H8) (
opP (zga 1 t1) fun t8=>
opW (zca t8 H8) fun t9 H12=>
opP ((zla P .lss 24 true).f t9 (.int .u64 1)) fun t10=>
wIf t10 (
J_1 [t1,t10] H12) (
opP (zga 1 t1) fun t11=>
opW (zca t11 H12) fun t12 H16=>
opP ((zla P .gtr 24 true).f t12 (.int .u64 281474976710656)) fun t13=>
J_1 [t1,t13] H16))) (fun l H19=>
wIf (nth l 1) (
K (.bool false) H19) (
zzc (fun J_2=>
opP (zga 2 (nth l 0)) fun t15=>
opW (zca t15 H19) fun t16 H23=>
opP ((zla P .lss 3 true).f t16 (.int .i64 1)) fun t17=>
wIf t17 (
opP (zfa t17 (.bool true) undef) fun t22=>
J_2 [(nth l 0),t22] H23) (
opP (zga 2 (nth l 0)) fun t19=>
opW (zca t19 H23) fun t20 H28=>
opP ((zla P .gtr 3 true).f t20 (.int .i64 65536)) fun t21=>
opP (zfa t17 (.bool true) t21) fun t22_1=>
J_2 [(nth l 0),t22_1] H28)) (fun l_1 H32=>
wIf (nth l_1 1) (
K (.bool false) H32) (
opP (zga 3 (nth l_1 0)) fun t24=>
opW (zca t24 H32) fun t25 H35=>
opP ((zla P .lss 3 true).f t25 (.int .i64 64)) fun t26=>
wIf t26 (
opP (zfa t26 (.bool true) undef) fun t31=>
opP (zfa t31 (.bool true) undef) fun t37=>
wIf t37 (
K (.bool false) H35) (
J [(nth l_1 0)] H35)) (
opP (zga 3 (nth l_1 0)) fun t28=>
opW (zca t28 H35) fun t29 H41=>
opP ((zla P .gtr 3 true).f t29 (.int .i64 1024)) fun t30=>
opP (zfa t26 (.bool true) t30) fun t31_1=>
wIf t31_1 (
opP (zfa t31_1 (.bool true) undef) fun t37_1=>
wIf t37_1 (
K (.bool false) H41) (
J [(nth l_1 0)] H41)) (
opP (zga 3 (nth l_1 0)) fun t33=>
opW (zca t33 H41) fun t34 H47=>
opP ((zla P .rem 3 true).f t34 (.int .i64 64)) fun t35=>
opP ((zla P .neq 3 true).f t35 (.int .i64 0)) fun t36=>
opP (zfa t31_1 (.bool true) t36) fun t37_2=>
wIf t37_2 (
K (.bool false) H47) (
J [(nth l_1 0)] H47)))))))) (fun l_2 H52=>
opP (zga 36 (nth l_2 0)) fun t38=>
opW (zca t38 H52) fun t39 H55=>
opW (lenSl t39 H55) fun t40 H57=>
opP (zga 2 (nth l_2 0)) fun t41=>
opW (zca t41 H57) fun t42 H60=>
opP (zga 3 (nth l_2 0)) fun t43=>
opW (zca t43 H60) fun t44 H63=>
wCall P zvc [t42,t44] H63 fun t45 H65=>
zPb (zEb H63 H65) (zza [t38])∧(opP ((zla P .eql 3 false).f t40 t45) fun t46=>
wIf t46 (
opP (zga 36 (nth l_2 0)) fun t48=>
opW (zca t48 H65) fun t49 H69=>
opW (lenSl t49 H69) fun t50 H71=>
opP ((zla P .leq 3 true).f t50 (.int .i64 64)) fun t51=>
opP (zfa t46 t51 (.bool false)) fun t52=>
K t52 H71) (
opP (zfa t46 undef (.bool false)) fun t52_1=>
K t52_1 H65)))
theorem zsj{t0:Value}{H:Heap}{K:VH}(h:zuh t0 H K):wCall P zNb [t0] H K:=zda rfl (Eq.mpr (by kernel_rfl) h)
def zHm(t0 t1:Value)(H:Heap)(K:VH):Prop:=
wCall P zBe [t0] H fun t6 H1=>
wCall P zBe [t1] H1 fun t8 H3=>
opP ((zla P .eql 9 false).f t6 t8) fun t9=>
K t9 H3
theorem zFn{t0 t1:Value}{H:Heap}{K:VH}(h:zHm t0 t1 H K):wCall P zxg [t0,t1] H K:=zda rfl (Eq.mpr (by kernel_rfl) h)
noncomputable abbrev zzi:Code:=zLb P zzd 0
def zAi(l:List Value)(H:Heap)(N:LN)(Qx:LX)(Qr:LN):Prop:=
opP ((zla P .lss 3 false).f (nth l 4) (nth l 3)) fun t10=>
wIf t10 (
opP (zIe 3 (nth l 2) (nth l 4)) fun t11=>
opW (zka 3 t11 H) fun t12 H3=>
zIc (zc P 109) H3 fun t5 H5=>
opW (zma 3 t5 t12 H5) fun u H7=>
opP (zga 2 t5) fun t13=>
opW (zca t13 H7) fun t14 H10=>
wIf t14 (
opP (zga 1 t5) fun t16=>
opW (zca t16 H10) fun t17 H13=>
opP ((zla P .add 9 false).f (nth l 1) t17) fun t18=>
opP ((zla P .add 3 true).f (nth l 4) (.int .i64 1)) fun t27=>
N [(nth l 0),t18,(nth l 2),(nth l 3),t27] H13) (
opP (zga 0 t5) fun t20=>
opW (zca t20 H10) fun t21 H18=>
opW (zmb .i32 t21 H18) fun t22 H20=>
wCall P zgf [t22] H20 fun t23 H22=>
opW (zmb .i64 t23 H22) fun t24 H24=>
wCall P zLh [t24] H24 fun t25 H26=>
opP ((zla P .add 9 false).f (nth l 1) t25) fun t26=>
opP ((zla P .add 3 true).f (nth l 4) (.int .i64 1)) fun t27_1=>
N [(nth l 0),t26,(nth l 2),(nth l 3),t27_1] H26)) (
Qx 0 [(nth l 0),(nth l 1)] H)
theorem ztj:LpI P 29 zzi 12 zAi:=.mk (by kernel_rfl) fun l H N Qx Qr=>by kernel_rfl
def zIm(t0:Value)(H:Heap)(K:VH):Prop:=
wCall P zWc [t0] H fun t7 H1=>
opW (lenSl t7 H1) fun t8 H3=>
zQb P true 29 zzi 12 [(.string ⟨#[]⟩),(.string ⟨#[]⟩),t7,t8,(.int .i64 0)] H3 (fun id l H5=>
cond (Nat.beq id 0) (
K (nth l 1) H5) (
False)) (fun l H5=>
K (nth l 0) H5)
theorem zGn{t0:Value}{H:Heap}{K:VH}(h:zIm t0 H K):wCall P zzd [t0] H K:=zda rfl (Eq.mpr (by kernel_rfl) h)
def zJm(H:Heap)(K:VH):Prop:=
wCall P zLe [] H fun t1 H1=>
opP ((zWa P 116).f [(0,t1)]) fun t2=>
zIc (zsa t2) H1 fun t3 H4=>
K t3 H4
theorem zHn{H:Heap}{K:VH}(h:zJm  H K):wCall P zAe [] H K:=zda rfl (Eq.mpr (by kernel_rfl) h)
noncomputable abbrev zZc:Code:=zLb P zua 0
def zad(l:List Value)(H:Heap)(N:LN)(Qx:LX)(Qr:LN):Prop:=
opP (zqa (nth l 0)) fun t24=>
opP (zga 8 t24) fun t25=>
opW (zca t25 H) fun t26 H3=>
opW (lenSl t26 H3) fun t27 H5=>
opP ((zla P .geq 3 true).f t27 (.int .i64 64)) fun t28=>
wIf t28 (
opP (zqa (nth l 0)) fun t31=>
opP (zga 0 t31) fun t32=>
opW (zka 8 t32 H5) fun t33 H10=>
opP (zqa (nth l 0)) fun t35=>
opP (zga 8 t35) fun t36=>
opW (zca t36 H10) fun t37 H14=>
opP (zJa 1 t37 none (some (.int .i64 64)) none) fun t38=>
wCall P zob [t33,t38] H14 fun t39 H17=>
opP (zqa (nth l 0)) fun t40=>
opP (zga 0 t40) fun t41=>
opW (zma 8 t41 t39 H17) fun u H21=>
opP (zqa (nth l 0)) fun t44=>
opP (zga 8 t44) fun t45=>
opW (zca t45 H21) fun t46 H25=>
opP (zJa 1 t46 (some (.int .i64 64)) none none) fun t47=>
opP (zqa (nth l 0)) fun t48=>
opP (zga 8 t48) fun t49=>
opW (zma 1 t49 t47 H25) fun u_1 H30=>
N [(nth l 0)] H30) (
Qx 0 [] H5)
theorem zoe:LpI P 50 zZc 0 zad:=.mk (by kernel_rfl) fun l H N Qx Qr=>by kernel_rfl
def zke(t0 t1:Value)(H:Heap)(K:VH):Prop:=
opP (zqa t0) fun t5=>
opP (zga 9 t5) fun t6=>
opW (zca t6 H) fun t7 H3=>
opW (lenSl t1 H3) fun t9 H5=>
opW (zmb .u64 t9 H5) fun t10 H7=>
opP ((zla P .add 24 false).f t7 t10) fun t11=>
opP (zqa t0) fun t12=>
opP (zga 9 t12) fun t13=>
opW (zma 1 t13 t11 H7) fun u H12=>
opP (zqa t0) fun t16=>
opP (zga 8 t16) fun t17=>
opW (zca t17 H12) fun t18 H16=>
opW (zoa 1 1 t18 t1 H16) fun t20 H18=>
opP (zqa t0) fun t21=>
opP (zga 8 t21) fun t22=>
opW (zma 1 t22 t20 H18) fun u_1 H22=>
zQb P true 50 zZc 0 [t0] H22 (fun id l H24=>
cond (Nat.beq id 0) (
K (.tuple [].toArray) H24) (
False)) (fun l H24=>
K (.tuple [].toArray) H24)
theorem zhg{t0 t1:Value}{H:Heap}{K:VH}(h:zke t0 t1 H K):wCall P zua [t0,t1] H K:=zda rfl (Eq.mpr (by kernel_rfl) h)
noncomputable abbrev zBi:Code:=zLb P zAd 0
def zCi(l:List Value)(H:Heap)(N:LN)(Qx:LX)(Qr:LN):Prop:=
opP ((zla P .lss 3 true).f (nth l 3) (.int .i64 64)) fun t19=>
wIf t19 (
opP (zTa 64 1 (nth l 2) (nth l 3)) fun t22=>
opW (zca t22 H) fun t23 H3=>
opP ((zla P .xor 5 false).f t23 (nth l 0)) fun t25=>
opP (zTa 64 1 (nth l 2) (nth l 3)) fun t26=>
opW (zma 1 t26 t25 H3) fun u H7=>
opP ((zla P .add 3 true).f (nth l 3) (.int .i64 1)) fun t27=>
N [(nth l 0),(nth l 1),(nth l 2),t27] H7) (
Qx 0 [(nth l 1),(nth l 2)] H)
theorem zuj:LpI P 29 zBi 80 zCi:=.mk (by kernel_rfl) fun l H N Qx Qr=>by kernel_rfl
def zKm(t0 t1:Value)(H:Heap)(K:VH):Prop:=
zzc (fun J=>
opW (lenSl t0 H) fun t9 H2=>
opP ((zla P .gtr 3 true).f t9 (.int .i64 64)) fun t10=>
wIf t10 (
opW ((zea P 74 1).f [(0,t0)] H2) fun t12 H5=>
wCall P zHc [t12] H5 fun t13 H7=>
zIc (zc P 26) H7 fun t5 H9=>
opW (zma 32 t5 t13 H9) fun u H11=>
opP (zcb 32 1 t5 none none none H11) fun t14=>
J [t14,t1,(.slice none 0 0)] H11) (
J [t0,t1,(.slice none 0 0)] H2)) (fun l H14=>
zIc (zc P 118) H14 fun t6 H16=>
opP (zcb 64 1 t6 none none none H16) fun t15=>
opW (zSf 1 t15 (nth l 0) H16) fun t17 H19=>
zQb P true 29 zBi 80 [(nth l 1),(nth l 2),t6,(.int .i64 0)] H19 (fun id l_1 H21=>
cond (Nat.beq id 0) (
opP (zcb 64 1 (nth l_1 1) none none none H21) fun t28=>
K t28 H21) (
False)) (fun l_1 H21=>
K (nth l_1 0) H21))
theorem zIn{t0 t1:Value}{H:Heap}{K:VH}(h:zKm t0 t1 H K):wCall P zAd [t0,t1] H K:=zda rfl (Eq.mpr (by kernel_rfl) h)
noncomputable abbrev zjc:Code:=zLb P zHa 0
noncomputable abbrev zkc:Code:=zLb P zHa 1
noncomputable abbrev zlc:Code:=zLb P zHa 2
noncomputable abbrev zmc:Code:=zLb P zHa 3
def zRd(l:List Value)(H:Heap)(N:LN)(Qx:LX)(Qr:LN):Prop:=
opP (zqa (nth l 1)) fun t21=>
opP (zga 8 t21) fun t22=>
opW (zca t22 H) fun t23 H3=>
opW (lenSl t23 H3) fun t24 H5=>
opP ((zla P .neq 3 true).f t24 (.int .i64 56)) fun t25=>
wIf t25 (
opW ((zea P 22 1).f [(0,(.int .u8 0))] H5) fun t27 H8=>
wCall P zua [(nth l 1),t27] H8 fun t28 H10=>
N [(nth l 0),(nth l 1),(nth l 2)] H10) (
Qx 0 [(nth l 0),(nth l 1),(nth l 2)] H5)
theorem znf:LpI P 67 zjc 28 zRd:=.mk (by kernel_rfl) fun l H N Qx Qr=>by kernel_rfl
def zSd(l:List Value)(H:Heap)(N:LN)(Qx:LX)(Qr:LN):Prop:=
opP ((zla P .lss 3 true).f (nth l 3) (.int .i64 8)) fun t30=>
wIf t30 (
opP ((zla P .mul 3 true).f (.int .i64 8) (nth l 3)) fun t35=>
opP ((zla P .sub 3 true).f (.int .i64 56) t35) fun t36=>
opP ((zla P .shr 24 false).f (nth l 2) t36) fun t37=>
opW (zmb .u8 t37 H) fun t38 H5=>
opW ((zea P 22 1).f [(0,t38)] H5) fun t39 H7=>
wCall P zua [(nth l 1),t39] H7 fun t40 H9=>
opP ((zla P .add 3 true).f (nth l 3) (.int .i64 1)) fun t41=>
N [(nth l 0),(nth l 1),(nth l 2),t41] H9) (
Qx 2 [(nth l 0),(nth l 1)] H)
theorem zof:LpI P 67 zkc 12 zSd:=.mk (by kernel_rfl) fun l H N Qx Qr=>by kernel_rfl
def zTd(l:List Value)(H:Heap)(N:LN)(Qx:LX)(Qr:LN):Prop:=
opP ((zla P .lss 3 true).f (nth l 3) (.int .i64 8)) fun t47=>
wIf t47 (
opP (zTf 8 1 (zYh P 111).f (nth l 2) (nth l 3)) fun t49=>
zQb P true 67 zmc 105553116266564 [(nth l 0),(nth l 1),(nth l 3),t49,(nth l 2),(nth l 3),(.int .i64 0)] H (fun id l_1 H3=>
cond (Nat.beq id 6) (
opP ((zla P .add 3 true).f (nth l_1 3) (.int .i64 1)) fun t65=>
N [(nth l_1 0),(nth l_1 1),(nth l_1 2),t65] H3) (
cond (Nat.beq id 5) (
opP ((zla P .add 3 true).f (nth l_1 3) (.int .i64 1)) fun t65_1=>
N [(nth l_1 0),(nth l_1 1),(nth l_1 2),t65_1] H3) (
Qx id [(nth l_1 0),(nth l_1 1)] H3))) (fun l_1 H3=>
Qr [(nth l_1 0),(nth l_1 1)] H3)) (
Qx 4 [(nth l 0),(nth l 1)] H)
theorem zpf:LpI P 67 zlc 68 zTd:=.mk (by kernel_rfl) fun l H N Qx Qr=>by kernel_rfl
def zUd(l:List Value)(H:Heap)(N:LN)(Qx:LX)(Qr:LN):Prop:=
opP ((zla P .lss 3 true).f (nth l 6) (.int .i64 4)) fun t51=>
wIf t51 (
opP ((zla P .mul 3 true).f (.int .i64 4) (nth l 2)) fun t54=>
opP ((zla P .add 3 false).f t54 (nth l 6)) fun t56=>
opP ((zla P .mul 3 true).f (.int .i64 8) (nth l 6)) fun t59=>
opP ((zla P .sub 3 true).f (.int .i64 24) t59) fun t60=>
opP ((zla P .shr 111 false).f (nth l 3) t60) fun t61=>
opW (zmb .u8 t61 H) fun t62 H7=>
opP (zTa 32 1 (nth l 1) t56) fun t63=>
opW (zma 1 t63 t62 H7) fun u H10=>
opP ((zla P .add 3 true).f (nth l 6) (.int .i64 1)) fun t64=>
N [(nth l 0),(nth l 1),(nth l 2),(nth l 3),(nth l 4),(nth l 5),t64] H10) (
Qx 6 [(nth l 0),(nth l 1),(nth l 4),(nth l 5)] H)
theorem zqf:LpI P 67 zmc 105553116266564 zUd:=.mk (by kernel_rfl) fun l H N Qx Qr=>by kernel_rfl
def zrf(t0:Value)(H:Heap)(K:VH):Prop:=
zIc (zc P 26) H fun t2 H1=>
wCall P zic [t0] H1 fun t11 H3=>
opP (zqa t11) fun t13=>
opP (zga 9 t13) fun t14=>
opW (zca t14 H3) fun t15 H7=>
opP ((zla P .mul 24 true).f t15 (.int .u64 8)) fun t16=>
opW ((zea P 22 1).f [(0,(.int .u8 128))] H7) fun t18 H10=>
wCall P zua [t11,t18] H10 fun t19 H12=>
zQb P true 67 zjc 28 [t2,t11,t16] H12 (fun id l H14=>
cond (Nat.beq id 0) (
zQb P true 67 zkc 12 [(nth l 0),(nth l 1),(nth l 2),(.int .i64 0)] H14 (fun id l_1 H16=>
cond (Nat.beq id 2) (
zIc (zc P 26) H16 fun t6 H18=>
opP (zqa (nth l_1 1)) fun t43=>
opP (zga 0 t43) fun t44=>
opW (zka 8 t44 H18) fun t45 H22=>
zQb P true 67 zlc 68 [(nth l_1 0),t6,t45,(.int .i64 0)] H22 (fun id l_2 H24=>
cond (Nat.beq id 4) (
opW (zka 32 (nth l_2 1) H24) fun t66 H26=>
opW (zma 32 (nth l_2 0) t66 H26) fun u H28=>
opW (zka 32 (nth l_2 0) H28) fun r _=>
K r H28) (
False)) (fun l_2 H24=>
opW (zka 32 (nth l_2 0) H24) fun r_1 _=>
K r_1 H24)) (
False)) (fun l_1 H16=>
opW (zka 32 (nth l_1 0) H16) fun r_2 _=>
K r_2 H16)) (
False)) (fun l H14=>
opW (zka 32 (nth l 0) H14) fun r_3 _=>
K r_3 H14)
theorem zhh{t0:Value}{H:Heap}{K:VH}(h:zrf t0 H K):wCall P zHa [t0] H K:=zda rfl (Eq.mpr (by kernel_rfl) h)
noncomputable abbrev zDi:Code:=zLb P zHc 0
def zMf(l:List Value)(H:Heap)(N:LN)(Qx:LX)(Qr:LN):Prop:=
opP ((zla P .lss 3 false).f (nth l 4) (nth l 3)) fun t10=>
wIf t10 (
opP (zIe 1 (nth l 2) (nth l 4)) fun t11=>
opW (zca t11 H) fun t12 H3=>
wCall P zua [(nth l 1),t12] H3 fun t15 H5=>
opP ((zla P .add 3 true).f (nth l 4) (.int .i64 1)) fun t16=>
N [(nth l 0),(nth l 1),(nth l 2),(nth l 3),t16] H5) (
Qx 0 [(nth l 0),(nth l 1)] H)
theorem zsf:LpI P 19 zDi 12 zMf:=.mk (by kernel_rfl) fun l H N Qx Qr=>by kernel_rfl
def zvj(t0:Value)(H:Heap)(K:VH):Prop:=
zIc (zc P 26) H fun t2 H1=>
wCall P zAe [] H1 fun t6 H3=>
opW (lenSl t0 H3) fun t8 H5=>
zQb P true 19 zDi 12 [t2,t6,t0,t8,(.int .i64 0)] H5 (fun id l H7=>
cond (Nat.beq id 0) (
wCall P zHa [(nth l 1)] H7 fun t18 H9=>
opW (zma 32 (nth l 0) t18 H9) fun u H11=>
opW (zka 32 (nth l 0) H11) fun r _=>
K r H11) (
False)) (fun l H7=>
opW (zka 32 (nth l 0) H7) fun r_1 _=>
K r_1 H7)
theorem zEi{t0:Value}{H:Heap}{K:VH}(h:zvj t0 H K):wCall P zHc [t0] H K:=zda rfl (Eq.mpr (by kernel_rfl) h)
def zZf(t0 t1:Value)(H:Heap)(K:VH):Prop:=
wCall P zGa [t0,(.int .i64 2)] H fun t7 H1=>
opW (zmb .i64 t7 H1) fun t8 H3=>
zzc (fun J=>
opP (zqa t0) fun t10=>
opP (zga 1 t10) fun t11=>
opW (zca t11 H3) fun t12 H8=>
opP ((zla P .eql 30 true).f t12 (.int .i64 0)) fun t13=>
wIf t13 (
opP ((zla P .gtr 3 false).f t8 t1) fun t17=>
opP (zfa t13 t17 (.bool false)) fun t18=>
J [t0,t8,t18] H8) (
opP (zfa t13 undef (.bool false)) fun t18_1=>
J [t0,t8,t18_1] H8)) (fun l H14=>
wIf (nth l 2) (
wCall P zTb [(nth l 0),(.int .i64 52)] H14 fun t20 H16=>
wCall P zdb [(nth l 0),(nth l 1)] H16 fun t23 H18=>
opW (zVa t23 H18) fun t24 H20=>
K t24 H20) (
wCall P zdb [(nth l 0),(nth l 1)] H14 fun t23_1 H22=>
opW (zVa t23_1 H22) fun t24_1 H24=>
K t24_1 H24))
theorem zNh{t0 t1:Value}{H:Heap}{K:VH}(h:zZf t0 t1 H K):wCall P zUc [t0,t1] H K:=zda rfl (Eq.mpr (by kernel_rfl) h)
def zFi(t0:Value)(H:Heap)(K:VH):Prop:=
zIc (zc P 26) H fun t2 H1=>
zIc (zc P 26) H1 fun t3 H3=>
opP (zcb 32 1 t3 none none none H3) fun t4=>
wCall P zod [t0,(.int .i64 32)] H3 fun t6 H6=>
zPb (zEb H3 H6) (zza [t3])∧(opW (zSf 1 t4 t6 H6) fun t7 H8=>
opW (zka 32 t3 H8) fun t8 H10=>
opW (zma 32 t2 t8 H10) fun u H12=>
opW (zka 32 t2 H12) fun r _=>
K r H12)
theorem zck{t0:Value}{H:Heap}{K:VH}(h:zFi t0 H K):wCall P zVc [t0] H K:=zda rfl (Eq.mpr (by kernel_rfl) h)
def zvh(t0 t1:Value)(H:Heap)(K:VH):Prop:=
zzc (fun J=>
opP ((zla P .lss 3 true).f t0 (.int .i64 1)) fun t6=>
wIf t6 (
opP (zfa t6 (.bool true) undef) fun t10=>
wIf t10 (
K (.int .i64 0) H) (
J [t0,t1] H)) (
opP ((zla P .lss 3 true).f t1 (.int .i64 1)) fun t9=>
opP (zfa t6 (.bool true) t9) fun t10_1=>
wIf t10_1 (
K (.int .i64 0) H) (
J [t0,t1] H))) (fun l H6=>
opP ((zla P .sub 3 true).f (nth l 0) (.int .i64 1)) fun t12=>
opP ((zla P .quo 3 false).f t12 (nth l 1)) fun t14=>
opP ((zla P .add 3 true).f t14 (.int .i64 1)) fun t15=>
K t15 H6)
theorem zwj{t0 t1:Value}{H:Heap}{K:VH}(h:zvh t0 t1 H K):wCall P zvc [t0,t1] H K:=zda rfl (Eq.mpr (by kernel_rfl) h)
def zFg(t0:Value)(H:Heap)(K:VH):Prop:=
opP (zqa t0) fun t4=>
opP (zga 1 t4) fun t5=>
opW (zca t5 H) fun t6 H3=>
opP ((zla P .eql 30 true).f t6 (.int .i64 0)) fun t7=>
wIf t7 (
opP (zqa t0) fun t10=>
opP (zga 0 t10) fun t11=>
opW (zca t11 H3) fun t12 H8=>
opW (lenSl t12 H8) fun t13 H10=>
opP ((zla P .gtr 3 true).f t13 (.int .i64 0)) fun t14=>
opP (zfa t7 t14 (.bool false)) fun t15=>
wIf t15 (
K (.int .i64 52) H10) (
opP (zqa t0) fun t17=>
opP (zga 1 t17) fun t18=>
opW (zca t18 H10) fun t19 H16=>
K t19 H16)) (
opP (zfa t7 undef (.bool false)) fun t15_1=>
wIf t15_1 (
K (.int .i64 52) H3) (
opP (zqa t0) fun t17_1=>
opP (zga 1 t17_1) fun t18_1=>
opW (zca t18_1 H3) fun t19_1 H21=>
K t19_1 H21))
theorem zGi{t0:Value}{H:Heap}{K:VH}(h:zFg t0 H K):wCall P znd [t0] H K:=zda rfl (Eq.mpr (by kernel_rfl) h)
def bytes_Equal(t0 t1:Value)(H:Heap)(K:VH):Prop:=
opW (zVa t0 H) fun t6 H1=>
opW (zVa t1 H1) fun t8 H3=>
opP ((zla P .eql 9 false).f t6 t8) fun t9=>
K t9 H3
theorem zcm{t0 t1:Value}{H:Heap}{K:VH}(h:bytes_Equal t0 t1 H K):wCall P zHf [t0,t1] H K:=zda rfl (Eq.mpr (by kernel_rfl) h)
def zqc(t0:Value)(H:Heap)(K:VH):Prop:=
zIc (zsa t0) H fun t1 H1=>
K (.func (.func zBa) [].toArray [t1].toArray) H1
theorem zde{t0:Value}{H:Heap}{K:VH}(h:zqc t0 H K):wCall P zYb [t0] H K:=zda rfl (Eq.mpr (by kernel_rfl) h)
def zag(t0 t1:Value)(H:Heap)(K:VH):Prop:=
opW (zJd H (zRx [t1,(.int .i64 0)])) fun t7 H1=>
zzc (fun J=>
opP (zqa t0) fun t9=>
opP (zga 1 t9) fun t10=>
opW (zca t10 H1) fun t11 H6=>
opP ((zla P .neq 30 true).f t11 (.int .i64 0)) fun t12=>
wIf t12 (
opP (zfa t12 (.bool true) undef) fun t21=>
J [t0,t7,t21] H6) (
opP (zqa t0) fun t16=>
opP (zga 0 t16) fun t17=>
opW (zca t17 H6) fun t18 H12=>
opW (lenSl t18 H12) fun t19 H14=>
opP ((zla P .gtr 3 false).f t7 t19) fun t20=>
opP (zfa t12 (.bool true) t20) fun t21_1=>
J [t0,t7,t21_1] H14)) (fun l H18=>
wIf (nth l 2) (
wCall P zTb [(nth l 0),(.int .i64 51)] H18 fun t23 H20=>
K (.slice none 0 0) H20) (
opP (zqa (nth l 0)) fun t25=>
opP (zga 0 t25) fun t26=>
opW (zca t26 H18) fun t27 H24=>
opP (zJa 1 t27 none (some (nth l 1)) none) fun t29=>
opP (zqa (nth l 0)) fun t32=>
opP (zga 0 t32) fun t33=>
opW (zca t33 H24) fun t34 H29=>
opP (zJa 1 t34 (some (nth l 1)) none none) fun t36=>
opP (zqa (nth l 0)) fun t37=>
opP (zga 0 t37) fun t38=>
opW (zma 1 t38 t36 H29) fun u H34=>
K t29 H34))
theorem zOh{t0 t1:Value}{H:Heap}{K:VH}(h:zag t0 t1 H K):wCall P zdb [t0,t1] H K:=zda rfl (Eq.mpr (by kernel_rfl) h)
def zql(t0:Value)(H:Heap)(K:VH):Prop:=
opW (zJd H (zQx [t0,(.int .i64 8)])) fun t4 H1=>
opW (zJd H1 (zRx [(.int .i64 0),t4])) fun t5 H3=>
K t5 H3
theorem zdm{t0:Value}{H:Heap}{K:VH}(h:zql t0 H K):wCall P zce [t0] H K:=zda rfl (Eq.mpr (by kernel_rfl) h)
noncomputable abbrev zTj:Code:=zLb P zIf 0
def zUj(l:List Value)(H:Heap)(N:LN)(Qx:LX)(Qr:LN):Prop:=
opP ((zla P .lss 3 false).f (nth l 4) (nth l 3)) fun t13=>
wIf t13 (
opP (zIe 1 (nth l 2) (nth l 4)) fun t14=>
opW (zca t14 H) fun t15 H3=>
opW (zOj t15 H3) fun t18 H5=>
opW (zmb .u8 t18 H5) fun t19 H7=>
opW (zOj t15 H7) fun t21 H9=>
opP ((zla P .shr 3 true).f t21 (.int .u64 8)) fun t22=>
opW (zmb .u8 t22 H9) fun t23 H12=>
opW ((zea P 22 2).f [(0,t19),(1,t23)] H12) fun t24 H14=>
opW (zoa 1 1 (nth l 1) t24 H14) fun t25 H16=>
opW (zoa 1 1 t25 t15 H16) fun t27 H18=>
opP ((zla P .add 3 true).f (nth l 4) (.int .i64 1)) fun t28=>
N [(nth l 0),t27,(nth l 2),(nth l 3),t28] H18) (
Qx 0 [(nth l 0),(nth l 1)] H)
theorem zdk:LpI P 30 zTj 48 zUj:=.mk (by kernel_rfl) fun l H N Qx Qr=>by kernel_rfl
def zUo(t0 t1:Value)(H:Heap)(K:VH):Prop:=
wCall P zOa [t0] H fun t9 H1=>
opW (lenSl t1 H1) fun t11 H3=>
zQb P true 30 zTj 48 [(.slice none 0 0),t9,t1,t11,(.int .i64 0)] H3 (fun id l H5=>
cond (Nat.beq id 0) (
K (nth l 1) H5) (
False)) (fun l H5=>
K (nth l 0) H5)
theorem zVo{t0 t1:Value}{H:Heap}{K:VH}(h:zUo t0 t1 H K):wCall P zIf [t0,t1] H K:=zda rfl (Eq.mpr (by kernel_rfl) h)
noncomputable abbrev zec:Code:=zLb P zDa 0
noncomputable abbrev zfc:Code:=zLb P zDa 1
def zgc(l:List Value)(H:Heap)(N:LN)(Qx:LX)(Qr:LN):Prop:=
opP ((zla P .lss 3 false).f (nth l 5) (nth l 4)) fun t12=>
wIf t12 (
opP (zIe 1 (nth l 3) (nth l 5)) fun t13=>
opW (zca t13 H) fun t14 H3=>
opW (lenSl t14 H3) fun t17 H5=>
opP ((zla P .add 3 false).f (nth l 2) t17) fun t18=>
opP ((zla P .lss 3 true).f t18 (.int .i64 0)) fun t20=>
wIf t20 (
False) (
opP ((zla P .add 3 true).f (nth l 5) (.int .i64 1)) fun t22=>
N [(nth l 0),(nth l 1),t18,(nth l 3),(nth l 4),t22] H5)) (
Qx 0 [(nth l 0),(nth l 1),(nth l 2)] H)
theorem zCd:LpI P 36 zec 13 zgc:=.mk (by kernel_rfl) fun l H N Qx Qr=>by kernel_rfl
def zhc(l:List Value)(H:Heap)(N:LN)(Qx:LX)(Qr:LN):Prop:=
opP ((zla P .lss 3 false).f (nth l 4) (nth l 3)) fun t28=>
wIf t28 (
opP (zIe 1 (nth l 2) (nth l 4)) fun t29=>
opW (zca t29 H) fun t30 H3=>
opW (zoa 1 1 (nth l 1) t30 H3) fun t33 H5=>
opP ((zla P .add 3 true).f (nth l 4) (.int .i64 1)) fun t34=>
N [(nth l 0),t33,(nth l 2),(nth l 3),t34] H5) (
Qx 2 [(nth l 0),(nth l 1)] H)
theorem zDd:LpI P 36 zfc 68 zhc:=.mk (by kernel_rfl) fun l H N Qx Qr=>by kernel_rfl
def zYc(t0:Value)(H:Heap)(K:VH):Prop:=
opW (lenSl t0 H) fun t10 H1=>
zQb P true 36 zec 13 [t0,(.slice none 0 0),(.int .i64 0),t0,t10,(.int .i64 0)] H1 (fun id l H3=>
cond (Nat.beq id 0) (
wCall P zIb [(.slice none 0 0),(nth l 2)] H3 fun t24 H5=>
opW (lenSl (nth l 0) H5) fun t26 H7=>
zQb P true 36 zfc 68 [(nth l 1),t24,(nth l 0),t26,(.int .i64 0)] H7 (fun id l_1 H9=>
cond (Nat.beq id 2) (
K (nth l_1 1) H9) (
False)) (fun l_1 H9=>
K (nth l_1 0) H9)) (
False)) (fun l H3=>
K (nth l 1) H3)
theorem zpe{t0:Value}{H:Heap}{K:VH}(h:zYc t0 H K):wCall P zDa [t0] H K:=zda rfl (Eq.mpr (by kernel_rfl) h)
def zbd(t0:Value)(H:Heap)(K:VH):Prop:=
opP ((zla P .eql 22 true).f t0 (.slice none 0 0)) fun t4=>
wIf t4 (
K (.slice none 0 0) H) (
opW ((zea P 22 0).f [] H) fun t5 H2=>
opW (zoa 1 1 t5 t0 H2) fun t7 H4=>
K t7 H4)
theorem zNe{t0:Value}{H:Heap}{K:VH}(h:zbd t0 H K):wCall P zOa [t0] H K:=zda rfl (Eq.mpr (by kernel_rfl) h)
noncomputable abbrev zNf:Code:=zLb P zBd 0
def zHi(l:List Value)(H:Heap)(N:LN)(Qx:LX)(Qr:LN):Prop:=
opP ((zla P .lss 3 false).f (nth l 3) (nth l 2)) fun t21=>
wIf t21 (
opP (zIe 3 (nth l 1) (nth l 3)) fun t23=>
opW (zka 3 t23 H) fun t24 H3=>
zIc (zc P 109) H3 fun t5 H5=>
opW (zma 3 t5 t24 H5) fun u H7=>
opP (zga 0 t5) fun t25=>
opW (zca t25 H7) fun t26 H10=>
opW (zmb .i32 t26 H10) fun t27 H12=>
zzc (fun J=>
opP (zga 2 t5) fun t28=>
opW (zca t28 H12) fun t29 H16=>
opP (unA .not t29) fun t30=>
wIf t30 (
wCall P zCe [t27] H16 fun t33 H19=>
opP (zfa t30 t33 (.bool false)) fun t34=>
J [(nth l 0),(nth l 3),t5,t27,t34,(nth l 1),(nth l 2),(nth l 3)] H19) (
opP (zfa t30 undef (.bool false)) fun t34_1=>
J [(nth l 0),(nth l 3),t5,t27,t34_1,(nth l 1),(nth l 2),(nth l 3)] H16)) (fun l_1 H23=>
zzc (fun J_1=>
opP ((zla P .gtr 3 true).f (nth l_1 1) (.int .i64 0)) fun t36=>
wIf t36 (
opP (zga 2 (nth l_1 2)) fun t38=>
opW (zca t38 H23) fun t39 H28=>
opP (unA .not t39) fun t40=>
opP (zfa t36 t40 (.bool false)) fun t41=>
wIf t41 (
wCall P zhf [(nth l_1 3)] H28 fun t44 H32=>
wIf t44 (
opP (zfa t44 (.bool true) undef) fun t49=>
opP (zfa t49 (.bool true) undef) fun t54=>
opP (zfa t54 (.bool true) undef) fun t59=>
opP (zfa t41 t59 (.bool false)) fun t60=>
wIf t60 (
J_1 [(nth l_1 0),(.bool true),(nth l_1 5),(nth l_1 6),(nth l_1 7)] H32) (
J_1 [(nth l_1 0),(nth l_1 4),(nth l_1 5),(nth l_1 6),(nth l_1 7)] H32)) (
opP (zga 1 (nth l_1 2)) fun t46=>
opW (zca t46 H32) fun t47 H39=>
opP ((zla P .eql 9 true).f t47 (.string ⟨#[45]⟩)) fun t48=>
opP (zfa t44 (.bool true) t48) fun t49_1=>
wIf t49_1 (
opP (zfa t49_1 (.bool true) undef) fun t54_1=>
opP (zfa t54_1 (.bool true) undef) fun t59_1=>
opP (zfa t41 t59_1 (.bool false)) fun t60_1=>
wIf t60_1 (
J_1 [(nth l_1 0),(.bool true),(nth l_1 5),(nth l_1 6),(nth l_1 7)] H39) (
J_1 [(nth l_1 0),(nth l_1 4),(nth l_1 5),(nth l_1 6),(nth l_1 7)] H39)) (
opP (zga 1 (nth l_1 2)) fun t51=>
opW (zca t51 H39) fun t52 H47=>
opP ((zla P .eql 9 true).f t52 (.string ⟨#[95]⟩)) fun t53=>
opP (zfa t49_1 (.bool true) t53) fun t54_2=>
wIf t54_2 (
opP (zfa t54_2 (.bool true) undef) fun t59_2=>
opP (zfa t41 t59_2 (.bool false)) fun t60_2=>
wIf t60_2 (
J_1 [(nth l_1 0),(.bool true),(nth l_1 5),(nth l_1 6),(nth l_1 7)] H47) (
J_1 [(nth l_1 0),(nth l_1 4),(nth l_1 5),(nth l_1 6),(nth l_1 7)] H47)) (
opP (zga 1 (nth l_1 2)) fun t56=>
opW (zca t56 H47) fun t57 H54=>
opP ((zla P .eql 9 true).f t57 (.string ⟨#[46]⟩)) fun t58=>
opP (zfa t54_2 (.bool true) t58) fun t59_3=>
opP (zfa t41 t59_3 (.bool false)) fun t60_3=>
wIf t60_3 (
J_1 [(nth l_1 0),(.bool true),(nth l_1 5),(nth l_1 6),(nth l_1 7)] H54) (
J_1 [(nth l_1 0),(nth l_1 4),(nth l_1 5),(nth l_1 6),(nth l_1 7)] H54))))) (
opP (zfa t41 undef (.bool false)) fun t60_4=>
wIf t60_4 (
J_1 [(nth l_1 0),(.bool true),(nth l_1 5),(nth l_1 6),(nth l_1 7)] H28) (
J_1 [(nth l_1 0),(nth l_1 4),(nth l_1 5),(nth l_1 6),(nth l_1 7)] H28))) (
opP (zfa t36 undef (.bool false)) fun t41_1=>
opP (zfa t41_1 undef (.bool false)) fun t60_5=>
wIf t60_5 (
J_1 [(nth l_1 0),(.bool true),(nth l_1 5),(nth l_1 6),(nth l_1 7)] H23) (
J_1 [(nth l_1 0),(nth l_1 4),(nth l_1 5),(nth l_1 6),(nth l_1 7)] H23))) (fun l_2 H62=>
opP (unA .not (nth l_2 1)) fun t62=>
wIf t62 (
Qr [(.int .i64 41)] H62) (
opP ((zla P .add 3 true).f (nth l_2 4) (.int .i64 1)) fun t63=>
N [(nth l_2 0),(nth l_2 2),(nth l_2 3),t63] H62)))) (
Qx 0 [(nth l 0)] H)
theorem zxj:LpI P 64 zNf 4 zHi:=.mk (by kernel_rfl) fun l H N Qx Qr=>by kernel_rfl
def zLm(t0:Value)(H:Heap)(K:VH):Prop:=
wCall P zWc [t0] H fun t9 H1=>
zzc (fun J=>
opW (lenSl t9 H1) fun t11 H4=>
opP ((zla P .eql 3 true).f t11 (.int .i64 0)) fun t12=>
wIf t12 (
opP (zfa t12 (.bool true) undef) fun t17=>
wIf t17 (
K (.int .i64 41) H4) (
J [(.int .i64 0),t9] H4)) (
opW (lenSl t9 H4) fun t15 H8=>
opP ((zla P .gtr 3 true).f t15 (.int .i64 24)) fun t16=>
opP (zfa t12 (.bool true) t16) fun t17_1=>
wIf t17_1 (
K (.int .i64 41) H8) (
J [(.int .i64 0),t9] H8))) (fun l H12=>
opW (lenSl (nth l 1) H12) fun t19 H14=>
zQb P true 64 zNf 4 [(nth l 0),(nth l 1),t19,(.int .i64 0)] H14 (fun id l_1 H16=>
cond (Nat.beq id 0) (
K (.int .i64 0) H16) (
False)) (fun l_1 H16=>
K (nth l_1 0) H16))
theorem zJn{t0:Value}{H:Heap}{K:VH}(h:zLm t0 H K):wCall P zBd [t0] H K:=zda rfl (Eq.mpr (by kernel_rfl) h)
end
end J
set_option maxRecDepth 100000
namespace J
open Go Go.Ab
noncomputable section
def zrl(t0 t1:Value)(H:Heap)(K:VH):Prop:=
zzc (fun J=>
opP ((zla P .lss 3 true).f t0 (.int .i64 1)) fun t7=>
wIf t7 (
opP (zfa t7 (.bool true) undef) fun t11=>
wIf t11 (
K (.int .i64 0) H) (
J [t0,t1] H)) (
opP ((zla P .lss 3 true).f t1 (.int .i64 1)) fun t10=>
opP (zfa t7 (.bool true) t10) fun t11_1=>
wIf t11_1 (
K (.int .i64 0) H) (
J [t0,t1] H))) (fun l H6=>
opP ((zla P .quo 3 false).f (nth l 0) (nth l 1)) fun t14=>
opP ((zla P .rem 3 false).f (nth l 0) (nth l 1)) fun t17=>
opP ((zla P .gtr 3 true).f t17 (.int .i64 0)) fun t18=>
wIf t18 (
opP ((zla P .add 3 true).f t14 (.int .i64 1)) fun t20=>
K t20 H6) (
K t14 H6))
theorem zem{t0 t1:Value}{H:Heap}{K:VH}(h:zrl t0 t1 H K):wCall P zJf [t0,t1] H K:=zda rfl (Eq.mpr (by kernel_rfl) h)
noncomputable abbrev zwh:Code:=zLb P zWc 0
def zxh(l:List Value)(H:Heap)(N:LN)(Qx:LX)(Qr:LN):Prop:=
opP ((zla P .neq 9 true).f (nth l 0) (.string ⟨#[]⟩)) fun t7=>
wIf t7 (
wCall P zKf [(nth l 0)] H fun t9 H2=>
zIc (zc P 109) H2 fun t4 H4=>
opW (zma 3 t4 t9 H4) fun u H6=>
opW (zka 3 t4 H6) fun t11 H8=>
opW ((zea P 106 1).f [(0,t11)] H8) fun t12 H10=>
opW (zoa 3 32 (nth l 2) t12 H10) fun t13 H12=>
opP (zga 1 t4) fun t15=>
opW (zca t15 H12) fun t16 H15=>
opW (zOj t16 H15) fun t17 H17=>
opP (zre (nth l 0) (some t17) none none) fun t18=>
N [t18,(nth l 1),t13] H17) (
Qx 0 [(nth l 1),(nth l 2)] H)
theorem zIi:LpI P 20 zwh 12 zxh:=.mk (by kernel_rfl) fun l H N Qx Qr=>by kernel_rfl
def zsl(t0:Value)(H:Heap)(K:VH):Prop:=
opW ((zea P 106 0).f [] H) fun t5 H1=>
zQb P true 20 zwh 12 [t0,(.slice none 0 0),t5] H1 (fun id l H3=>
cond (Nat.beq id 0) (
K (nth l 1) H3) (
False)) (fun l H3=>
K (nth l 0) H3)
theorem zfm{t0:Value}{H:Heap}{K:VH}(h:zsl t0 H K):wCall P zWc [t0] H K:=zda rfl (Eq.mpr (by kernel_rfl) h)
def zWo(t0:Value)(H:Heap)(K:VH):Prop:=
opW ((zea P 22 0).f [] H) fun t4 H1=>
opP ((zla P .lss 3 true).f t0 (.int .i64 128)) fun t28=>
wIf t28 (
opW (zmb .u8 t0 H1) fun t31 H4=>
opW ((zea P 22 1).f [(0,t31)] H4) fun t32 H6=>
opW (zoa 1 1 t4 t32 H6) fun t33 H8=>
opW (zVa t33 H8) fun t68 H10=>
K t68 H10) (
opP ((zla P .lss 3 true).f t0 (.int .i64 2048)) fun t36=>
wIf t36 (
opP ((zla P .quo 3 true).f t0 (.int .i64 64)) fun t39=>
opP ((zla P .add 3 true).f (.int .i64 192) t39) fun t40=>
opW (zmb .u8 t40 H1) fun t41 H15=>
opP ((zla P .rem 3 true).f t0 (.int .i64 64)) fun t43=>
opP ((zla P .add 3 true).f (.int .i64 128) t43) fun t44=>
opW (zmb .u8 t44 H15) fun t45 H19=>
opW ((zea P 22 2).f [(0,t41),(1,t45)] H19) fun t46 H21=>
opW (zoa 1 1 t4 t46 H21) fun t47 H23=>
opW (zVa t47 H23) fun t68_1 H25=>
K t68_1 H25) (
opP ((zla P .lss 3 true).f t0 (.int .i64 65536)) fun t50=>
wIf t50 (
opP ((zla P .quo 3 true).f t0 (.int .i64 4096)) fun t53=>
opP ((zla P .add 3 true).f (.int .i64 224) t53) fun t54=>
opW (zmb .u8 t54 H1) fun t55 H30=>
opP ((zla P .quo 3 true).f t0 (.int .i64 64)) fun t57=>
opP ((zla P .rem 3 true).f t57 (.int .i64 64)) fun t58=>
opP ((zla P .add 3 true).f (.int .i64 128) t58) fun t59=>
opW (zmb .u8 t59 H30) fun t60 H35=>
opP ((zla P .rem 3 true).f t0 (.int .i64 64)) fun t62=>
opP ((zla P .add 3 true).f (.int .i64 128) t62) fun t63=>
opW (zmb .u8 t63 H35) fun t64 H39=>
opW ((zea P 22 3).f [(0,t55),(1,t60),(2,t64)] H39) fun t65 H41=>
opW (zoa 1 1 t4 t65 H41) fun t66 H43=>
opW (zVa t66 H43) fun t68_2 H45=>
K t68_2 H45) (
opP ((zla P .quo 3 true).f t0 (.int .i64 262144)) fun t7=>
opP ((zla P .add 3 true).f (.int .i64 240) t7) fun t8=>
opW (zmb .u8 t8 H1) fun t9 H49=>
opP ((zla P .quo 3 true).f t0 (.int .i64 4096)) fun t11=>
opP ((zla P .rem 3 true).f t11 (.int .i64 64)) fun t12=>
opP ((zla P .add 3 true).f (.int .i64 128) t12) fun t13=>
opW (zmb .u8 t13 H49) fun t14 H54=>
opP ((zla P .quo 3 true).f t0 (.int .i64 64)) fun t16=>
opP ((zla P .rem 3 true).f t16 (.int .i64 64)) fun t17=>
opP ((zla P .add 3 true).f (.int .i64 128) t17) fun t18=>
opW (zmb .u8 t18 H54) fun t19 H59=>
opP ((zla P .rem 3 true).f t0 (.int .i64 64)) fun t21=>
opP ((zla P .add 3 true).f (.int .i64 128) t21) fun t22=>
opW (zmb .u8 t22 H59) fun t23 H63=>
opW ((zea P 22 4).f [(0,t9),(1,t14),(2,t19),(3,t23)] H63) fun t24 H65=>
opW (zoa 1 1 t4 t24 H65) fun t25 H67=>
opW (zVa t25 H67) fun t68_3 H69=>
K t68_3 H69)))
theorem zXo{t0:Value}{H:Heap}{K:VH}(h:zWo t0 H K):wCall P zLh [t0] H K:=zda rfl (Eq.mpr (by kernel_rfl) h)
def zVj(H:Heap)(K:VH):Prop:=
zIc (zc P 113) H fun t0 H1=>
opP ((zWa P 113).f [(0,(.int .u32 1779033703)),(1,(.int .u32 3144134277)),(2,(.int .u32 1013904242)),(3,(.int .u32 2773480762)),(4,(.int .u32 1359893119)),(5,(.int .u32 2600822924)),(6,(.int .u32 528734635)),(7,(.int .u32 1541459225))]) fun t1=>
opW (zma 8 t0 t1 H1) fun u H4=>
opW (zka 8 t0 H4) fun r _=>
K r H4
theorem ztl{H:Heap}{K:VH}(h:zVj  H K):wCall P zLe [] H K:=zda rfl (Eq.mpr (by kernel_rfl) h)
noncomputable abbrev zCc:Code:=zLb P zob 0
noncomputable abbrev zDc:Code:=zLb P zob 1
def zle(l:List Value)(H:Heap)(N:LN)(Qx:LX)(Qr:LN):Prop:=
opP ((zla P .lss 3 true).f (nth l 5) (.int .i64 64)) fun t19=>
wIf t19 (
opP (zTa 8 1 (nth l 4) (.int .i64 0)) fun t21=>
opW (zca t21 H) fun t22 H3=>
opP (zTa 8 1 (nth l 4) (.int .i64 4)) fun t23=>
opW (zca t23 H3) fun t24 H6=>
opP (zTa 8 1 (nth l 4) (.int .i64 7)) fun t25=>
opW (zca t25 H6) fun t26 H9=>
opW ((zea P 160 3).f [(0,(.int .i64 6)),(1,(.int .i64 11)),(2,(.int .i64 25))] H9) fun t28 H11=>
wCall P zJb [t24,t28] H11 fun t29 H13=>
zPb (zEb H11 H13) (zza [t25])∧(opP ((zla P .add 111 false).f t26 t29) fun t30=>
opP (zTa 8 1 (nth l 4) (.int .i64 5)) fun t32=>
opW (zca t32 H13) fun t33 H17=>
zPb (zEb H11 H13) (zza [t32])∧(zsp (zza [t32]) H9.next H11.next∧(opP ((zla P .and 111 false).f t24 t33) fun t34=>
opP (unA .xor t24) fun t36=>
opP (zTa 8 1 (nth l 4) (.int .i64 6)) fun t37=>
opW (zca t37 H17) fun t38 H22=>
zPb (zEb H11 H13) (zza [t37])∧(zsp (zza [t37]) H9.next H11.next∧(opP ((zla P .and 111 false).f t36 t38) fun t39=>
opP ((zla P .xor 111 false).f t34 t39) fun t40=>
opP ((zla P .add 111 false).f t30 t40) fun t41=>
opP (zqa (nth l 3)) fun t44=>
opP (zTa 64 1 t44 (nth l 5)) fun t45=>
opW (zca t45 H22) fun t46 H29=>
zPb (zEb H11 H13) (zza [t45])∧(zsp (zza [t45]) H9.next H11.next∧(opP ((zla P .add 111 false).f t41 t46) fun t47=>
opP (zTa 64 1 (nth l 2) (nth l 5)) fun t49=>
opW (zca t49 H29) fun t50 H33=>
zPb (zEb H11 H13) (zza [t49])∧(zsp (zza [t49]) H9.next H11.next∧(opP ((zla P .add 111 false).f t47 t50) fun t51=>
opW ((zea P 160 3).f [(0,(.int .i64 2)),(1,(.int .i64 13)),(2,(.int .i64 22))] H33) fun t53 H36=>
wCall P zJb [t22,t53] H36 fun t54 H38=>
opP (zTa 8 1 (nth l 4) (.int .i64 1)) fun t56=>
opW (zca t56 H38) fun t57 H41=>
zPb (zEb H36 H38) (zza [t56])∧(zsp (zza [t56]) H33.next H36.next∧(opP ((zla P .and 111 false).f t22 t57) fun t58=>
opP (zTa 8 1 (nth l 4) (.int .i64 2)) fun t60=>
opW (zca t60 H41) fun t61 H45=>
zPb (zEb H36 H38) (zza [t60])∧(zsp (zza [t60]) H33.next H36.next∧(opP ((zla P .and 111 false).f t22 t61) fun t62=>
opP ((zla P .xor 111 false).f t58 t62) fun t63=>
opP (zTa 8 1 (nth l 4) (.int .i64 1)) fun t64=>
opW (zca t64 H45) fun t65 H50=>
zPb (zEb H36 H38) (zza [t64])∧(zsp (zza [t64]) H33.next H36.next∧(opP (zTa 8 1 (nth l 4) (.int .i64 2)) fun t66=>
opW (zca t66 H50) fun t67 H53=>
zPb (zEb H36 H38) (zza [t66])∧(zsp (zza [t66]) H33.next H36.next∧(opP ((zla P .and 111 false).f t65 t67) fun t68=>
opP ((zla P .xor 111 false).f t63 t68) fun t69=>
opP ((zla P .add 111 false).f t54 t69) fun t70=>
opP (zcb 8 1 (nth l 4) (some (.int .i64 1)) none none H53) fun t71=>
opP (zcb 8 1 (nth l 4) none (some (.int .i64 7)) none H53) fun t72=>
opW (zSf 1 t71 t72 H53) fun t73 H60=>
opP (zTa 8 1 (nth l 4) (.int .i64 4)) fun t74=>
opW (zca t74 H60) fun t75 H63=>
opP ((zla P .add 111 false).f t75 t51) fun t77=>
opP (zTa 8 1 (nth l 4) (.int .i64 4)) fun t78=>
opW (zma 1 t78 t77 H63) fun u H67=>
opP ((zla P .add 111 false).f t51 t70) fun t81=>
opP (zTa 8 1 (nth l 4) (.int .i64 0)) fun t82=>
opW (zma 1 t82 t81 H67) fun u_1 H71=>
opP ((zla P .add 3 true).f (nth l 5) (.int .i64 1)) fun t83=>
N [(nth l 0),(nth l 1),(nth l 2),(nth l 3),(nth l 4),t83] H71)))))))))))))))))) (
Qx 0 [(nth l 0),(nth l 1),(nth l 4)] H)
theorem zOf:LpI P 97 zCc 148 zle:=.mk (by kernel_rfl) fun l H N Qx Qr=>by kernel_rfl
def zme(l:List Value)(H:Heap)(N:LN)(Qx:LX)(Qr:LN):Prop:=
opP ((zla P .lss 3 true).f (nth l 3) (.int .i64 8)) fun t85=>
wIf t85 (
opP (zTa 8 1 (nth l 0) (nth l 3)) fun t88=>
opW (zca t88 H) fun t89 H3=>
opP (zTa 8 1 (nth l 2) (nth l 3)) fun t91=>
opW (zca t91 H3) fun t92 H6=>
opP ((zla P .add 111 false).f t89 t92) fun t93=>
opP (zTa 8 1 (nth l 0) (nth l 3)) fun t94=>
opW (zma 1 t94 t93 H6) fun u H10=>
opP ((zla P .add 3 true).f (nth l 3) (.int .i64 1)) fun t95=>
N [(nth l 0),(nth l 1),(nth l 2),t95] H10) (
Qx 2 [(nth l 0),(nth l 1)] H)
theorem zPf:LpI P 97 zDc 20 zme:=.mk (by kernel_rfl) fun l H N Qx Qr=>by kernel_rfl
def zbg(t0 t1:Value)(H:Heap)(K:VH):Prop:=
zIc (zsa t0) H fun t2 H1=>
zIc (zc P 113) H1 fun t4 H3=>
wCall P zXc [t1] H3 fun t15 H5=>
wCall P zMe [] H5 fun t16 H7=>
zIc (zc P 139) H7 fun t5 H9=>
opW (zma 64 t5 t15 H9) fun u H11=>
opW (zka 8 t2 H11) fun t17 H13=>
zIc (zc P 113) H13 fun t7 H15=>
opW (zma 8 t7 t17 H15) fun u_1 H17=>
zQb P true 97 zCc 148 [t2,t4,t5,t16,t7,(.int .i64 0)] H17 (fun id l H19=>
cond (Nat.beq id 0) (
zQb P true 97 zDc 20 [(nth l 0),(nth l 1),(nth l 2),(.int .i64 0)] H19 (fun id l_1 H21=>
cond (Nat.beq id 2) (
opW (zka 8 (nth l_1 0) H21) fun t96 H23=>
opW (zma 8 (nth l_1 1) t96 H23) fun u_2 H25=>
opW (zka 8 (nth l_1 1) H25) fun r _=>
K r H25) (
False)) (fun l_1 H21=>
opW (zka 8 (nth l_1 1) H21) fun r_1 _=>
K r_1 H21)) (
False)) (fun l H19=>
opW (zka 8 (nth l 1) H19) fun r_2 _=>
K r_2 H19)
theorem zPh{t0 t1:Value}{H:Heap}{K:VH}(h:zbg t0 t1 H K):wCall P zob [t0,t1] H K:=zda rfl (Eq.mpr (by kernel_rfl) h)
def zDe(t0:Value)(H:Heap)(K:VH):Prop:=
opP (zqa t0) fun t4=>
opP (zga 0 t4) fun t5=>
opW (zka 8 t5 H) fun t6 H3=>
opP (zqa t0) fun t8=>
opP (zga 8 t8) fun t9=>
opW (zca t9 H3) fun t10 H7=>
opW (zoa 1 1 (.slice none 0 0) t10 H7) fun t11 H9=>
zVf (zza [t5]) (zza [(.slice none 0 0),t10])∧(opP (zqa t0) fun t13=>
opP (zga 9 t13) fun t14=>
opW (zca t14 H9) fun t15 H13=>
zVf (zza [(.slice none 0 0),t10]) (zza [t14])∧zsp (zza [t14]) H7.next H9.next∧(opP ((zWa P 116).f [(0,t6),(1,t11),(2,t15)]) fun t16=>
zIc (zsa t16) H13 fun t17 H16=>
K t17 H16))
theorem zGg{t0:Value}{H:Heap}{K:VH}(h:zDe t0 H K):wCall P zic [t0] H K:=zda rfl (Eq.mpr (by kernel_rfl) h)
def zcg(t0 t1:Value)(H:Heap)(K:VH):Prop:=
opP (zqa t0) fun t5=>
opP (zga 1 t5) fun t6=>
opW (zca t6 H) fun t7 H3=>
opP ((zla P .eql 30 true).f t7 (.int .i64 0)) fun t8=>
wIf t8 (
opP (zqa t0) fun t11=>
opP (zga 1 t11) fun t12=>
opW (zma 1 t12 t1 H3) fun u H8=>
opP (zqa t0) fun t14=>
opP (zga 0 t14) fun t15=>
opW (zma 1 t15 (.slice none 0 0) H8) fun u_1 H12=>
K (.tuple [].toArray) H12) (
opP (zqa t0) fun t14_1=>
opP (zga 0 t14_1) fun t15_1=>
opW (zma 1 t15_1 (.slice none 0 0) H3) fun u_2 H16=>
K (.tuple [].toArray) H16)
theorem zQh{t0 t1:Value}{H:Heap}{K:VH}(h:zcg t0 t1 H K):wCall P zTb [t0,t1] H K:=zda rfl (Eq.mpr (by kernel_rfl) h)
def zHg(t0 t1:Value)(H:Heap)(K:VH):Prop:=
wCall P zdb [t0,t1] H fun t7 H1=>
wCall P zOa [t7] H1 fun t8 H3=>
K t8 H3
theorem zJi{t0 t1:Value}{H:Heap}{K:VH}(h:zHg t0 t1 H K):wCall P zod [t0,t1] H K:=zda rfl (Eq.mpr (by kernel_rfl) h)
noncomputable abbrev zzb:Code:=zLb P zBa 0
def zAb(l:List Value)(H:Heap)(N:LN)(Qx:LX)(Qr:LN):Prop:=
opP ((zla P .geq 3 true).f (nth l 2) (.int .i64 0)) fun t8=>
wIf t8 (
opW (zca (nth l 1) H) fun t13 H2=>
opP (zIe 1 t13 (nth l 2)) fun t15=>
opW (zca t15 H2) fun t16 H5=>
zlz P (zwf (nth l 0) [(nth l 2),t16]) H5 fun t17 H7=>
opP (unA .not t17) fun t18=>
wIf t18 (
Qr [] H7) (
opP ((zla P .sub 3 true).f (nth l 2) (.int .i64 1)) fun t10=>
N [(nth l 0),(nth l 1),t10] H7)) (
Qx 0 [] H)
theorem zJc:LpI P 19 zzb 0 zAb:=.mk (by kernel_rfl) fun l H N Qx Qr=>by kernel_rfl
def zZb(t0 t1:Value)(H:Heap)(K:VH):Prop:=
opW (zca t1 H) fun t4 H1=>
opW (lenSl t4 H1) fun t5 H3=>
opP ((zla P .sub 3 true).f t5 (.int .i64 1)) fun t6=>
zQb P true 19 zzb 0 [t0,t1,t6] H3 (fun id l H6=>
cond (Nat.beq id 0) (
K (.tuple [].toArray) H6) (
False)) (fun l H6=>
K (.tuple [].toArray) H6)
theorem zEd{t0 t1:Value}{H:Heap}{K:VH}(h:zZb t0 t1 H K):wCall P zBa [t0,t1] H K:=zda rfl (Eq.mpr (by kernel_rfl) h)
def zFd(t0 t1:Value)(H:Heap)(K:VH):Prop:=
zzc (fun J=>
opP ((zla P .lss 3 true).f t1 (.int .i64 0)) fun t6=>
wIf t6 (
False) (
J [t0,t1] H)) (fun l H3=>
opW ((zRb P .cap [22]).f [(nth l 0)] H3) fun t10 H5=>
opW (lenSl (nth l 0) H5) fun t12 H7=>
opP ((zla P .sub 3 false).f t10 t12) fun t13=>
opP ((zla P .sub 3 false).f (nth l 1) t13) fun t14=>
opP ((zla P .gtr 3 true).f t14 (.int .i64 0)) fun t16=>
wIf t16 (
opW ((zRb P .cap [22]).f [(nth l 0)] H7) fun t19 H12=>
opP (zJa 1 (nth l 0) none (some t19) none) fun t20=>
opW ((zRb P .append [22,3]).f [t20,t14] H12) fun t22 H15=>
opW (lenSl (nth l 0) H15) fun t24 H17=>
opP (zJa 1 t22 none (some t24) none) fun t25=>
K t25 H17) (
K (nth l 0) H7))
theorem ztf{t0 t1:Value}{H:Heap}{K:VH}(h:zFd t0 t1 H K):wCall P zIb [t0,t1] H K:=zda rfl (Eq.mpr (by kernel_rfl) h)
noncomputable abbrev zIg:Code:=zLb P zKf 0
def zWj(l:List Value)(H:Heap)(N:LN)(Qx:LX)(Qr:LN):Prop:=
opP ((zla P .lss 3 false).f (nth l 6) (nth l 3)) fun t58=>
wIf t58 (
opP (zco (nth l 0) (nth l 6)) fun t63=>
opW (zmb .i64 t63 H) fun t64 H3=>
zzc (fun J=>
opP ((zla P .lss 3 true).f t64 (.int .i64 128)) fun t66=>
wIf t66 (
opP (zfa t66 (.bool true) undef) fun t70=>
J [(nth l 0),(nth l 1),(nth l 2),(nth l 3),(nth l 4),(nth l 5),(nth l 6),t64,t70] H3) (
opP ((zla P .gtr 3 true).f t64 (.int .i64 191)) fun t69=>
opP (zfa t66 (.bool true) t69) fun t70_1=>
J [(nth l 0),(nth l 1),(nth l 2),(nth l 3),(nth l 4),(nth l 5),(nth l 6),t64,t70_1] H3)) (fun l_1 H10=>
wIf (nth l_1 8) (
opW (zka 3 (nth l_1 2) H10) fun t71 H12=>
opW (zma 3 (nth l_1 1) t71 H12) fun u H14=>
Qr [(nth l_1 0),(nth l_1 1),(nth l_1 2),(nth l_1 3),(nth l_1 4),(nth l_1 5)] H14) (
opP ((zla P .mul 3 true).f (.int .i64 64) (nth l_1 4)) fun t73=>
opP ((zla P .add 3 false).f t73 (nth l_1 7)) fun t75=>
opP ((zla P .sub 3 true).f t75 (.int .i64 128)) fun t76=>
opP ((zla P .add 3 true).f (nth l_1 6) (.int .i64 1)) fun t60=>
N [(nth l_1 0),(nth l_1 1),(nth l_1 2),(nth l_1 3),t76,(nth l_1 5),t60] H10))) (
Qx 1 [(nth l 0),(nth l 1),(nth l 2),(nth l 3),(nth l 4),(nth l 5)] H)
theorem zek:LpI P 98 zIg 245 zWj:=.mk (by kernel_rfl) fun l H N Qx Qr=>by kernel_rfl
def zYo(t0:Value)(H:Heap)(K:VH):Prop:=
zIc (zc P 109) H fun t2 H1=>
opP (zco t0 (.int .i64 0)) fun t11=>
opW (zmb .i64 t11 H1) fun t12 H4=>
opP (zre t0 none (some (.int .i64 1)) none) fun t15=>
opP ((zWa P 109).f [(0,t12),(1,t15),(2,(.bool true))]) fun t16=>
zIc (zc P 109) H4 fun t4 H8=>
opW (zma 3 t4 t16 H8) fun u H10=>
opP ((zla P .lss 3 true).f t12 (.int .i64 128)) fun t18=>
wIf t18 (
opP (zre t0 none (some (.int .i64 1)) none) fun t21=>
opP ((zWa P 109).f [(0,t12),(1,t21),(2,(.bool false))]) fun t22=>
opW (zma 3 t2 t22 H10) fun u_1 H15=>
opW (zka 3 t2 H15) fun r _=>
K r H15) (
zzc (fun J=>
zzc (fun J_1=>
opP ((zla P .geq 3 true).f t12 (.int .i64 194)) fun t26=>
wIf t26 (
opP ((zla P .lss 3 true).f t12 (.int .i64 224)) fun t29=>
opP (zfa t26 t29 (.bool false)) fun t30=>
J_1 [t0,t2,t12,t4,(.int .i64 0),(.int .i64 0),(.int .i64 0),t30] H10) (
opP (zfa t26 undef (.bool false)) fun t30_1=>
J_1 [t0,t2,t12,t4,(.int .i64 0),(.int .i64 0),(.int .i64 0),t30_1] H10)) (fun l H24=>
wIf (nth l 7) (
opP ((zla P .sub 3 true).f (nth l 2) (.int .i64 192)) fun t32=>
J [(nth l 0),(nth l 1),(nth l 3),(.int .i64 2),t32,(.int .i64 128)] H24) (
zzc (fun J_2=>
opP ((zla P .geq 3 true).f (nth l 2) (.int .i64 224)) fun t35=>
wIf t35 (
opP ((zla P .lss 3 true).f (nth l 2) (.int .i64 240)) fun t38=>
opP (zfa t35 t38 (.bool false)) fun t39=>
J_2 [(nth l 0),(nth l 1),(nth l 2),(nth l 3),(nth l 4),(nth l 5),(nth l 6),t39] H24) (
opP (zfa t35 undef (.bool false)) fun t39_1=>
J_2 [(nth l 0),(nth l 1),(nth l 2),(nth l 3),(nth l 4),(nth l 5),(nth l 6),t39_1] H24)) (fun l_1 H32=>
wIf (nth l_1 7) (
opP ((zla P .sub 3 true).f (nth l_1 2) (.int .i64 224)) fun t41=>
J [(nth l_1 0),(nth l_1 1),(nth l_1 3),(.int .i64 3),t41,(.int .i64 2048)] H32) (
zzc (fun J_3=>
opP ((zla P .geq 3 true).f (nth l_1 2) (.int .i64 240)) fun t44=>
wIf t44 (
opP ((zla P .lss 3 true).f (nth l_1 2) (.int .i64 245)) fun t47=>
opP (zfa t44 t47 (.bool false)) fun t48=>
J_3 [(nth l_1 0),(nth l_1 1),(nth l_1 2),(nth l_1 3),(nth l_1 4),(nth l_1 5),(nth l_1 6),t48] H32) (
opP (zfa t44 undef (.bool false)) fun t48_1=>
J_3 [(nth l_1 0),(nth l_1 1),(nth l_1 2),(nth l_1 3),(nth l_1 4),(nth l_1 5),(nth l_1 6),t48_1] H32)) (fun l_2 H40=>
wIf (nth l_2 7) (
opP ((zla P .sub 3 true).f (nth l_2 2) (.int .i64 240)) fun t50=>
J [(nth l_2 0),(nth l_2 1),(nth l_2 3),(.int .i64 4),t50,(.int .i64 65536)] H40) (
opW (zka 3 (nth l_2 3) H40) fun t23 H43=>
opW (zma 3 (nth l_2 1) t23 H43) fun u_2 H45=>
opW (zka 3 (nth l_2 1) H45) fun r_1 _=>
K r_1 H45))))))) (fun l_3 H48=>
opW (zOj (nth l_3 0) H48) fun t52 H50=>
opP ((zla P .lss 3 false).f t52 (nth l_3 3)) fun t54=>
wIf t54 (
opW (zka 3 (nth l_3 2) H50) fun t55 H53=>
opW (zma 3 (nth l_3 1) t55 H53) fun u_3 H55=>
opW (zka 3 (nth l_3 1) H55) fun r_2 _=>
K r_2 H55) (
zQb P true 98 zIg 245 [(nth l_3 0),(nth l_3 1),(nth l_3 2),(nth l_3 3),(nth l_3 4),(nth l_3 5),(.int .i64 1)] H50 (fun id l_4 H58=>
cond (Nat.beq id 1) (
zzc (fun J_4=>
opP ((zla P .lss 3 false).f (nth l_4 4) (nth l_4 5)) fun t79=>
wIf t79 (
opP (zfa t79 (.bool true) undef) fun t83=>
opP (zfa t83 (.bool true) undef) fun t91=>
J_4 [(nth l_4 0),(nth l_4 1),(nth l_4 2),(nth l_4 3),(nth l_4 4),t91] H58) (
opP ((zla P .gtr 3 true).f (nth l_4 4) (.int .i64 1114111)) fun t82=>
opP (zfa t79 (.bool true) t82) fun t83_1=>
wIf t83_1 (
opP (zfa t83_1 (.bool true) undef) fun t91_1=>
J_4 [(nth l_4 0),(nth l_4 1),(nth l_4 2),(nth l_4 3),(nth l_4 4),t91_1] H58) (
opP ((zla P .geq 3 true).f (nth l_4 4) (.int .i64 55296)) fun t86=>
wIf t86 (
opP ((zla P .leq 3 true).f (nth l_4 4) (.int .i64 57343)) fun t89=>
opP (zfa t86 t89 (.bool false)) fun t90=>
opP (zfa t83_1 (.bool true) t90) fun t91_2=>
J_4 [(nth l_4 0),(nth l_4 1),(nth l_4 2),(nth l_4 3),(nth l_4 4),t91_2] H58) (
opP (zfa t86 undef (.bool false)) fun t90_1=>
opP (zfa t83_1 (.bool true) t90_1) fun t91_3=>
J_4 [(nth l_4 0),(nth l_4 1),(nth l_4 2),(nth l_4 3),(nth l_4 4),t91_3] H58)))) (fun l_5 H73=>
wIf (nth l_5 5) (
opW (zka 3 (nth l_5 2) H73) fun t92 H75=>
opW (zma 3 (nth l_5 1) t92 H75) fun u_4 H77=>
opW (zka 3 (nth l_5 1) H77) fun r_3 _=>
K r_3 H77) (
opP (zre (nth l_5 0) none (some (nth l_5 3)) none) fun t96=>
opP ((zWa P 109).f [(0,(nth l_5 4)),(1,t96),(2,(.bool false))]) fun t97=>
opW (zma 3 (nth l_5 1) t97 H73) fun u_5 H82=>
opW (zka 3 (nth l_5 1) H82) fun r_4 _=>
K r_4 H82))) (
False)) (fun l_4 H58=>
opW (zka 3 (nth l_4 1) H58) fun r_5 _=>
K r_5 H58))))
theorem zZo{t0:Value}{H:Heap}{K:VH}(h:zYo t0 H K):wCall P zKf [t0] H K:=zda rfl (Eq.mpr (by kernel_rfl) h)
noncomputable abbrev zdg:Code:=zLb P zXc 0
def zeg(l:List Value)(H:Heap)(N:LN)(Qx:LX)(Qr:LN):Prop:=
opP ((zla P .lss 3 true).f (nth l 3) (.int .i64 64)) fun t8=>
wIf t8 (
opP ((zla P .lss 3 true).f (nth l 3) (.int .i64 16)) fun t11=>
wIf t11 (
opP ((zla P .mul 3 true).f (.int .i64 4) (nth l 3)) fun t15=>
opP (zIe 1 (nth l 0) t15) fun t16=>
opW (zca t16 H) fun t17 H5=>
opW (zmb .u32 t17 H5) fun t18 H7=>
opP ((zla P .shl 111 true).f t18 (.int .u64 24)) fun t19=>
opP ((zla P .mul 3 true).f (.int .i64 4) (nth l 3)) fun t22=>
opP ((zla P .add 3 true).f t22 (.int .i64 1)) fun t23=>
opP (zIe 1 (nth l 0) t23) fun t24=>
opW (zca t24 H7) fun t25 H13=>
opW (zmb .u32 t25 H13) fun t26 H15=>
opP ((zla P .shl 111 true).f t26 (.int .u64 16)) fun t27=>
opP ((zla P .or 111 false).f t19 t27) fun t28=>
opP ((zla P .mul 3 true).f (.int .i64 4) (nth l 3)) fun t31=>
opP ((zla P .add 3 true).f t31 (.int .i64 2)) fun t32=>
opP (zIe 1 (nth l 0) t32) fun t33=>
opW (zca t33 H15) fun t34 H22=>
opW (zmb .u32 t34 H22) fun t35 H24=>
opP ((zla P .shl 111 true).f t35 (.int .u64 8)) fun t36=>
opP ((zla P .or 111 false).f t28 t36) fun t37=>
opP ((zla P .mul 3 true).f (.int .i64 4) (nth l 3)) fun t40=>
opP ((zla P .add 3 true).f t40 (.int .i64 3)) fun t41=>
opP (zIe 1 (nth l 0) t41) fun t42=>
opW (zca t42 H24) fun t43 H31=>
opW (zmb .u32 t43 H31) fun t44 H33=>
opP ((zla P .or 111 false).f t37 t44) fun t45=>
opP (zTa 64 1 (nth l 2) (nth l 3)) fun t46=>
opW (zma 1 t46 t45 H33) fun u H37=>
opP ((zla P .add 3 true).f (nth l 3) (.int .i64 1)) fun t80=>
N [(nth l 0),(nth l 1),(nth l 2),t80] H37) (
opP ((zla P .sub 3 true).f (nth l 3) (.int .i64 15)) fun t48=>
opP (zTa 64 1 (nth l 2) t48) fun t49=>
opW (zca t49 H) fun t50 H42=>
opP ((zla P .sub 3 true).f (nth l 3) (.int .i64 2)) fun t52=>
opP (zTa 64 1 (nth l 2) t52) fun t53=>
opW (zca t53 H42) fun t54 H46=>
opP ((zla P .sub 3 true).f (nth l 3) (.int .i64 16)) fun t57=>
opP (zTa 64 1 (nth l 2) t57) fun t58=>
opW (zca t58 H46) fun t59 H50=>
opW ((zea P 160 2).f [(0,(.int .i64 7)),(1,(.int .i64 18))] H50) fun t61 H52=>
wCall P zJb [t50,t61] H52 fun t62 H54=>
zPb (zEb H52 H54) (zza [t58])∧(opP ((zla P .shr 111 true).f t50 (.int .u64 3)) fun t64=>
opP ((zla P .xor 111 false).f t62 t64) fun t65=>
opP ((zla P .add 111 false).f t59 t65) fun t66=>
opP ((zla P .sub 3 true).f (nth l 3) (.int .i64 7)) fun t68=>
opP (zTa 64 1 (nth l 2) t68) fun t69=>
opW (zca t69 H54) fun t70 H61=>
zPb (zEb H52 H54) (zza [t69])∧(zsp (zza [t69]) H50.next H52.next∧(opP ((zla P .add 111 false).f t66 t70) fun t71=>
opW ((zea P 160 2).f [(0,(.int .i64 17)),(1,(.int .i64 19))] H61) fun t73 H64=>
wCall P zJb [t54,t73] H64 fun t74 H66=>
zPb (zEb H64 H66) (zza [t69])∧(zPb (zEb H64 H66) (zza [t58])∧(opP ((zla P .shr 111 true).f t54 (.int .u64 10)) fun t76=>
opP ((zla P .xor 111 false).f t74 t76) fun t77=>
opP ((zla P .add 111 false).f t71 t77) fun t78=>
opP (zTa 64 1 (nth l 2) (nth l 3)) fun t79=>
opW (zma 1 t79 t78 H66) fun u_1 H72=>
opP ((zla P .add 3 true).f (nth l 3) (.int .i64 1)) fun t80_1=>
N [(nth l 0),(nth l 1),(nth l 2),t80_1] H72))))))) (
Qx 0 [(nth l 1),(nth l 2)] H)
theorem zih:LpI P 82 zdg 12 zeg:=.mk (by kernel_rfl) fun l H N Qx Qr=>by kernel_rfl
def zKi(t0:Value)(H:Heap)(K:VH):Prop:=
zIc (zc P 139) H fun t2 H1=>
zIc (zc P 139) H1 fun t3 H3=>
zQb P true 82 zdg 12 [t0,t2,t3,(.int .i64 0)] H3 (fun id l H5=>
cond (Nat.beq id 0) (
opW (zka 64 (nth l 1) H5) fun t81 H7=>
opW (zma 64 (nth l 0) t81 H7) fun u H9=>
opW (zka 64 (nth l 0) H9) fun r _=>
K r H9) (
False)) (fun l H5=>
opW (zka 64 (nth l 0) H5) fun r_1 _=>
K r_1 H5)
theorem zfk{t0:Value}{H:Heap}{K:VH}(h:zKi t0 H K):wCall P zXc [t0] H K:=zda rfl (Eq.mpr (by kernel_rfl) h)
def zXj(H:Heap)(K:VH):Prop:=
opP ((zWa P 139).f [(0,(.int .u32 1116352408)),(1,(.int .u32 1899447441)),(2,(.int .u32 3049323471)),(3,(.int .u32 3921009573)),(4,(.int .u32 961987163)),(5,(.int .u32 1508970993)),(6,(.int .u32 2453635748)),(7,(.int .u32 2870763221)),(8,(.int .u32 3624381080)),(9,(.int .u32 310598401)),(10,(.int .u32 607225278)),(11,(.int .u32 1426881987)),(12,(.int .u32 1925078388)),(13,(.int .u32 2162078206)),(14,(.int .u32 2614888103)),(15,(.int .u32 3248222580)),(16,(.int .u32 3835390401)),(17,(.int .u32 4022224774)),(18,(.int .u32 264347078)),(19,(.int .u32 604807628)),(20,(.int .u32 770255983)),(21,(.int .u32 1249150122)),(22,(.int .u32 1555081692)),(23,(.int .u32 1996064986)),(24,(.int .u32 2554220882)),(25,(.int .u32 2821834349)),(26,(.int .u32 2952996808)),(27,(.int .u32 3210313671)),(28,(.int .u32 3336571891)),(29,(.int .u32 3584528711)),(30,(.int .u32 113926993)),(31,(.int .u32 338241895)),(32,(.int .u32 666307205)),(33,(.int .u32 773529912)),(34,(.int .u32 1294757372)),(35,(.int .u32 1396182291)),(36,(.int .u32 1695183700)),(37,(.int .u32 1986661051)),(38,(.int .u32 2177026350)),(39,(.int .u32 2456956037)),(40,(.int .u32 2730485921)),(41,(.int .u32 2820302411)),(42,(.int .u32 3259730800)),(43,(.int .u32 3345764771)),(44,(.int .u32 3516065817)),(45,(.int .u32 3600352804)),(46,(.int .u32 4094571909)),(47,(.int .u32 275423344)),(48,(.int .u32 430227734)),(49,(.int .u32 506948616)),(50,(.int .u32 659060556)),(51,(.int .u32 883997877)),(52,(.int .u32 958139571)),(53,(.int .u32 1322822218)),(54,(.int .u32 1537002063)),(55,(.int .u32 1747873779)),(56,(.int .u32 1955562222)),(57,(.int .u32 2024104815)),(58,(.int .u32 2227730452)),(59,(.int .u32 2361852424)),(60,(.int .u32 2428436474)),(61,(.int .u32 2756734187)),(62,(.int .u32 3204031479)),(63,(.int .u32 3329325298))]) fun t1=>
zIc (zsa t1) H fun t2 H2=>
K t2 H2
theorem zul{H:Heap}{K:VH}(h:zXj  H K):wCall P zMe [] H K:=zda rfl (Eq.mpr (by kernel_rfl) h)
noncomputable abbrev zyh:Code:=zLb P zJb 0
def zzh(l:List Value)(H:Heap)(N:LN)(Qx:LX)(Qr:LN):Prop:=
opP ((zla P .lss 3 false).f (nth l 5) (nth l 4)) fun t11=>
wIf t11 (
opP (zIe 1 (nth l 3) (nth l 5)) fun t12=>
opW (zca t12 H) fun t13 H3=>
opP (unA .neg t13) fun t17=>
wCall P zub [(nth l 0),t17] H3 fun t18 H6=>
opP ((zla P .xor 111 false).f (nth l 2) t18) fun t19=>
opP ((zla P .add 3 true).f (nth l 5) (.int .i64 1)) fun t20=>
N [(nth l 0),(nth l 1),t19,(nth l 3),(nth l 4),t20] H6) (
Qx 0 [(nth l 1),(nth l 2)] H)
theorem zLi:LpI P 22 zyh 48 zzh:=.mk (by kernel_rfl) fun l H N Qx Qr=>by kernel_rfl
def zvl(t0 t1:Value)(H:Heap)(K:VH):Prop:=
opW (lenSl t1 H) fun t9 H1=>
zQb P true 22 zyh 48 [t0,(.int .u32 0),(.int .u32 0),t1,t9,(.int .i64 0)] H1 (fun id l H3=>
cond (Nat.beq id 0) (
K (nth l 1) H3) (
False)) (fun l H3=>
K (nth l 0) H3)
theorem zgm{t0 t1:Value}{H:Heap}{K:VH}(h:zvl t0 t1 H K):wCall P zJb [t0,t1] H K:=zda rfl (Eq.mpr (by kernel_rfl) h)
def zcd(t0 t1:Value)(H:Heap)(K:VH):Prop:=
opW (zmb .u64 t1 H) fun t7 H1=>
opP ((zla P .and 99 true).f t7 (.int .u64 31)) fun t8=>
opP ((zla P .shl 111 false).f t0 t8) fun t11=>
opP ((zla P .sub 99 true).f (.int .u64 32) t8) fun t14=>
opP ((zla P .shr 111 false).f t0 t14) fun t15=>
opP ((zla P .or 111 false).f t11 t15) fun t16=>
K t16 H1
theorem zOe{t0 t1:Value}{H:Heap}{K:VH}(h:zcd t0 t1 H K):wCall P zub [t0,t1] H K:=zda rfl (Eq.mpr (by kernel_rfl) h)
end
end J
