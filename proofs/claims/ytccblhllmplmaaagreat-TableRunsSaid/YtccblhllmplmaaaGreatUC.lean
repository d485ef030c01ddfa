/- texts of the proof, one behind the other -/
import Derived.Test.YtccblhllmplmaaaGreatUB
set_option linter.unusedSimpArgs false
set_option linter.unusedSectionVars false
set_option linter.unusedVariables false
set_option maxRecDepth 100000
namespace J
open Go Go.Ab
noncomputable section
noncomputable abbrev zCn:Code:=zMa P zne 0
def zDn(l:List Value)(H:Heap)(N:LN)(Qx:LX)(Qr:LN):Prop:=
opP ((zta P .lss 3 false).f (nth l 4) (nth l 3)) fun t20=>
wIf t20 (
opP (zWa 65 (nth l 2) (nth l 4)) fun t21=>
opW (zna 65 t21 H) fun t22 H3=>
zDb (zc P 122) H3 fun t4 H5=>
opW (zla 65 t4 t22 H5) fun u H7=>
opP (zca (nth l 0)) fun t24=>
opP (zda 0 t24) fun t25=>
opW (zba t25 H7) fun t26 H11=>
opP (zda 0 t4) fun t27=>
opW (zba t27 H11) fun t28 H14=>
opP (zda 1 t4) fun t29=>
opW (zna 64 t29 H14) fun t30 H17=>
opP (zWa 64 t26 t28) fun t31=>
opW (zla 64 t31 t30 H17) fun u_1 H20=>
opP ((zta P .add 3 true).f (nth l 4) (.int .i64 1)) fun t32=>
N [(nth l 0),(nth l 1),(nth l 2),(nth l 3),t32] H20) (
Qx 0 [(nth l 0),(nth l 1)] H)
theorem zMo:LpI P 36 zCn 5 zDn:=.mk (by kernel_rfl) fun l H N Qx Qr=>by kernel_rfl
def zev(t0:Value)(H:Heap)(K:VH):Prop:=
zhb (fun J=>
opP (zca t0) fun t6=>
opP (zda 6 t6) fun t7=>
opW (zba t7 H) fun t8 H4=>
wIf t8 (
opP (zra t8 (.bool true) undef) fun t13=>
wIf t13 (
K (.int .i64 62) H4) (
J [t0,(.int .i64 0)] H4)) (
wCall P zQe [t0] H4 fun t11 H7=>
opP (unA .not t11) fun t12=>
opP (zra t8 (.bool true) t12) fun t13_1=>
wIf t13_1 (
K (.int .i64 62) H7) (
J [t0,(.int .i64 0)] H7))) (fun l H11=>
opP (zca (nth l 0)) fun t15=>
opP (zda 3 t15) fun t16=>
opW (zba t16 H11) fun t17 H15=>
opW (lenSl t17 H15) fun t18 H17=>
zbb P true 36 zCn 5 [(nth l 0),(nth l 1),t17,t18,(.int .i64 0)] H17 (fun id l_1 H19=>
cond (Nat.beq id 0) (
opP (zca (nth l_1 0)) fun t34=>
opP (zda 3 t34) fun t35=>
opW (zla 1 t35 (.slice none 0 0) H19) fun u H23=>
K (.int .i64 0) H23) (
False)) (fun l_1 H19=>
K (nth l_1 1) H19))
theorem zzw{t0:Value}{H:Heap}{K:VH}(h:zev t0 H K):wCall P zne [t0] H K:=zea rfl (Eq.mpr (by kernel_rfl) h)
def zQp(t0 t1:Value)(H:Heap)(K:VH):Prop:=
opP ((zta P .geq 3 true).f t1 (.int .i64 0)) fun t6=>
wIf t6 (
opP (zca t0) fun t10=>
opP (zda 1 t10) fun t11=>
opW (zba t11 H) fun t12 H4=>
opW (lenSl t12 H4) fun t13 H6=>
opP ((zta P .lss 3 false).f t1 t13) fun t14=>
opP (zra t6 t14 (.bool false)) fun t15=>
K t15 H6) (
opP (zra t6 undef (.bool false)) fun t15_1=>
K t15_1 H)
theorem zKs{t0 t1:Value}{H:Heap}{K:VH}(h:zQp t0 t1 H K):wCall P zYd [t0,t1] H K:=zea rfl (Eq.mpr (by kernel_rfl) h)
def zNl(t0 t1 t2:Value)(H:Heap)(K:VH):Prop:=
wCall P zYd [t0,t1] H fun t11 H1=>
opP (unA .not t11) fun t12=>
wIf t12 (
K (.tuple [(.int .i64 0),(.int .i64 71)].toArray) H1) (
zhb (fun J=>
opP ((zta P .lss 3 true).f t2 (.int .i64 0)) fun t15=>
wIf t15 (
opP (zra t15 (.bool true) undef) fun t27=>
J [t0,t1,t2,t27] H1) (
opP (zca t0) fun t19=>
opP (zda 1 t19) fun t20=>
opW (zba t20 H1) fun t21 H9=>
opP (zWa 2 t21 t1) fun t23=>
opP (zda 1 t23) fun t24=>
opW (zba t24 H9) fun t25 H13=>
opP ((zta P .geq 3 false).f t2 t25) fun t26=>
opP (zra t15 (.bool true) t26) fun t27_1=>
J [t0,t1,t2,t27_1] H13)) (fun l H17=>
wIf (nth l 3) (
K (.tuple [(.int .i64 0),(.int .i64 61)].toArray) H17) (
opP (zca (nth l 0)) fun t29=>
opP (zda 1 t29) fun t30=>
opW (zba t30 H17) fun t31 H21=>
opP (zWa 2 t31 (nth l 1)) fun t33=>
opP (zda 0 t33) fun t34=>
opW (zba t34 H21) fun t35 H25=>
opP ((zta P .add 3 false).f t35 (nth l 2)) fun t37=>
K (.tuple [t37,(.int .i64 0)].toArray) H25)))
theorem zNo{t0 t1 t2:Value}{H:Heap}{K:VH}(h:zNl t0 t1 t2 H K):wCall P zSc [t0,t1,t2] H K:=zea rfl (Eq.mpr (by kernel_rfl) h)
def zgi(t0 t1:Value)(H:Heap)(K:VH):Prop:=
zDb (zc P 84) H fun t4 H1=>
wCall P zbc [t0,t1] H1 fun t9 H3=>
opP ((zta P .eql 188 true).f t9 (.pointer none)) fun t11=>
wIf t11 (
opP ((zDa P 84).f []) fun t12=>
opW (zla 64 t4 t12 H3) fun u H7=>
opW (zna 64 t4 H7) fun r _=>
K (.tuple [r,(.int .i64 61)].toArray) H7) (
opP (zca t9) fun t14=>
opP (zda 64 t14) fun t15=>
opW (zna 64 t15 H3) fun t16 H12=>
opW (zla 64 t4 t16 H12) fun u_1 H14=>
opW (zna 64 t4 H14) fun r_1 _=>
K (.tuple [r_1,(.int .i64 0)].toArray) H14)
theorem zfl{t0 t1:Value}{H:Heap}{K:VH}(h:zgi t0 t1 H K):wCall P zge [t0,t1] H K:=zea rfl (Eq.mpr (by kernel_rfl) h)
noncomputable abbrev zOl:Code:=zMa P zFd 0
def zPl(l:List Value)(H:Heap)(N:LN)(Qx:LX)(Qr:LN):Prop:=
opP ((zta P .lss 3 false).f (nth l 5) (nth l 1)) fun t37=>
wIf t37 (
opP (zca (nth l 0)) fun t42=>
opP (zda 1 t42) fun t43=>
opW (zba t43 H) fun t44 H4=>
opP (zWa 1 t44 (nth l 5)) fun t46=>
opW (zba t46 H4) fun t47 H7=>
opP ((zta P .add 3 false).f (nth l 4) t47) fun t48=>
opP ((zta P .add 3 true).f (nth l 5) (.int .i64 1)) fun t39=>
N [(nth l 0),(nth l 1),(nth l 2),(nth l 3),t48,t39] H7) (
Qx 0 [(nth l 2),(nth l 3),(nth l 4)] H)
theorem zEn:LpI P 50 zOl 448 zPl:=.mk (by kernel_rfl) fun l H N Qx Qr=>by kernel_rfl
def zLs(t0 t1 t2:Value)(H:Heap)(K:VH):Prop:=
zhb (fun J=>
opP ((zta P .lss 3 true).f t1 (.int .i64 0)) fun t11=>
wIf t11 (
opP (zra t11 (.bool true) undef) fun t20=>
J [t0,t1,t2,(.int .i64 0),(.int .i64 0),t20] H) (
opP (zca t0) fun t15=>
opP (zda 1 t15) fun t16=>
opW (zba t16 H) fun t17 H6=>
opW (lenSl t17 H6) fun t18 H8=>
opP ((zta P .geq 3 false).f t1 t18) fun t19=>
opP (zra t11 (.bool true) t19) fun t20_1=>
J [t0,t1,t2,(.int .i64 0),(.int .i64 0),t20_1] H8)) (fun l H12=>
wIf (nth l 5) (
K (.tuple [(.int .i64 0),(.int .i64 71)].toArray) H12) (
zhb (fun J_1=>
opP ((zta P .lss 3 true).f (nth l 2) (.int .i64 0)) fun t22=>
wIf t22 (
opP (zra t22 (.bool true) undef) fun t33=>
J_1 [(nth l 0),(nth l 1),(nth l 2),(nth l 3),(nth l 4),t33] H12) (
opP (zca (nth l 0)) fun t26=>
opP (zda 1 t26) fun t27=>
opW (zba t27 H12) fun t28 H19=>
opP (zWa 1 t28 (nth l 1)) fun t30=>
opW (zba t30 H19) fun t31 H22=>
opP ((zta P .geq 3 false).f (nth l 2) t31) fun t32=>
opP (zra t22 (.bool true) t32) fun t33_1=>
J_1 [(nth l 0),(nth l 1),(nth l 2),(nth l 3),(nth l 4),t33_1] H22)) (fun l_1 H26=>
wIf (nth l_1 5) (
K (.tuple [(.int .i64 0),(.int .i64 61)].toArray) H26) (
zbb P true 50 zOl 448 [(nth l_1 0),(nth l_1 1),(nth l_1 3),(nth l_1 4),(nth l_1 2),(.int .i64 0)] H26 (fun id l_2 H28=>
cond (Nat.beq id 0) (
K (.tuple [(nth l_2 2),(.int .i64 0)].toArray) H28) (
False)) (fun l_2 H28=>
K (.tuple [(nth l_2 0),(nth l_2 1)].toArray) H28)))))
theorem zdu{t0 t1 t2:Value}{H:Heap}{K:VH}(h:zLs t0 t1 t2 H K):wCall P zFd [t0,t1,t2] H K:=zea rfl (Eq.mpr (by kernel_rfl) h)
noncomputable abbrev zFn:Code:=zMa P zQf 0
def zGn(l:List Value)(H:Heap)(N:LN)(Qx:LX)(Qr:LN):Prop:=
opP ((zta P .lss 3 false).f (nth l 6) (nth l 5)) fun t27=>
wIf t27 (
opP (zWa 65 (nth l 4) (nth l 6)) fun t28=>
opW (zna 65 t28 H) fun t29 H3=>
zDb (zc P 122) H3 fun t8 H5=>
opW (zla 65 t8 t29 H5) fun u H7=>
opP (zda 0 t8) fun t30=>
opW (zba t30 H7) fun t31 H10=>
opP ((zta P .eql 3 false).f t31 (nth l 0)) fun t33=>
wIf t33 (
opP (zda 1 t8) fun t34=>
opW (zna 64 t34 H10) fun t35 H14=>
opW (zla 64 (nth l 3) t35 H14) fun u_1 H16=>
opP ((zta P .add 3 true).f (nth l 6) (.int .i64 1)) fun t36=>
N [(nth l 0),(nth l 1),(nth l 2),(nth l 3),(nth l 4),(nth l 5),t36] H16) (
opP ((zta P .add 3 true).f (nth l 6) (.int .i64 1)) fun t36_1=>
N [(nth l 0),(nth l 1),(nth l 2),(nth l 3),(nth l 4),(nth l 5),t36_1] H10)) (
Qx 0 [(nth l 1),(nth l 2),(nth l 3)] H)
theorem zOo:LpI P 38 zFn 112 zGn:=.mk (by kernel_rfl) fun l H N Qx Qr=>by kernel_rfl
def zfv(t0 t1:Value)(H:Heap)(K:VH):Prop:=
zDb (zc P 84) H fun t4 H1=>
wCall P zSk [t0,t1] H1 fun t11 H3=>
opP (unA .not t11) fun t12=>
wIf t12 (
opP ((zDa P 84).f []) fun t13=>
opW (zla 64 t4 t13 H3) fun u H7=>
opW (zna 64 t4 H7) fun r _=>
K (.tuple [r,(.int .i64 61)].toArray) H7) (
opP (zca t0) fun t15=>
opP (zda 0 t15) fun t16=>
opW (zba t16 H3) fun t17 H12=>
opP (zWa 64 t17 t1) fun t19=>
opW (zna 64 t19 H12) fun t20 H15=>
zDb (zc P 84) H15 fun t6 H17=>
opW (zla 64 t6 t20 H17) fun u_1 H19=>
opP (zca t0) fun t22=>
opP (zda 3 t22) fun t23=>
opW (zba t23 H19) fun t24 H23=>
opW (lenSl t24 H23) fun t25 H25=>
zbb P true 38 zFn 112 [t1,t4,(.int .i64 0),t6,t24,t25,(.int .i64 0)] H25 (fun id l H27=>
cond (Nat.beq id 0) (
opW (zna 64 (nth l 2) H27) fun t37 H29=>
opW (zla 64 (nth l 0) t37 H29) fun u_2 H31=>
opW (zna 64 (nth l 0) H31) fun r_1 _=>
K (.tuple [r_1,(.int .i64 0)].toArray) H31) (
False)) (fun l H27=>
opW (zna 64 (nth l 0) H27) fun r_2 _=>
K (.tuple [r_2,(nth l 1)].toArray) H27))
theorem zAw{t0 t1:Value}{H:Heap}{K:VH}(h:zfv t0 t1 H K):wCall P zQf [t0,t1] H K:=zea rfl (Eq.mpr (by kernel_rfl) h)
noncomputable abbrev zxh:Code:=zMa P zGd 0
def zyh(l:List Value)(H:Heap)(N:LN)(Qx:LX)(Qr:LN):Prop:=
opP ((zta P .lss 3 false).f (nth l 5) (nth l 4)) fun t13=>
wIf t13 (
wCall P zrd [(nth l 0),(nth l 1),(nth l 5)] H fun t19 H2=>
opP (zjc 0 t19) fun t20=>
opP (zjc 1 t19) fun t21=>
zDb (zc P 84) H2 fun t7 H6=>
opW (zla 64 t7 t20 H6) fun u H8=>
opW (zna 64 t7 H8) fun t23 H10=>
opW ((zpa P 79 1).f [(0,t23)] H10) fun t24 H12=>
opW (zva 64 64 (nth l 3) t24 H12) fun t25 H14=>
opP ((zta P .add 3 true).f (nth l 5) (.int .i64 1)) fun t26=>
N [(nth l 0),(nth l 1),(nth l 2),t25,(nth l 4),t26] H14) (
Qx 0 [(nth l 2),(nth l 3)] H)
theorem zAj:LpI P 28 zxh 48 zyh:=.mk (by kernel_rfl) fun l H N Qx Qr=>by kernel_rfl
def zhk(t0 t1:Value)(H:Heap)(K:VH):Prop:=
wCall P zLb [t0,t1] H fun t11 H1=>
zbb P true 28 zxh 48 [t0,t1,(.slice none 0 0),(.slice none 0 0),t11,(.int .i64 0)] H1 (fun id l H3=>
cond (Nat.beq id 0) (
K (nth l 1) H3) (
False)) (fun l H3=>
K (nth l 0) H3)
theorem zHn{t0 t1:Value}{H:Heap}{K:VH}(h:zhk t0 t1 H K):wCall P zGd [t0,t1] H K:=zea rfl (Eq.mpr (by kernel_rfl) h)
def zwy(t0:Value)(H:Heap)(K:VH):Prop:=
opW (lenSl t0 H) fun t14 H1=>
opP ((zta P .eql 3 true).f t14 (.int .i64 0)) fun t15=>
wIf t15 (
K (.tuple [(.int .u8 0),(.int .u64 0),(.slice none 0 0),(.int .i64 0)].toArray) H1) (
opP (zWa 64 t0 (.int .i64 0)) fun t17=>
opP (zdc 64 1 t17 none none none H1) fun t18=>
wCall P zFg [t18] H1 fun t19 H6=>
wCall P zAc [t19,(.int .i64 2)] H6 fun t21 H8=>
wCall P zza [t19,(.int .i64 1)] H8 fun t23 H10=>
opW (zob .u8 t23 H10) fun t24 H12=>
wCall P zza [t19,(.int .i64 8)] H12 fun t26 H14=>
wCall P zza [t19,(.int .i64 2)] H14 fun t28 H16=>
opW (zob .i64 t28 H16) fun t29 H18=>
wCall P zvh [t29] H18 fun t31 H20=>
zhb (fun J=>
opW (zjb t21 H20) fun t33 H23=>
opP ((zta P .neq 9 true).f t33 (.string ⟨#[66,74]⟩)) fun t34=>
wIf t34 (
opP (zra t34 (.bool true) undef) fun t38=>
opP (zra t38 (.bool true) undef) fun t44=>
J [t0,t24,t26,t29,t31,t44] H23) (
opP ((zta P .eql 3 true).f t31 (.int .i64 0)) fun t37=>
opP (zra t34 (.bool true) t37) fun t38_1=>
wIf t38_1 (
opP (zra t38_1 (.bool true) undef) fun t44_1=>
J [t0,t24,t26,t29,t31,t44_1] H23) (
opW (lenSl t0 H23) fun t42 H31=>
opP ((zta P .gtr 3 false).f t31 t42) fun t43=>
opP (zra t38_1 (.bool true) t43) fun t44_2=>
J [t0,t24,t26,t29,t31,t44_2] H31))) (fun l H35=>
wIf (nth l 5) (
K (.tuple [(.int .u8 0),(.int .u64 0),(.slice none 0 0),(.int .i64 0)].toArray) H35) (
opP (zLa 64 (nth l 0) none (some (nth l 4)) none) fun t47=>
wCall P zxg [t47] H35 fun t48 H38=>
opP ((zta P .add 3 true).f (.int .i64 13) (nth l 3)) fun t50=>
opP (zLa 1 t48 (some (.int .i64 13)) (some t50) none) fun t51=>
wCall P zzf [(nth l 1),(nth l 2),t51] H38 fun t55 H42=>
opP (zLa 64 (nth l 0) none (some (nth l 4)) none) fun t58=>
wCall P zZa [t55,t58] H42 fun t59 H45=>
opP (unA .not t59) fun t60=>
wIf t60 (
K (.tuple [(.int .u8 0),(.int .u64 0),(.slice none 0 0),(.int .i64 0)].toArray) H45) (
wCall P zvb [t51] H45 fun t64 H48=>
K (.tuple [(nth l 1),(nth l 2),t64,(nth l 4)].toArray) H48))))
theorem zxy{t0:Value}{H:Heap}{K:VH}(h:zwy t0 H K):wCall P zmm [t0] H K:=zea rfl (Eq.mpr (by kernel_rfl) h)
def zdC(t0:Value)(H:Heap)(K:VH):Prop:=
opP ((zDa P 195).f [(0,t0)]) fun t4=>
zDb (zGa t4) H fun t5 H2=>
K t5 H2
theorem zzA{t0:Value}{H:Heap}{K:VH}(h:zdC t0 H K):wCall P zFg [t0] H K:=zea rfl (Eq.mpr (by kernel_rfl) h)
def zyy(t0:Value)(H:Heap)(K:VH):Prop:=
zDb (zc P 27) H fun t2 H1=>
wCall P zAc [t0,(.int .i64 46)] H1 fun t9 H3=>
wCall P zBc [t0] H3 fun t11 H5=>
opP ((zta P .neq 43 true).f t11 (.int .i64 0)) fun t13=>
wIf t13 (
opP ((zDa P 27).f []) fun t14=>
opW (zla 36 t2 t14 H5) fun u H9=>
opW (zna 36 t2 H9) fun r _=>
K (.tuple [r,t11].toArray) H9) (
wCall P zFg [t9] H5 fun t17 H12=>
wCall P zza [t17,(.int .i64 1)] H12 fun t19 H14=>
opW (zob .i64 t19 H14) fun t20 H16=>
wCall P zza [t17,(.int .i64 1)] H16 fun t22 H18=>
opW (zob .i64 t22 H18) fun t23 H20=>
wCall P zza [t17,(.int .i64 8)] H20 fun t25 H22=>
wCall P zza [t17,(.int .i64 4)] H22 fun t27 H24=>
opW (zob .i64 t27 H24) fun t28 H26=>
opP ((zDa P 27).f [(0,t20),(1,t23),(2,t25),(3,t28)]) fun t29=>
zDb (zc P 27) H26 fun t7 H29=>
opW (zla 36 t7 t29 H29) fun u_1 H31=>
opP (zda 4 t7) fun t30=>
opP (zdc 32 1 t30 none none none H31) fun t31=>
wCall P zAc [t17,(.int .i64 32)] H31 fun t33 H35=>
zhc (zWb H31 H35) (zVa [t30])∧(opW (zdj 1 t31 t33 H35) fun t34 H37=>
opW (zna 36 t7 H37) fun t35 H39=>
wCall P zsd [t35] H39 fun t36 H41=>
opP (unA .not t36) fun t37=>
wIf t37 (
opP ((zDa P 27).f []) fun t38=>
opW (zla 36 t2 t38 H41) fun u_2 H45=>
opW (zna 36 t2 H45) fun r_1 _=>
K (.tuple [r_1,(.int .i64 101)].toArray) H45) (
opW (zna 36 t7 H41) fun t39 H48=>
opW (zla 36 t2 t39 H48) fun u_3 H50=>
opW (zna 36 t2 H50) fun r_2 _=>
K (.tuple [r_2,(.int .i64 0)].toArray) H50)))
theorem zzy{t0:Value}{H:Heap}{K:VH}(h:zyy t0 H K):wCall P zNi [t0] H K:=zea rfl (Eq.mpr (by kernel_rfl) h)
noncomputable abbrev zwb:List Tmp × Code × Code:=rangeAt P zza 0
def zng(vals args:List Value)(l:Nat)(H:Heap)(K:VH):Prop:=
zPx l H fun H0=>
opW (zba (nth vals 0) H0) fun t15 H2=>
opP ((zta P .shl 23 true).f t15 (.int .u64 8)) fun t16=>
opW (zob .u64 (nth args 1) H2) fun t18 H5=>
opP ((zta P .or 23 false).f t16 t18) fun t19=>
opW (zla 1 (nth vals 0) t19 H5) fun u H8=>
zwK l .normal H8 K
theorem zVi(vals args:List Value)(l:Nat)(H:Heap)(K:VH):zZv P 21 zwb.1 zwb.2.1 zwb.2.2 vals args l H K=zng vals args l H K:=by kernel_rfl
def zhi(t0 t1:Value)(H:Heap)(K:VH):Prop:=
zDb (zc P 23) H fun t5 H1=>
opW (zla 1 t5 (.int .u64 0) H1) fun u H3=>
wCall P zyg [t1] H3 fun t10 H5=>
wCall P zjd [t0,t10] H5 fun t11 H7=>
wCall P zud [t11] H7 fun t12 H9=>
zOx P 21 zwb.1 zwb.2.1 zwb.2.2 [t5,undef] t12 H9 (fun H10=>
opW (zba t5 H10) fun t20 H12=>
K t20 H12) (fun id H10=>
cond (Nat.beq id 0) (
opW (zba t5 H10) fun t20_1 H14=>
K t20_1 H14) (
False)) (fun H10=>
K (.int .u64 0) H10)
theorem zgl{t0 t1:Value}{H:Heap}{K:VH}(h:zhi t0 t1 H K):wCall P zza [t0,t1] H K:=zea rfl (Eq.mpr (by kernel_rfl) h)
def zik(t0:Value)(H:Heap)(K:VH):Prop:=
opP (zca t0) fun t4=>
opP (zda 1 t4) fun t5=>
opW (zba t5 H) fun t6 H3=>
opP ((zta P .eql 43 true).f t6 (.int .i64 0)) fun t7=>
wIf t7 (
opP (zca t0) fun t10=>
opP (zda 0 t10) fun t11=>
opW (zba t11 H3) fun t12 H8=>
opW (lenSl t12 H8) fun t13 H10=>
opP ((zta P .gtr 3 true).f t13 (.int .i64 0)) fun t14=>
opP (zra t7 t14 (.bool false)) fun t15=>
wIf t15 (
K (.int .i64 52) H10) (
opP (zca t0) fun t17=>
opP (zda 1 t17) fun t18=>
opW (zba t18 H10) fun t19 H16=>
K t19 H16)) (
opP (zra t7 undef (.bool false)) fun t15_1=>
wIf t15_1 (
K (.int .i64 52) H3) (
opP (zca t0) fun t17_1=>
opP (zda 1 t17_1) fun t18_1=>
opW (zba t18_1 H3) fun t19_1 H21=>
K t19_1 H21))
theorem zIn{t0:Value}{H:Heap}{K:VH}(h:zik t0 H K):wCall P zHd [t0] H K:=zea rfl (Eq.mpr (by kernel_rfl) h)
def zRp(t0:Value)(H:Heap)(K:VH):Prop:=
zDb (zc P 74) H fun t2 H1=>
wCall P zza [t0,(.int .i64 1)] H1 fun t8 H3=>
opW (zob .i64 t8 H3) fun t9 H5=>
opP ((zDa P 74).f [(0,t9)]) fun t10=>
zDb (zc P 74) H5 fun t4 H8=>
opW (zla 40 t4 t10 H8) fun u H10=>
zhb (fun J=>
opP (zda 0 t4) fun t11=>
opW (zba t11 H10) fun t12 H14=>
opP ((zta P .eql 3 true).f t12 (.int .i64 1)) fun t14=>
wIf t14 (
wCall P zza [t0,(.int .i64 1)] H14 fun t16 H17=>
opW (zob .i64 t16 H17) fun t17 H19=>
opP (zda 1 t4) fun t18=>
opW (zla 1 t18 t17 H19) fun u_1 H22=>
wCall P zNi [t0] H22 fun t21 H24=>
opP (zjc 0 t21) fun t22=>
opP (zjc 1 t21) fun t23=>
zDb (zc P 27) H24 fun t5 H28=>
opW (zla 36 t5 t22 H28) fun u_2 H30=>
opP ((zta P .neq 43 true).f t23 (.int .i64 0)) fun t25=>
wIf t25 (
opP ((zDa P 74).f []) fun t26=>
opW (zla 40 t2 t26 H30) fun u_3 H34=>
opW (zna 40 t2 H34) fun r _=>
K (.tuple [r,(.int .i64 111)].toArray) H34) (
opW (zna 36 t5 H30) fun t27 H37=>
opP (zda 3 t4) fun t28=>
opW (zla 36 t28 t27 H37) fun u_4 H40=>
J [t0,t2,t4] H40)) (
opP ((zta P .eql 3 true).f t12 (.int .i64 2)) fun t30=>
wIf t30 (
wCall P zza [t0,(.int .i64 1)] H14 fun t32 H43=>
opW (zob .i64 t32 H43) fun t33 H45=>
opP (zda 2 t4) fun t34=>
opW (zla 1 t34 t33 H45) fun u_5 H48=>
J [t0,t2,t4] H48) (
opP ((zta P .eql 3 true).f t12 (.int .i64 3)) fun t36=>
wIf t36 (
wCall P zza [t0,(.int .i64 1)] H14 fun t38 H51=>
opW (zob .i64 t38 H51) fun t39 H53=>
opP ((zta P .add 3 true).f t39 (.int .i64 (-1))) fun t40=>
opP (zda 2 t4) fun t41=>
opW (zla 1 t41 t40 H53) fun u_6 H57=>
J [t0,t2,t4] H57) (
opP ((zta P .eql 3 true).f t12 (.int .i64 4)) fun t43=>
wIf t43 (
wCall P zza [t0,(.int .i64 8)] H14 fun t45 H60=>
opP (zda 39 t4) fun t46=>
opW (zla 1 t46 t45 H60) fun u_7 H63=>
J [t0,t2,t4] H63) (
J [t0,t2,t4] H14))))) (fun l H65=>
zhb (fun J_1=>
wCall P zBc [(nth l 0)] H65 fun t48 H68=>
opP ((zta P .neq 43 true).f t48 (.int .i64 0)) fun t49=>
wIf t49 (
opP (zra t49 (.bool true) undef) fun t54=>
J_1 [(nth l 1),(nth l 2),t54] H68) (
opW (zna 40 (nth l 2) H68) fun t51 H72=>
wCall P zNe [t51] H72 fun t52 H74=>
opP (unA .not t52) fun t53=>
opP (zra t49 (.bool true) t53) fun t54_1=>
J_1 [(nth l 1),(nth l 2),t54_1] H74)) (fun l_1 H78=>
wIf (nth l_1 2) (
opP ((zDa P 74).f []) fun t55=>
opW (zla 40 (nth l_1 0) t55 H78) fun u_8 H81=>
opW (zna 40 (nth l_1 0) H81) fun r_1 _=>
K (.tuple [r_1,(.int .i64 111)].toArray) H81) (
opW (zna 40 (nth l_1 1) H78) fun t56 H84=>
opW (zla 40 (nth l_1 0) t56 H84) fun u_9 H86=>
opW (zna 40 (nth l_1 0) H86) fun r_2 _=>
K (.tuple [r_2,(.int .i64 0)].toArray) H86)))
theorem zMs{t0:Value}{H:Heap}{K:VH}(h:zRp t0 H K):wCall P zLh [t0] H K:=zea rfl (Eq.mpr (by kernel_rfl) h)
noncomputable abbrev zSp:Code:=zMa P zOi 0
def zTp(l:List Value)(H:Heap)(N:LN)(Qx:LX)(Qr:LN):Prop:=
opP ((zta P .lss 3 false).f (nth l 9) (nth l 7)) fun t51=>
wIf t51 (
opP ((zta P .rem 3 true).f (nth l 9) (.int .i64 64)) fun t55=>
opP ((zta P .neq 3 true).f t55 (.int .i64 63)) fun t56=>
wIf t56 (
opP (zWa 1 (nth l 0) (nth l 9)) fun t60=>
opW (zba t60 H) fun t61 H5=>
opW ((zpa P 50 1).f [(0,t61)] H5) fun t62 H7=>
opW (zva 1 1 (nth l 8) t62 H7) fun t63 H9=>
opP ((zta P .add 3 true).f (nth l 9) (.int .i64 1)) fun t53=>
N [(nth l 0),(nth l 1),(nth l 2),(nth l 3),(nth l 4),(nth l 5),(nth l 6),(nth l 7),t63,t53] H9) (
opP ((zta P .add 3 true).f (nth l 9) (.int .i64 1)) fun t53_1=>
N [(nth l 0),(nth l 1),(nth l 2),(nth l 3),(nth l 4),(nth l 5),(nth l 6),(nth l 7),(nth l 8),t53_1] H)) (
Qx 0 [(nth l 0),(nth l 1),(nth l 2),(nth l 3),(nth l 4),(nth l 5),(nth l 6),(nth l 7),(nth l 8)] H)
theorem zIq:LpI P 88 zSp 1981 zTp:=.mk (by kernel_rfl) fun l H N Qx Qr=>by kernel_rfl
def zAy(t0:Value)(H:Heap)(K:VH):Prop:=
zhb (fun J=>
opW (lenSl t0 H) fun t14 H2=>
opP ((zta P .lss 3 true).f t14 (.int .i64 64)) fun t15=>
wIf t15 (
opP (zra t15 (.bool true) undef) fun t21=>
opP (zra t21 (.bool true) undef) fun t27=>
J [t0,(.int .u8 0),(.int .u64 0),(.slice none 0 0),(.int .i64 0),t27] H2) (
opP (zWa 1 t0 (.int .i64 0)) fun t18=>
opW (zba t18 H2) fun t19 H8=>
opP ((zta P .neq 5 true).f t19 (.int .u8 66)) fun t20=>
opP (zra t15 (.bool true) t20) fun t21_1=>
wIf t21_1 (
opP (zra t21_1 (.bool true) undef) fun t27_1=>
J [t0,(.int .u8 0),(.int .u64 0),(.slice none 0 0),(.int .i64 0),t27_1] H8) (
opP (zWa 1 t0 (.int .i64 1)) fun t24=>
opW (zba t24 H8) fun t25 H14=>
opP ((zta P .neq 5 true).f t25 (.int .u8 74)) fun t26=>
opP (zra t21_1 (.bool true) t26) fun t27_2=>
J [t0,(.int .u8 0),(.int .u64 0),(.slice none 0 0),(.int .i64 0),t27_2] H14))) (fun l H18=>
wIf (nth l 5) (
K (.tuple [(.int .u8 0),(.int .u64 0),(.slice none 0 0),(.int .i64 0)].toArray) H18) (
opP (zLa 1 (nth l 0) (some (.int .i64 3)) (some (.int .i64 13)) none) fun t29=>
opP ((zDa P 145).f [(0,t29)]) fun t30=>
zDb (zGa t30) H18 fun t31 H22=>
wCall P zcb [t31,(.int .i64 8)] H22 fun t33 H24=>
wCall P zcb [t31,(.int .i64 2)] H24 fun t35 H26=>
opW (zob .i64 t35 H26) fun t36 H28=>
wCall P zme [t36] H28 fun t38 H30=>
opP ((zta P .mul 3 true).f (.int .i64 64) t38) fun t39=>
zhb (fun J_1=>
opP ((zta P .eql 3 true).f t39 (.int .i64 0)) fun t41=>
wIf t41 (
opP (zra t41 (.bool true) undef) fun t47=>
J_1 [(nth l 0),(nth l 1),(nth l 2),(nth l 3),(nth l 4),t33,t36,t39,t47] H30) (
opW (lenSl (nth l 0) H30) fun t45 H36=>
opP ((zta P .gtr 3 false).f t39 t45) fun t46=>
opP (zra t41 (.bool true) t46) fun t47_1=>
J_1 [(nth l 0),(nth l 1),(nth l 2),(nth l 3),(nth l 4),t33,t36,t39,t47_1] H36)) (fun l_1 H40=>
wIf (nth l_1 8) (
K (.tuple [(.int .u8 0),(.int .u64 0),(.slice none 0 0),(.int .i64 0)].toArray) H40) (
opW ((zpa P 50 0).f [] H40) fun t48 H42=>
zbb P true 88 zSp 1981 [(nth l_1 0),(nth l_1 1),(nth l_1 2),(nth l_1 3),(nth l_1 4),(nth l_1 5),(nth l_1 6),(nth l_1 7),t48,(.int .i64 0)] H42 (fun id l_2 H44=>
cond (Nat.beq id 0) (
opP ((zta P .add 3 true).f (.int .i64 13) (nth l_2 6)) fun t66=>
opP (zLa 1 (nth l_2 8) (some (.int .i64 13)) (some t66) none) fun t67=>
opP (zWa 1 (nth l_2 0) (.int .i64 2)) fun t69=>
opW (zba t69 H44) fun t70 H49=>
wCall P zRe [t70,(nth l_2 5),t67] H49 fun t73 H51=>
opW (zjb t73 H51) fun t74 H53=>
opP (zLa 1 (nth l_2 0) none (some (nth l_2 7)) none) fun t77=>
opW (zjb t77 H53) fun t78 H56=>
zhc (zWb H49 H51) (zVa [t77])∧(opP ((zta P .neq 9 false).f t74 t78) fun t79=>
wIf t79 (
K (.tuple [(.int .u8 0),(.int .u64 0),(.slice none 0 0),(.int .i64 0)].toArray) H56) (
opP (zWa 1 (nth l_2 0) (.int .i64 2)) fun t81=>
opW (zba t81 H56) fun t82 H60=>
opW ((zpa P 50 0).f [] H60) fun t84 H62=>
opW (zva 1 1 t84 t67 H62) fun t86 H64=>
zPj (zVa [t81]) (zVa [t84,t67])∧(K (.tuple [t82,(nth l_2 5),t86,(nth l_2 7)].toArray) H64)))) (
False)) (fun l_2 H44=>
K (.tuple [(nth l_2 1),(nth l_2 2),(nth l_2 3),(nth l_2 4)].toArray) H44)))))
theorem zBy{t0:Value}{H:Heap}{K:VH}(h:zAy t0 H K):wCall P zOi [t0] H K:=zea rfl (Eq.mpr (by kernel_rfl) h)
def zCy(t0 t1:Value)(H:Heap)(K:VH):Prop:=
zhb (fun J=>
opP ((zta P .lss 3 true).f t1 (.int .i64 0)) fun t7=>
wIf t7 (
J [t0,(.int .i64 0)] H) (
J [t0,t1] H)) (fun l H3=>
zhb (fun J_1=>
zhb (fun J_2=>
opP (zca (nth l 0)) fun t9=>
opP (zda 1 t9) fun t10=>
opW (zba t10 H3) fun t11 H9=>
opP ((zta P .eql 3 true).f t11 (.int .i64 0)) fun t12=>
wIf t12 (
opP (zca (nth l 0)) fun t16=>
opP (zda 0 t16) fun t17=>
opW (zba t17 H9) fun t18 H14=>
opW (lenSl t18 H14) fun t19 H16=>
opP ((zta P .gtr 3 false).f (nth l 1) t19) fun t20=>
opP (zra t12 t20 (.bool false)) fun t21=>
J_2 [(nth l 0),(nth l 1),t21] H16) (
opP (zra t12 undef (.bool false)) fun t21_1=>
J_2 [(nth l 0),(nth l 1),t21_1] H9)) (fun l_1 H21=>
wIf (nth l_1 2) (
opP (zca (nth l_1 0)) fun t23=>
opP (zda 1 t23) fun t24=>
opW (zla 1 t24 (.int .i64 51) H21) fun u H25=>
J_1 [(nth l_1 0),(nth l_1 1)] H25) (
J_1 [(nth l_1 0),(nth l_1 1)] H21))) (fun l_2 H27=>
opP (zca (nth l_2 0)) fun t26=>
opP (zda 1 t26) fun t27=>
opW (zba t27 H27) fun t28 H31=>
opP ((zta P .neq 3 true).f t28 (.int .i64 0)) fun t29=>
wIf t29 (
opP (zca (nth l_2 0)) fun t31=>
opP (zda 0 t31) fun t32=>
opW (zla 1 t32 (.slice none 0 0) H31) fun u_1 H36=>
K (.slice none 0 0) H36) (
opW ((zpa P 50 0).f [] H31) fun t33 H38=>
opP (zca (nth l_2 0)) fun t35=>
opP (zda 0 t35) fun t36=>
opW (zba t36 H38) fun t37 H42=>
opP (zLa 1 t37 none (some (nth l_2 1)) none) fun t39=>
opW (zva 1 1 t33 t39 H42) fun t40 H45=>
opP (zca (nth l_2 0)) fun t43=>
opP (zda 0 t43) fun t44=>
opW (zba t44 H45) fun t45 H49=>
opP (zLa 1 t45 (some (nth l_2 1)) none none) fun t47=>
opP (zca (nth l_2 0)) fun t48=>
opP (zda 0 t48) fun t49=>
opW (zla 1 t49 t47 H49) fun u_2 H54=>
K t40 H54)))
theorem zDy{t0 t1:Value}{H:Heap}{K:VH}(h:zCy t0 t1 H K):wCall P zPi [t0,t1] H K:=zea rfl (Eq.mpr (by kernel_rfl) h)
def zgv(t0:Value)(H:Heap)(K:VH):Prop:=
opP ((zta P .lss 3 true).f t0 (.int .i64 0)) fun t4=>
wIf t4 (
K (.int .i64 0) H) (
opP ((zta P .gtr 3 true).f t0 (.int .i64 8)) fun t6=>
wIf t6 (
K (.int .i64 8) H) (
K t0 H))
theorem zBw{t0:Value}{H:Heap}{K:VH}(h:zgv t0 H K):wCall P zuh [t0] H K:=zea rfl (Eq.mpr (by kernel_rfl) h)
def zEy(t0:Value)(H:Heap)(K:VH):Prop:=
zDb (zGa t0) H fun t1 H1=>
opP (zda 0 t1) fun t3=>
opW (zba t3 H1) fun t4 H4=>
opP ((zta P .eql 3 true).f t4 (.int .i64 1)) fun t6=>
wIf t6 (
opP (zda 2 t1) fun t7=>
opW (zba t7 H4) fun t8 H8=>
opP ((zta P .eql 3 true).f t8 (.int .i64 0)) fun t9=>
wIf t9 (
opP (zda 39 t1) fun t11=>
opW (zba t11 H8) fun t12 H12=>
opP ((zta P .eql 23 true).f t12 (.int .u64 0)) fun t13=>
opP (zra t9 t13 (.bool false)) fun t14=>
wIf t14 (
opP (zda 1 t1) fun t16=>
opW (zba t16 H12) fun t17 H17=>
opP ((zta P .geq 3 true).f t17 (.int .i64 0)) fun t18=>
opP (zra t14 t18 (.bool false)) fun t19=>
wIf t19 (
opP (zda 1 t1) fun t21=>
opW (zba t21 H17) fun t22 H22=>
opP ((zta P .leq 3 true).f t22 (.int .i64 1)) fun t23=>
opP (zra t19 t23 (.bool false)) fun t24=>
wIf t24 (
opP (zda 3 t1) fun t26=>
opW (zna 36 t26 H22) fun t27 H27=>
wCall P zIc [t27] H27 fun t28 H29=>
opP (zra t24 t28 (.bool false)) fun t29=>
K t29 H29) (
opP (zra t24 undef (.bool false)) fun t29_1=>
K t29_1 H22)) (
opP (zra t19 undef (.bool false)) fun t24_1=>
opP (zra t24_1 undef (.bool false)) fun t29_2=>
K t29_2 H17)) (
opP (zra t14 undef (.bool false)) fun t19_1=>
opP (zra t19_1 undef (.bool false)) fun t24_2=>
opP (zra t24_2 undef (.bool false)) fun t29_3=>
K t29_3 H12)) (
opP (zra t9 undef (.bool false)) fun t14_1=>
opP (zra t14_1 undef (.bool false)) fun t19_2=>
opP (zra t19_2 undef (.bool false)) fun t24_3=>
opP (zra t24_3 undef (.bool false)) fun t29_4=>
K t29_4 H8)) (
opP ((zta P .eql 3 true).f t4 (.int .i64 2)) fun t31=>
wIf t31 (
opP (zda 1 t1) fun t32=>
opW (zba t32 H4) fun t33 H44=>
opP ((zta P .eql 3 true).f t33 (.int .i64 0)) fun t34=>
wIf t34 (
opP (zda 39 t1) fun t36=>
opW (zba t36 H44) fun t37 H48=>
opP ((zta P .eql 23 true).f t37 (.int .u64 0)) fun t38=>
opP (zra t34 t38 (.bool false)) fun t39=>
wIf t39 (
opP (zda 3 t1) fun t41=>
opW (zna 36 t41 H48) fun t42 H53=>
opP ((zDa P 27).f []) fun t43=>
opP ((zta P .eql 27 false).f t42 t43) fun t44=>
opP (zra t39 t44 (.bool false)) fun t45=>
wIf t45 (
opP (zda 2 t1) fun t47=>
opW (zba t47 H53) fun t48 H59=>
opP ((zta P .geq 3 true).f t48 (.int .i64 0)) fun t49=>
opP (zra t45 t49 (.bool false)) fun t50=>
wIf t50 (
opP (zda 2 t1) fun t52=>
opW (zba t52 H59) fun t53 H64=>
opP ((zta P .leq 3 true).f t53 (.int .i64 1)) fun t54=>
opP (zra t50 t54 (.bool false)) fun t55=>
K t55 H64) (
opP (zra t50 undef (.bool false)) fun t55_1=>
K t55_1 H59)) (
opP (zra t45 undef (.bool false)) fun t50_1=>
opP (zra t50_1 undef (.bool false)) fun t55_2=>
K t55_2 H53)) (
opP (zra t39 undef (.bool false)) fun t45_1=>
opP (zra t45_1 undef (.bool false)) fun t50_2=>
opP (zra t50_2 undef (.bool false)) fun t55_3=>
K t55_3 H48)) (
opP (zra t34 undef (.bool false)) fun t39_1=>
opP (zra t39_1 undef (.bool false)) fun t45_2=>
opP (zra t45_2 undef (.bool false)) fun t50_3=>
opP (zra t50_3 undef (.bool false)) fun t55_4=>
K t55_4 H44)) (
opP ((zta P .eql 3 true).f t4 (.int .i64 3)) fun t57=>
wIf t57 (
opP (zda 1 t1) fun t58=>
opW (zba t58 H4) fun t59 H80=>
opP ((zta P .eql 3 true).f t59 (.int .i64 0)) fun t60=>
wIf t60 (
opP (zda 39 t1) fun t62=>
opW (zba t62 H80) fun t63 H84=>
opP ((zta P .eql 23 true).f t63 (.int .u64 0)) fun t64=>
opP (zra t60 t64 (.bool false)) fun t65=>
wIf t65 (
opP (zda 3 t1) fun t67=>
opW (zna 36 t67 H84) fun t68 H89=>
opP ((zDa P 27).f []) fun t69=>
opP ((zta P .eql 27 false).f t68 t69) fun t70=>
opP (zra t65 t70 (.bool false)) fun t71=>
wIf t71 (
opP (zda 2 t1) fun t73=>
opW (zba t73 H89) fun t74 H95=>
opP ((zta P .geq 3 true).f t74 (.int .i64 (-1))) fun t75=>
opP (zra t71 t75 (.bool false)) fun t76=>
wIf t76 (
opP (zda 2 t1) fun t78=>
opW (zba t78 H95) fun t79 H100=>
opP ((zta P .leq 3 true).f t79 (.int .i64 1)) fun t80=>
opP (zra t76 t80 (.bool false)) fun t81=>
K t81 H100) (
opP (zra t76 undef (.bool false)) fun t81_1=>
K t81_1 H95)) (
opP (zra t71 undef (.bool false)) fun t76_1=>
opP (zra t76_1 undef (.bool false)) fun t81_2=>
K t81_2 H89)) (
opP (zra t65 undef (.bool false)) fun t71_1=>
opP (zra t71_1 undef (.bool false)) fun t76_2=>
opP (zra t76_2 undef (.bool false)) fun t81_3=>
K t81_3 H84)) (
opP (zra t60 undef (.bool false)) fun t65_1=>
opP (zra t65_1 undef (.bool false)) fun t71_2=>
opP (zra t71_2 undef (.bool false)) fun t76_3=>
opP (zra t76_3 undef (.bool false)) fun t81_4=>
K t81_4 H80)) (
opP ((zta P .eql 3 true).f t4 (.int .i64 4)) fun t83=>
wIf t83 (
opP (zda 1 t1) fun t84=>
opW (zba t84 H4) fun t85 H116=>
opP ((zta P .eql 3 true).f t85 (.int .i64 0)) fun t86=>
wIf t86 (
opP (zda 2 t1) fun t88=>
opW (zba t88 H116) fun t89 H120=>
opP ((zta P .eql 3 true).f t89 (.int .i64 0)) fun t90=>
opP (zra t86 t90 (.bool false)) fun t91=>
wIf t91 (
opP (zda 3 t1) fun t93=>
opW (zna 36 t93 H120) fun t94 H125=>
opP ((zDa P 27).f []) fun t95=>
opP ((zta P .eql 27 false).f t94 t95) fun t96=>
opP (zra t91 t96 (.bool false)) fun t97=>
wIf t97 (
opP (zda 39 t1) fun t99=>
opW (zba t99 H125) fun t100 H131=>
opP ((zta P .leq 23 true).f t100 (.int .u64 281474976710656)) fun t101=>
opP (zra t97 t101 (.bool false)) fun t102=>
K t102 H131) (
opP (zra t97 undef (.bool false)) fun t102_1=>
K t102_1 H125)) (
opP (zra t91 undef (.bool false)) fun t97_1=>
opP (zra t97_1 undef (.bool false)) fun t102_2=>
K t102_2 H120)) (
opP (zra t86 undef (.bool false)) fun t91_1=>
opP (zra t91_1 undef (.bool false)) fun t97_2=>
opP (zra t97_2 undef (.bool false)) fun t102_3=>
K t102_3 H116)) (
K (.bool false) H4))))
theorem zFy{t0:Value}{H:Heap}{K:VH}(h:zEy t0 H K):wCall P znm [t0] H K:=zea rfl (Eq.mpr (by kernel_rfl) h)
def zNs(t0:Value)(H:Heap)(K:VH):Prop:=
zDb (zGa t0) H fun t1 H1=>
opP (zda 0 t1) fun t5=>
opW (zba t5 H1) fun t6 H4=>
opP ((zDa P 74).f [(0,t6)]) fun t7=>
zDb (zc P 74) H4 fun t3 H7=>
opW (zla 40 t3 t7 H7) fun u H9=>
zhb (fun J=>
opP (zda 0 t1) fun t8=>
opW (zba t8 H9) fun t9 H13=>
opP ((zta P .eql 3 true).f t9 (.int .i64 1)) fun t11=>
wIf t11 (
opP (zda 1 t1) fun t12=>
opW (zba t12 H13) fun t13 H17=>
opP (zda 3 t1) fun t14=>
opW (zna 36 t14 H17) fun t15 H20=>
opP (zda 1 t3) fun t16=>
opW (zla 1 t16 t13 H20) fun u_1 H23=>
zPj (zVa [t14]) (zVa [t16,t13])∧(opP (zda 3 t3) fun t17=>
opW (zla 36 t17 t15 H23) fun u_2 H26=>
opP (zda 1 t1) fun t18=>
opW (zba t18 H26) fun t19 H29=>
wCall P zJc [t19] H29 fun t20 H31=>
wIf t20 (
opP (zda 3 t1) fun t22=>
opW (zna 36 t22 H31) fun t23 H34=>
wCall P zsd [t23] H34 fun t24 H36=>
opP (zra t20 t24 (.bool false)) fun t25=>
J [t1,t3,t25] H36) (
opP (zra t20 undef (.bool false)) fun t25_1=>
J [t1,t3,t25_1] H31))) (
opP ((zta P .eql 3 true).f t9 (.int .i64 2)) fun t27=>
wIf t27 (
opP (zda 2 t1) fun t28=>
opW (zba t28 H13) fun t29 H42=>
opP (zda 2 t3) fun t30=>
opW (zla 1 t30 t29 H42) fun u_3 H45=>
opP (zda 2 t1) fun t31=>
opW (zba t31 H45) fun t32 H48=>
wCall P zJc [t32] H48 fun t33 H50=>
J [t1,t3,t33] H50) (
opP ((zta P .eql 3 true).f t9 (.int .i64 3)) fun t35=>
wIf t35 (
opP (zda 2 t1) fun t36=>
opW (zba t36 H13) fun t37 H54=>
opP (zda 2 t3) fun t38=>
opW (zla 1 t38 t37 H54) fun u_4 H57=>
opP (zda 2 t1) fun t39=>
opW (zba t39 H57) fun t40 H60=>
opP ((zta P .eql 3 true).f t40 (.int .i64 (-1))) fun t41=>
wIf t41 (
opP (zra t41 (.bool true) undef) fun t46=>
J [t1,t3,t46] H60) (
opP (zda 2 t1) fun t43=>
opW (zba t43 H60) fun t44 H65=>
wCall P zJc [t44] H65 fun t45 H67=>
opP (zra t41 (.bool true) t45) fun t46_1=>
J [t1,t3,t46_1] H67)) (
opP ((zta P .eql 3 true).f t9 (.int .i64 4)) fun t48=>
wIf t48 (
opP (zda 39 t1) fun t49=>
opW (zba t49 H13) fun t50 H72=>
opP (zda 39 t3) fun t51=>
opW (zla 1 t51 t50 H72) fun u_5 H75=>
opP (zda 39 t1) fun t52=>
opW (zba t52 H75) fun t53 H78=>
opP ((zta P .leq 23 true).f t53 (.int .u64 281474976710656)) fun t54=>
J [t1,t3,t54] H78) (
J [t1,t3,(.bool false)] H13))))) (fun l H81=>
wIf (nth l 2) (
opW (zna 40 (nth l 1) H81) fun t57 H83=>
opW (zna 40 (nth l 0) H83) fun t58 H85=>
opP ((zta P .eql 74 false).f t57 t58) fun t59=>
opP (zra (nth l 2) t59 (.bool false)) fun t60=>
K t60 H85) (
opP (zra (nth l 2) undef (.bool false)) fun t60_1=>
K t60_1 H81))
theorem zeu{t0:Value}{H:Heap}{K:VH}(h:zNs t0 H K):wCall P zNe [t0] H K:=zea rfl (Eq.mpr (by kernel_rfl) h)
noncomputable abbrev zId:List Tmp × Code × Code:=rangeAt P zzf 0
def zUp(vals args:List Value)(l:Nat)(H:Heap)(K:VH):Prop:=
zPx l H fun H0=>
wCall P zGb [] H0 fun t19 H2=>
zDb (zc P 84) H2 fun t9 H4=>
opW (zla 64 t9 t19 H4) fun u H6=>
opP (zdc 64 1 t9 none none none H6) fun t20=>
opW (zdj 1 t20 (nth args 0) H6) fun t22 H9=>
opP (zUa 64 1 t9 (.int .i64 63)) fun t23=>
opW (zla 1 t23 (.int .u8 0) H9) fun u_1 H12=>
opW (zba (nth vals 0) H12) fun t24 H14=>
opW (zna 64 t9 H14) fun t25 H16=>
opW ((zpa P 79 1).f [(0,t25)] H16) fun t26 H18=>
opW (zva 64 64 t24 t26 H18) fun t27 H20=>
opW (zla 1 (nth vals 0) t27 H20) fun u_2 H22=>
zwK l .normal H22 K
theorem zOs(vals args:List Value)(l:Nat)(H:Heap)(K:VH):zZv P 29 zId.1 zId.2.1 zId.2.2 vals args l H K=zUp vals args l H K:=by kernel_rfl
def zGy(t0 t1 t2:Value)(H:Heap)(K:VH):Prop:=
opW (lenSl t2 H) fun t11 H1=>
opP ((zta P .gtr 3 true).f t11 (.int .i64 4000)) fun t12=>
wIf t12 (
K (.slice none 0 0) H1) (
zDb (zc P 79) H1 fun t7 H4=>
wCall P zMh [t0,t1,t2] H4 fun t16 H6=>
wCall P zoe [t16,(.int .i64 63)] H6 fun t17 H8=>
zOx P 29 zId.1 zId.2.1 zId.2.2 [t7,undef] t17 H8 (fun H9=>
opW (zba t7 H9) fun t28 H11=>
K t28 H11) (fun id H9=>
cond (Nat.beq id 0) (
opW (zba t7 H9) fun t28_1 H13=>
K t28_1 H13) (
False)) (fun H9=>
K (.slice none 0 0) H9))
theorem zHy{t0 t1 t2:Value}{H:Heap}{K:VH}(h:zGy t0 t1 t2 H K):wCall P zzf [t0,t1,t2] H K:=zea rfl (Eq.mpr (by kernel_rfl) h)
noncomputable abbrev zpe:Code:=zMa P zzb 0
def zqe(l:List Value)(H:Heap)(N:LN)(Qx:LX)(Qr:LN):Prop:=
opP ((zta P .lss 3 false).f (nth l 6) (nth l 5)) fun t15=>
wIf t15 (
opP (zWa 64 (nth l 4) (nth l 6)) fun t17=>
opW (zna 64 t17 H) fun t18 H3=>
zDb (zc P 84) H3 fun t10 H5=>
opW (zla 64 t10 t18 H5) fun u H7=>
opP (zca (nth l 0)) fun t20=>
opP (zda 0 t20) fun t21=>
opW (zba t21 H7) fun t22 H11=>
opP ((zta P .add 3 false).f (nth l 2) (nth l 6)) fun t26=>
opW (zna 64 t10 H11) fun t27 H14=>
wCall P zSe [t22,(nth l 1),t26,t27] H14 fun t28 H16=>
opP ((zta P .neq 43 true).f t28 (.int .i64 0)) fun t30=>
wIf t30 (
Qr [(nth l 0),t28] H16) (
opP ((zta P .add 3 true).f (nth l 6) (.int .i64 1)) fun t32=>
N [(nth l 0),(nth l 1),(nth l 2),(nth l 3),(nth l 4),(nth l 5),t32] H16)) (
Qx 0 [(nth l 0),(nth l 3)] H)
theorem zAg:LpI P 38 zpe 257 zqe:=.mk (by kernel_rfl) fun l H N Qx Qr=>by kernel_rfl
def zUf(t0 t1 t2 t3:Value)(H:Heap)(K:VH):Prop:=
opW (lenSl t3 H) fun t13 H1=>
zbb P true 38 zpe 257 [t0,t1,t2,(.int .i64 0),t3,t13,(.int .i64 0)] H1 (fun id l H3=>
cond (Nat.beq id 0) (
opP (zca (nth l 0)) fun t34=>
opP (zda 0 t34) fun t35=>
opW (zba t35 H3) fun t36 H7=>
wCall P zPe [t36] H7 fun t37 H9=>
K t37 H9) (
False)) (fun l H3=>
K (nth l 1) H3)
theorem zii{t0 t1 t2 t3:Value}{H:Heap}{K:VH}(h:zUf t0 t1 t2 t3 H K):wCall P zzb [t0,t1,t2,t3] H K:=zea rfl (Eq.mpr (by kernel_rfl) h)
noncomputable abbrev zJn:Code:=zMa P zSa 0
def zKn(l:List Value)(H:Heap)(N:LN)(Qx:LX)(Qr:LN):Prop:=
opP ((zta P .lss 3 false).f (nth l 4) (nth l 3)) fun t13=>
wIf t13 (
opW (zob .u8 (nth l 0) H) fun t16 H2=>
opW ((zpa P 50 1).f [(0,t16)] H2) fun t17 H4=>
opW (zva 1 1 (nth l 2) t17 H4) fun t18 H6=>
opP ((zta P .shr 23 true).f (nth l 0) (.int .u64 8)) fun t20=>
opP ((zta P .add 3 true).f (nth l 4) (.int .i64 1)) fun t21=>
N [t20,(nth l 1),t18,(nth l 3),t21] H6) (
Qx 0 [(nth l 1),(nth l 2)] H)
theorem zPo:LpI P 23 zJn 192 zKn:=.mk (by kernel_rfl) fun l H N Qx Qr=>by kernel_rfl
def zhv(t0 t1 t2:Value)(H:Heap)(K:VH):Prop:=
wCall P zvb [t0] H fun t9 H1=>
wCall P zyg [t2] H1 fun t11 H3=>
zbb P true 23 zJn 192 [t1,(.slice none 0 0),t9,t11,(.int .i64 0)] H3 (fun id l H5=>
cond (Nat.beq id 0) (
K (nth l 1) H5) (
False)) (fun l H5=>
K (nth l 0) H5)
theorem zCw{t0 t1 t2:Value}{H:Heap}{K:VH}(h:zhv t0 t1 t2 H K):wCall P zSa [t0,t1,t2] H K:=zea rfl (Eq.mpr (by kernel_rfl) h)
def zeC(t0 t1:Value)(H:Heap)(K:VH):Prop:=
wCall P zfb [t1] H fun t7 H1=>
opW ((zpa P 87 2).f [(0,t0),(1,t7)] H1) fun t8 H3=>
wCall P zfb [t8] H3 fun t9 H5=>
K t9 H5
theorem zAA{t0 t1:Value}{H:Heap}{K:VH}(h:zeC t0 t1 H K):wCall P zAf [t0,t1] H K:=zea rfl (Eq.mpr (by kernel_rfl) h)
def ziv(t0:Value)(H:Heap)(K:VH):Prop:=
zDb (zGa t0) H fun t1 H1=>
opW (zna 36 t1 H1) fun t4 H3=>
wCall P zsd [t4] H3 fun t5 H5=>
opP (unA .not t5) fun t6=>
wIf t6 (
K (.slice none 0 0) H5) (
opP (zda 0 t1) fun t7=>
opW (zba t7 H5) fun t8 H9=>
opW (zob .u64 t8 H9) fun t9 H11=>
wCall P zSa [(.slice none 0 0),t9,(.int .i64 1)] H11 fun t10 H13=>
opP (zda 1 t1) fun t11=>
opW (zba t11 H13) fun t12 H16=>
zhc (zWb H11 H13) (zVa [t11])∧(opW (zob .u64 t12 H16) fun t13 H18=>
wCall P zSa [t10,t13,(.int .i64 1)] H18 fun t14 H20=>
opP (zda 2 t1) fun t16=>
opW (zba t16 H20) fun t17 H23=>
wCall P zSa [t14,t17,(.int .i64 8)] H23 fun t18 H25=>
opP (zda 3 t1) fun t19=>
opW (zba t19 H25) fun t20 H28=>
zhc (zWb H23 H25) (zVa [t19])∧(opW (zob .u64 t20 H28) fun t21 H30=>
wCall P zSa [t18,t21,(.int .i64 4)] H30 fun t22 H32=>
opP (zda 4 t1) fun t24=>
opP (zdc 32 1 t24 none none none H32) fun t25=>
opW ((zpa P 87 1).f [(0,t25)] H32) fun t26 H36=>
wCall P zAf [t22,t26] H36 fun t27 H38=>
K t27 H38)))
theorem zDw{t0:Value}{H:Heap}{K:VH}(h:ziv t0 H K):wCall P zRf [t0] H K:=zea rfl (Eq.mpr (by kernel_rfl) h)
def zog(t0 t1:Value)(H:Heap)(K:VH):Prop:=
wCall P zvh [t1] H fun t7 H1=>
opP ((zta P .gtr 3 true).f t7 (.int .i64 0)) fun t9=>
wIf t9 (
opP (zca t0) fun t13=>
opP (zda 0 t13) fun t14=>
opW (zba t14 H1) fun t15 H6=>
opP (zca t0) fun t17=>
opP (zda 1 t17) fun t18=>
opP (zUa 2 1 t18 (.int .i64 0)) fun t19=>
opW (zba t19 H6) fun t20 H11=>
wCall P zLb [t15,t20] H11 fun t21 H13=>
opP (zca t0) fun t23=>
opP (zda 0 t23) fun t24=>
opW (zba t24 H13) fun t25 H17=>
zhc (zWb H11 H13) (zVa [t24])∧(opP (zca t0) fun t27=>
opP (zda 1 t27) fun t28=>
opP (zUa 2 1 t28 (.int .i64 1)) fun t29=>
opW (zba t29 H17) fun t30 H22=>
zhc (zWb H11 H13) (zVa [t29])∧(wCall P zLb [t25,t30] H22 fun t31 H24=>
opW (zwe H24 (zyG [t21,t31])) fun t32 H26=>
opP ((zta P .leq 3 false).f t7 t32) fun t33=>
opP (zra t9 t33 (.bool false)) fun t34=>
K t34 H26))) (
opP (zra t9 undef (.bool false)) fun t34_1=>
K t34_1 H1)
theorem zWi{t0 t1:Value}{H:Heap}{K:VH}(h:zog t0 t1 H K):wCall P zbd [t0,t1] H K:=zea rfl (Eq.mpr (by kernel_rfl) h)
noncomputable abbrev zmj:Code:=zMa P zOe 0
def znj(l:List Value)(H:Heap)(N:LN)(Qx:LX)(Qr:LN):Prop:=
opP ((zta P .lss 3 false).f (nth l 4) (nth l 3)) fun t17=>
wIf t17 (
wCall P zrd [(nth l 0),(nth l 1),(nth l 4)] H fun t23 H2=>
opP (zjc 0 t23) fun t24=>
opP (zjc 1 t23) fun t25=>
zDb (zc P 84) H2 fun t6 H6=>
opW (zla 64 t6 t24 H6) fun u H8=>
opW (zna 64 t6 H8) fun t26 H10=>
wCall P zGb [] H10 fun t27 H12=>
zhc (zWb H10 H12) (zVa [t6])∧(opP ((zta P .eql 84 false).f t26 t27) fun t28=>
wIf t28 (
opP ((zta P .add 3 true).f (nth l 4) (.int .i64 1)) fun t36=>
N [(nth l 0),(nth l 1),(nth l 2),(nth l 3),t36] H12) (
wCall P zfg [(nth l 0),(nth l 1),(nth l 4)] H12 fun t32 H16=>
opP ((zta P .neq 43 true).f t32 (.int .i64 0)) fun t34=>
wIf t34 (
Qr [t32] H16) (
opP ((zta P .add 3 true).f (nth l 4) (.int .i64 1)) fun t36_1=>
N [(nth l 0),(nth l 1),(nth l 2),(nth l 3),t36_1] H16)))) (
Qx 0 [(nth l 2)] H)
theorem zhl:LpI P 37 zmj 16 znj:=.mk (by kernel_rfl) fun l H N Qx Qr=>by kernel_rfl
def zLn(t0 t1:Value)(H:Heap)(K:VH):Prop:=
wCall P zYd [t0,t1] H fun t11 H1=>
opP (unA .not t11) fun t12=>
wIf t12 (
K (.int .i64 71) H1) (
wCall P zLb [t0,t1] H1 fun t15 H4=>
zbb P true 37 zmj 16 [t0,t1,(.int .i64 0),t15,(.int .i64 0)] H4 (fun id l H6=>
cond (Nat.beq id 0) (
K (.int .i64 0) H6) (
False)) (fun l H6=>
K (nth l 0) H6))
theorem zJq{t0 t1:Value}{H:Heap}{K:VH}(h:zLn t0 t1 H K):wCall P zOe [t0,t1] H K:=zea rfl (Eq.mpr (by kernel_rfl) h)
def zMn(t0:Value)(H:Heap)(K:VH):Prop:=
opP (zca t0) fun t4=>
opP (zda 0 t4) fun t5=>
opW (zba t5 H) fun t6 H3=>
wCall P zMc [t6] H3 fun t7 H5=>
K t7 H5
theorem zKq{t0:Value}{H:Heap}{K:VH}(h:zMn t0 H K):wCall P zPe [t0] H K:=zea rfl (Eq.mpr (by kernel_rfl) h)
noncomputable abbrev zVp:Code:=zMa P zTg 0
noncomputable abbrev zjk:Code:=zMa P zTg 1
def zWp(l:List Value)(H:Heap)(N:LN)(Qx:LX)(Qr:LN):Prop:=
opW (lenSl (nth l 2) H) fun t23 H1=>
opP ((zta P .lss 3 false).f (nth l 3) t23) fun t24=>
wIf t24 (
opP ((zDa P 84).f []) fun t27=>
zDb (zc P 84) H1 fun t10 H5=>
opW (zla 64 t10 t27 H5) fun u H7=>
zbb P true 45 zjk 1984 [(nth l 0),(nth l 1),(nth l 2),(nth l 3),t10,(.int .i64 0)] H7 (fun id l_1 H9=>
cond (Nat.beq id 2) (
opW (zna 64 (nth l_1 4) H9) fun t41 H11=>
opW ((zpa P 79 1).f [(0,t41)] H11) fun t42 H13=>
opW (zva 64 64 (nth l_1 1) t42 H13) fun t43 H15=>
opP ((zta P .add 3 true).f (nth l_1 3) (.int .i64 64)) fun t26=>
N [(nth l_1 0),t43,(nth l_1 2),t26] H15) (
cond (Nat.beq id 1) (
opP ((zta P .add 3 true).f (nth l_1 3) (.int .i64 64)) fun t26_1=>
N [(nth l_1 0),(nth l_1 1),(nth l_1 2),t26_1] H9) (
Qx id [(nth l_1 0),(nth l_1 1)] H9))) (fun l_1 H9=>
Qr [(nth l_1 0),(nth l_1 1)] H9)) (
Qx 0 [(nth l 0),(nth l 1)] H1)
theorem zLq:LpI P 45 zVp 192 zWp:=.mk (by kernel_rfl) fun l H N Qx Qr=>by kernel_rfl
def zXp(l:List Value)(H:Heap)(N:LN)(Qx:LX)(Qr:LN):Prop:=
opP ((zta P .lss 3 true).f (nth l 5) (.int .i64 64)) fun t29=>
wIf t29 (
opP ((zta P .add 3 false).f (nth l 3) (nth l 5)) fun t35=>
opP (zWa 1 (nth l 2) t35) fun t36=>
opW (zba t36 H) fun t37 H4=>
opP (zUa 64 1 (nth l 4) (nth l 5)) fun t38=>
opW (zla 1 t38 t37 H4) fun u H7=>
opP ((zta P .add 3 true).f (nth l 5) (.int .i64 1)) fun t39=>
N [(nth l 0),(nth l 1),(nth l 2),(nth l 3),(nth l 4),t39] H7) (
Qx 2 [(nth l 0),(nth l 1),(nth l 2),(nth l 3),(nth l 4)] H)
theorem zMq:LpI P 45 zjk 1984 zXp:=.mk (by kernel_rfl) fun l H N Qx Qr=>by kernel_rfl
def zIy(t0 t1 t2:Value)(H:Heap)(K:VH):Prop:=
opW ((zpa P 79 0).f [] H) fun t12 H1=>
opW (lenSl t2 H1) fun t14 H3=>
opP ((zta P .gtr 3 true).f t14 (.int .i64 4000)) fun t15=>
wIf t15 (
K t12 H3) (
wCall P zRe [t0,t1,t2] H3 fun t20 H6=>
zbb P true 45 zVp 192 [(.slice none 0 0),t12,t20,(.int .i64 0)] H6 (fun id l H8=>
cond (Nat.beq id 0) (
K (nth l 1) H8) (
False)) (fun l H8=>
K (nth l 0) H8))
theorem zJy{t0 t1 t2:Value}{H:Heap}{K:VH}(h:zIy t0 t1 t2 H K):wCall P zTg [t0,t1,t2] H K:=zea rfl (Eq.mpr (by kernel_rfl) h)
def zNn(t0 t1 t2 t3:Value)(H:Heap)(K:VH):Prop:=
zDb (zGa t3) H fun t7 H1=>
wCall P zFd [t0,t1,t2] H1 fun t15 H3=>
opP (zjc 0 t15) fun t16=>
opP (zjc 1 t15) fun t17=>
zhb (fun J=>
opP ((zta P .eql 3 true).f t17 (.int .i64 0)) fun t19=>
wIf t19 (
opP (zca t0) fun t21=>
opP (zda 0 t21) fun t22=>
opW (zba t22 H3) fun t23 H11=>
opW (zna 64 t7 H11) fun t25 H13=>
wCall P zVg [t23,t16,t25] H13 fun t26 H15=>
J [t0,t1,t2,t26] H15) (
J [t0,t1,t2,t17] H3)) (fun l H17=>
opP ((zta P .eql 3 true).f (nth l 3) (.int .i64 0)) fun t28=>
wIf t28 (
opP (zca (nth l 0)) fun t31=>
opP (zda 3 t31) fun t32=>
opW (zba t32 H17) fun t33 H22=>
opP (zca (nth l 0)) fun t37=>
opP (zda 2 t37) fun t38=>
opW (zba t38 H22) fun t39 H26=>
opP ((zDa P 124).f [(0,(.int .i64 2)),(1,(nth l 1)),(2,(nth l 2)),(3,t39)]) fun t40=>
opW ((zpa P 39 1).f [(0,t40)] H26) fun t41 H29=>
opW (zva 4 32 t33 t41 H29) fun t42 H31=>
opP (zca (nth l 0)) fun t43=>
opP (zda 3 t43) fun t44=>
opW (zla 1 t44 t42 H31) fun u H35=>
K (nth l 3) H35) (
K (nth l 3) H17))
theorem zNq{t0 t1 t2 t3:Value}{H:Heap}{K:VH}(h:zNn t0 t1 t2 t3 H K):wCall P zUg [t0,t1,t2,t3] H K:=zea rfl (Eq.mpr (by kernel_rfl) h)
def zPs(t0 t1 t2:Value)(H:Heap)(K:VH):Prop:=
wCall P zFd [t0,t1,t2] H fun t13 H1=>
opP (zjc 0 t13) fun t14=>
opP (zjc 1 t13) fun t15=>
zhb (fun J=>
opP ((zta P .eql 3 true).f t15 (.int .i64 0)) fun t17=>
wIf t17 (
opP (zca t0) fun t19=>
opP (zda 0 t19) fun t20=>
opW (zba t20 H1) fun t21 H9=>
wCall P zRi [t21,t14] H9 fun t23 H11=>
J [t0,t1,t2,t23] H11) (
J [t0,t1,t2,t15] H1)) (fun l H13=>
opP ((zta P .eql 3 true).f (nth l 3) (.int .i64 0)) fun t25=>
wIf t25 (
opP (zca (nth l 0)) fun t28=>
opP (zda 3 t28) fun t29=>
opW (zba t29 H13) fun t30 H18=>
opP (zca (nth l 0)) fun t34=>
opP (zda 2 t34) fun t35=>
opW (zba t35 H18) fun t36 H22=>
opP ((zDa P 124).f [(0,(.int .i64 1)),(1,(nth l 1)),(2,(nth l 2)),(3,t36)]) fun t37=>
opW ((zpa P 39 1).f [(0,t37)] H22) fun t38 H25=>
opW (zva 4 32 t30 t38 H25) fun t39 H27=>
opP (zca (nth l 0)) fun t40=>
opP (zda 3 t40) fun t41=>
opW (zla 1 t41 t39 H27) fun u H31=>
K (nth l 3) H31) (
K (nth l 3) H13))
theorem zfu{t0 t1 t2:Value}{H:Heap}{K:VH}(h:zPs t0 t1 t2 H K):wCall P zQi [t0,t1,t2] H K:=zea rfl (Eq.mpr (by kernel_rfl) h)
def zQs(t0:Value)(H:Heap)(K:VH):Prop:=
zhb (fun J=>
opP (zca t0) fun t4=>
opP (zda 4 t4) fun t5=>
opW (zba t5 H) fun t6 H4=>
wIf t6 (
opP (zca t0) fun t9=>
opP (zda 5 t9) fun t10=>
opW (zba t10 H4) fun t11 H8=>
opP ((zta P .eql 3 true).f t11 (.int .i64 0)) fun t12=>
opP (zra t6 t12 (.bool false)) fun t13=>
J [t0,t13] H8) (
opP (zra t6 undef (.bool false)) fun t13_1=>
J [t0,t13_1] H4)) (fun l H13=>
wIf (nth l 1) (
opP (zca (nth l 0)) fun t15=>
opP (zda 6 t15) fun t16=>
opW (zla 1 t16 (.bool true) H13) fun u H17=>
K (.bool false) H17) (
opP (zca (nth l 0)) fun t18=>
opP (zda 4 t18) fun t19=>
opW (zba t19 H13) fun t20 H21=>
wIf t20 (
opP (zca (nth l 0)) fun t22=>
opP (zda 5 t22) fun t23=>
opW (zba t23 H21) fun t24 H25=>
opP ((zta P .sub 3 true).f t24 (.int .i64 1)) fun t25=>
opP (zca (nth l 0)) fun t26=>
opP (zda 5 t26) fun t27=>
opW (zla 1 t27 t25 H25) fun u_1 H30=>
K (.bool true) H30) (
K (.bool true) H21)))
theorem zgu{t0:Value}{H:Heap}{K:VH}(h:zQs t0 H K):wCall P zQe [t0] H K:=zea rfl (Eq.mpr (by kernel_rfl) h)
def zji(t0 t1:Value)(H:Heap)(K:VH):Prop:=
zhb (fun J=>
opP ((zta P .lss 3 true).f t1 (.int .i64 0)) fun t6=>
wIf t6 (
opP (zra t6 (.bool true) undef) fun t15=>
wIf t15 (
K (.pointer none) H) (
J [t0,t1] H)) (
opP (zca t0) fun t10=>
opP (zda 0 t10) fun t11=>
opW (zba t11 H) fun t12 H6=>
opW (lenSl t12 H6) fun t13 H8=>
opP ((zta P .geq 3 false).f t1 t13) fun t14=>
opP (zra t6 (.bool true) t14) fun t15_1=>
wIf t15_1 (
K (.pointer none) H8) (
J [t0,t1] H8))) (fun l H12=>
opP (zca (nth l 0)) fun t17=>
opP (zda 0 t17) fun t18=>
opW (zba t18 H12) fun t19 H16=>
opP (zWa 129 t19 (nth l 1)) fun t21=>
K t21 H16)
theorem zil{t0 t1:Value}{H:Heap}{K:VH}(h:zji t0 t1 H K):wCall P zbc [t0,t1] H K:=zea rfl (Eq.mpr (by kernel_rfl) h)
def zfC(t0 t1:Value)(H:Heap)(K:VH):Prop:=
opP ((zta P .geq 3 true).f t1 (.int .i64 0)) fun t6=>
wIf t6 (
opP (zca t0) fun t10=>
opP (zda 0 t10) fun t11=>
opW (zba t11 H) fun t12 H4=>
opW (lenSl t12 H4) fun t13 H6=>
opP ((zta P .lss 3 false).f t1 t13) fun t14=>
opP (zra t6 t14 (.bool false)) fun t15=>
K t15 H6) (
opP (zra t6 undef (.bool false)) fun t15_1=>
K t15_1 H)
theorem zBA{t0 t1:Value}{H:Heap}{K:VH}(h:zfC t0 t1 H K):wCall P zSk [t0,t1] H K:=zea rfl (Eq.mpr (by kernel_rfl) h)
def zkk(t0 t1:Value)(H:Heap)(K:VH):Prop:=
wCall P zjd [t0,t1] H fun t7 H1=>
wCall P zvb [t7] H1 fun t8 H3=>
K t8 H3
theorem zOn{t0 t1:Value}{H:Heap}{K:VH}(h:zkk t0 t1 H K):wCall P zAc [t0,t1] H K:=zea rfl (Eq.mpr (by kernel_rfl) h)
def zjv(t0:Value)(H:Heap)(K:VH):Prop:=
zhb (fun J=>
opP ((zta P .lss 3 true).f t0 (.int .i64 0)) fun t4=>
wIf t4 (
opP (zra t4 (.bool true) undef) fun t8=>
wIf t8 (
K (.int .i64 0) H) (
J [t0] H)) (
opP ((zta P .gtr 3 true).f t0 (.int .i64 4000)) fun t7=>
opP (zra t4 (.bool true) t7) fun t8_1=>
wIf t8_1 (
K (.int .i64 0) H) (
J [t0] H))) (fun l H6=>
opP ((zta P .add 3 true).f (.int .i64 13) (nth l 0)) fun t10=>
opP ((zta P .add 3 true).f t10 (.int .i64 4)) fun t11=>
opP ((zta P .add 3 true).f t11 (.int .i64 63)) fun t12=>
opP ((zta P .sub 3 true).f t12 (.int .i64 1)) fun t13=>
opP ((zta P .quo 3 true).f t13 (.int .i64 63)) fun t14=>
K t14 H6)
theorem zEw{t0:Value}{H:Heap}{K:VH}(h:zjv t0 H K):wCall P zvh [t0] H K:=zea rfl (Eq.mpr (by kernel_rfl) h)
noncomputable abbrev zQl:Code:=zMa P zxg 0
def zRl(l:List Value)(H:Heap)(N:LN)(Qx:LX)(Qr:LN):Prop:=
opP ((zta P .lss 3 false).f (nth l 4) (nth l 3)) fun t9=>
wIf t9 (
opP (zWa 64 (nth l 2) (nth l 4)) fun t10=>
opW (zna 64 t10 H) fun t11 H3=>
zDb (zc P 84) H3 fun t5 H5=>
opW (zla 64 t5 t11 H5) fun u H7=>
opP (zdc 64 1 t5 none (some (.int .i64 63)) none H7) fun t13=>
opW (zva 1 1 (nth l 1) t13 H7) fun t14 H10=>
opP ((zta P .add 3 true).f (nth l 4) (.int .i64 1)) fun t15=>
N [(nth l 0),t14,(nth l 2),(nth l 3),t15] H10) (
Qx 0 [(nth l 0),(nth l 1)] H)
theorem zPn:LpI P 17 zQl 12 zRl:=.mk (by kernel_rfl) fun l H N Qx Qr=>by kernel_rfl
def zRs(t0:Value)(H:Heap)(K:VH):Prop:=
opW (lenSl t0 H) fun t7 H1=>
zbb P true 17 zQl 12 [(.slice none 0 0),(.slice none 0 0),t0,t7,(.int .i64 0)] H1 (fun id l H3=>
cond (Nat.beq id 0) (
K (nth l 1) H3) (
False)) (fun l H3=>
K (nth l 0) H3)
theorem zhu{t0:Value}{H:Heap}{K:VH}(h:zRs t0 H K):wCall P zxg [t0] H K:=zea rfl (Eq.mpr (by kernel_rfl) h)
noncomputable abbrev zRb:Code:=zMa P zZa 0
def zSb(l:List Value)(H:Heap)(N:LN)(Qx:LX)(Qr:LN):Prop:=
opP ((zta P .lss 3 false).f (nth l 4) (nth l 3)) fun t14=>
wIf t14 (
opP (zWa 64 (nth l 0) (nth l 4)) fun t18=>
opW (zna 64 t18 H) fun t19 H3=>
opP (zWa 64 (nth l 1) (nth l 4)) fun t22=>
opW (zna 64 t22 H3) fun t23 H6=>
opP ((zta P .neq 84 false).f t19 t23) fun t24=>
wIf t24 (
Qr [(.bool false)] H6) (
opP ((zta P .add 3 true).f (nth l 4) (.int .i64 1)) fun t25=>
N [(nth l 0),(nth l 1),(nth l 2),(nth l 3),t25] H6)) (
Qx 0 [(nth l 2)] H)
theorem zdd:LpI P 26 zRb 16 zSb:=.mk (by kernel_rfl) fun l H N Qx Qr=>by kernel_rfl
def zkc(t0 t1:Value)(H:Heap)(K:VH):Prop:=
opW (lenSl t0 H) fun t7 H1=>
opW (lenSl t1 H1) fun t9 H3=>
opP ((zta P .neq 3 false).f t7 t9) fun t10=>
wIf t10 (
K (.bool false) H3) (
opW (lenSl t0 H3) fun t12 H6=>
zbb P true 26 zRb 16 [t0,t1,(.bool false),t12,(.int .i64 0)] H6 (fun id l H8=>
cond (Nat.beq id 0) (
K (.bool true) H8) (
False)) (fun l H8=>
K (nth l 0) H8))
theorem zPd{t0 t1:Value}{H:Heap}{K:VH}(h:zkc t0 t1 H K):wCall P zZa [t0,t1] H K:=zea rfl (Eq.mpr (by kernel_rfl) h)
def zkf(t0:Value)(H:Heap)(K:VH):Prop:=
opP ((zta P .eql 50 true).f t0 (.slice none 0 0)) fun t4=>
wIf t4 (
K (.slice none 0 0) H) (
opW ((zpa P 50 0).f [] H) fun t5 H2=>
opW (zva 1 1 t5 t0 H2) fun t7 H4=>
K t7 H4)
theorem zOh{t0:Value}{H:Heap}{K:VH}(h:zkf t0 H K):wCall P zvb [t0] H K:=zea rfl (Eq.mpr (by kernel_rfl) h)
def zlk(t0:Value)(H:Heap)(K:VH):Prop:=
opP (zca t0) fun t4=>
opP (zda 1 t4) fun t5=>
opW (zba t5 H) fun t6 H3=>
K t6 H3
theorem zQn{t0:Value}{H:Heap}{K:VH}(h:zlk t0 H K):wCall P zBc [t0] H K:=zea rfl (Eq.mpr (by kernel_rfl) h)
def zZd(t0:Value)(H:Heap)(K:VH):Prop:=
zDb (zGa t0) H fun t1 H1=>
K (.func (.func zdb) [].toArray [t1].toArray) H1
theorem zBg{t0:Value}{H:Heap}{K:VH}(h:zZd t0 H K):wCall P zud [t0] H K:=zea rfl (Eq.mpr (by kernel_rfl) h)
def zoj(t0 t1:Value)(H:Heap)(K:VH):Prop:=
opW (zwe H (zDG [t1,(.int .i64 0)])) fun t7 H1=>
zhb (fun J=>
opP (zca t0) fun t9=>
opP (zda 1 t9) fun t10=>
opW (zba t10 H1) fun t11 H6=>
opP ((zta P .neq 43 true).f t11 (.int .i64 0)) fun t12=>
wIf t12 (
opP (zra t12 (.bool true) undef) fun t21=>
J [t0,t7,t21] H6) (
opP (zca t0) fun t16=>
opP (zda 0 t16) fun t17=>
opW (zba t17 H6) fun t18 H12=>
opW (lenSl t18 H12) fun t19 H14=>
opP ((zta P .gtr 3 false).f t7 t19) fun t20=>
opP (zra t12 (.bool true) t20) fun t21_1=>
J [t0,t7,t21_1] H14)) (fun l H18=>
wIf (nth l 2) (
wCall P zTe [(nth l 0),(.int .i64 51)] H18 fun t23 H20=>
K (.slice none 0 0) H20) (
opP (zca (nth l 0)) fun t25=>
opP (zda 0 t25) fun t26=>
opW (zba t26 H18) fun t27 H24=>
opP (zLa 1 t27 none (some (nth l 1)) none) fun t29=>
opP (zca (nth l 0)) fun t32=>
opP (zda 0 t32) fun t33=>
opW (zba t33 H24) fun t34 H29=>
opP (zLa 1 t34 (some (nth l 1)) none none) fun t36=>
opP (zca (nth l 0)) fun t37=>
opP (zda 0 t37) fun t38=>
opW (zla 1 t38 t36 H29) fun u H34=>
K t29 H34))
theorem zum{t0 t1:Value}{H:Heap}{K:VH}(h:zoj t0 t1 H K):wCall P zjd [t0,t1] H K:=zea rfl (Eq.mpr (by kernel_rfl) h)
def zSs(t0:Value)(H:Heap)(K:VH):Prop:=
opW (zwe H (zyG [t0,(.int .i64 8)])) fun t4 H1=>
opW (zwe H1 (zDG [(.int .i64 0),t4])) fun t5 H3=>
K t5 H3
theorem ziu{t0:Value}{H:Heap}{K:VH}(h:zSs t0 H K):wCall P zyg [t0] H K:=zea rfl (Eq.mpr (by kernel_rfl) h)
noncomputable abbrev zSl:Code:=zMa P zRe 0
def zTl(l:List Value)(H:Heap)(N:LN)(Qx:LX)(Qr:LN):Prop:=
opP ((zta P .lss 3 false).f (nth l 4) (nth l 3)) fun t17=>
wIf t17 (
opP (zWa 1 (nth l 2) (nth l 4)) fun t19=>
opW (zba t19 H) fun t20 H3=>
opW ((zpa P 50 1).f [(0,t20)] H3) fun t23 H5=>
opW (zva 1 1 (nth l 1) t23 H5) fun t24 H7=>
opP ((zta P .rem 3 true).f (nth l 4) (.int .i64 63)) fun t26=>
opP ((zta P .eql 3 true).f t26 (.int .i64 62)) fun t27=>
wIf t27 (
opW ((zpa P 50 1).f [(0,(.int .u8 0))] H7) fun t29 H11=>
opW (zva 1 1 t24 t29 H11) fun t30 H13=>
opP ((zta P .add 3 true).f (nth l 4) (.int .i64 1)) fun t31=>
N [(nth l 0),t30,(nth l 2),(nth l 3),t31] H13) (
opP ((zta P .add 3 true).f (nth l 4) (.int .i64 1)) fun t31_1=>
N [(nth l 0),t24,(nth l 2),(nth l 3),t31_1] H7)) (
Qx 0 [(nth l 0),(nth l 1)] H)
theorem zRn:LpI P 33 zSl 192 zTl:=.mk (by kernel_rfl) fun l H N Qx Qr=>by kernel_rfl
def zTs(t0 t1 t2:Value)(H:Heap)(K:VH):Prop:=
opW ((zpa P 50 0).f [] H) fun t10 H1=>
wCall P zzg [t0,t1,t2] H1 fun t14 H3=>
opW (lenSl t14 H3) fun t15 H5=>
zbb P true 33 zSl 192 [(.slice none 0 0),t10,t14,t15,(.int .i64 0)] H5 (fun id l H7=>
cond (Nat.beq id 0) (
K (nth l 1) H7) (
False)) (fun l H7=>
K (nth l 0) H7)
theorem zju{t0 t1 t2:Value}{H:Heap}{K:VH}(h:zTs t0 t1 t2 H K):wCall P zRe [t0,t1,t2] H K:=zea rfl (Eq.mpr (by kernel_rfl) h)
def zlf(t0 t1:Value)(H:Heap)(K:VH):Prop:=
zDb (zGa t0) H fun t2 H1=>
zDb (zGa t1) H1 fun t3 H3=>
opW (zba t3 H3) fun t5 H5=>
opP ((zta P .lss 3 true).f t5 (.int .i64 1)) fun t6=>
wIf t6 (
False) (
K (.func (.func zpb) [].toArray [t2,t3].toArray) H5)
theorem zPh{t0 t1:Value}{H:Heap}{K:VH}(h:zlf t0 t1 H K):wCall P zoe [t0,t1] H K:=zea rfl (Eq.mpr (by kernel_rfl) h)
def zYp(t0 t1 t2:Value)(H:Heap)(K:VH):Prop:=
opW ((zpa P 50 2).f [(0,(.int .u8 66)),(1,(.int .u8 74))] H) fun t8 H1=>
opW (zhp t8 H1) fun t9 H3=>
opW ((zpa P 50 1).f [(0,t0)] H3) fun t11 H5=>
opW (zva 1 1 t9 t11 H5) fun t12 H7=>
wCall P zSa [t12,t1,(.int .i64 8)] H7 fun t15 H9=>
opW (lenSl t2 H9) fun t17 H11=>
opW (zob .u64 t17 H11) fun t18 H13=>
wCall P zSa [t15,t18,(.int .i64 2)] H13 fun t19 H15=>
opW ((zpa P 87 1).f [(0,t2)] H15) fun t21 H17=>
wCall P zAf [t19,t21] H17 fun t22 H19=>
opW ((zpa P 87 1).f [(0,t22)] H19) fun t25 H21=>
wCall P zcn [t25] H21 fun t26 H23=>
opW (zob .u64 t26 H23) fun t27 H25=>
wCall P zSa [t22,t27,(.int .i64 4)] H25 fun t28 H27=>
K t28 H27
theorem zUs{t0 t1 t2:Value}{H:Heap}{K:VH}(h:zYp t0 t1 t2 H K):wCall P zMh [t0,t1,t2] H K:=zea rfl (Eq.mpr (by kernel_rfl) h)
def zpj(t0 t1 t2 t3:Value)(H:Heap)(K:VH):Prop:=
zDb (zGa t3) H fun t7 H1=>
wCall P zSc [t0,t1,t2] H1 fun t15 H3=>
opP (zjc 0 t15) fun t16=>
opP (zjc 1 t15) fun t17=>
opP ((zta P .neq 43 true).f t17 (.int .i64 0)) fun t19=>
wIf t19 (
K t17 H3) (
opP ((zDa P 124).f [(0,(.int .i64 2)),(1,t1),(2,t2)]) fun t24=>
opP (zca t0) fun t26=>
opP (zda 0 t26) fun t27=>
opW (zba t27 H3) fun t28 H11=>
opW (zna 64 t7 H11) fun t30 H13=>
wCall P zcd [t28,t16,t30] H13 fun t31 H15=>
wCall P zUe [t0,t24,t31] H15 fun t32 H17=>
K t32 H17)
theorem zvm{t0 t1 t2 t3:Value}{H:Heap}{K:VH}(h:zpj t0 t1 t2 t3 H K):wCall P zSe [t0,t1,t2,t3] H K:=zea rfl (Eq.mpr (by kernel_rfl) h)
noncomputable abbrev zKd:Code:=zMa P zfb 0
noncomputable abbrev zLd:Code:=zMa P zfb 1
def zMd(l:List Value)(H:Heap)(N:LN)(Qx:LX)(Qr:LN):Prop:=
opP ((zta P .lss 3 false).f (nth l 5) (nth l 4)) fun t12=>
wIf t12 (
opP (zWa 1 (nth l 3) (nth l 5)) fun t13=>
opW (zba t13 H) fun t14 H3=>
opW (lenSl t14 H3) fun t17 H5=>
opP ((zta P .add 3 false).f (nth l 2) t17) fun t18=>
opP ((zta P .lss 3 true).f t18 (.int .i64 0)) fun t20=>
wIf t20 (
False) (
opP ((zta P .add 3 true).f (nth l 5) (.int .i64 1)) fun t22=>
N [(nth l 0),(nth l 1),t18,(nth l 3),(nth l 4),t22] H5)) (
Qx 0 [(nth l 0),(nth l 1),(nth l 2)] H)
theorem zVf:LpI P 36 zKd 13 zMd:=.mk (by kernel_rfl) fun l H N Qx Qr=>by kernel_rfl
def zNd(l:List Value)(H:Heap)(N:LN)(Qx:LX)(Qr:LN):Prop:=
opP ((zta P .lss 3 false).f (nth l 4) (nth l 3)) fun t28=>
wIf t28 (
opP (zWa 1 (nth l 2) (nth l 4)) fun t29=>
opW (zba t29 H) fun t30 H3=>
opW (zva 1 1 (nth l 1) t30 H3) fun t33 H5=>
opP ((zta P .add 3 true).f (nth l 4) (.int .i64 1)) fun t34=>
N [(nth l 0),t33,(nth l 2),(nth l 3),t34] H5) (
Qx 2 [(nth l 0),(nth l 1)] H)
theorem zWf:LpI P 36 zLd 68 zNd:=.mk (by kernel_rfl) fun l H N Qx Qr=>by kernel_rfl
def zaf(t0:Value)(H:Heap)(K:VH):Prop:=
opW (lenSl t0 H) fun t10 H1=>
zbb P true 36 zKd 13 [t0,(.slice none 0 0),(.int .i64 0),t0,t10,(.int .i64 0)] H1 (fun id l H3=>
cond (Nat.beq id 0) (
wCall P zNc [(.slice none 0 0),(nth l 2)] H3 fun t24 H5=>
opW (lenSl (nth l 0) H5) fun t26 H7=>
zbb P true 36 zLd 68 [(nth l 1),t24,(nth l 0),t26,(.int .i64 0)] H7 (fun id l_1 H9=>
cond (Nat.beq id 2) (
K (nth l_1 1) H9) (
False)) (fun l_1 H9=>
K (nth l_1 0) H9)) (
False)) (fun l H3=>
K (nth l 1) H3)
theorem zjh{t0:Value}{H:Heap}{K:VH}(h:zaf t0 H K):wCall P zfb [t0] H K:=zea rfl (Eq.mpr (by kernel_rfl) h)
def zUl(t0 t1 t2:Value)(H:Heap)(K:VH):Prop:=
wCall P zSc [t0,t1,t2] H fun t13 H1=>
opP (zjc 0 t13) fun t14=>
opP (zjc 1 t13) fun t15=>
opP ((zta P .neq 43 true).f t15 (.int .i64 0)) fun t17=>
wIf t17 (
K t15 H1) (
opP ((zDa P 124).f [(0,(.int .i64 1)),(1,t1),(2,t2)]) fun t22=>
opP (zca t0) fun t24=>
opP (zda 0 t24) fun t25=>
opW (zba t25 H1) fun t26 H9=>
wCall P zOd [t26,t14] H9 fun t28 H11=>
wCall P zUe [t0,t22,t28] H11 fun t29 H13=>
K t29 H13)
theorem zQo{t0 t1 t2:Value}{H:Heap}{K:VH}(h:zUl t0 t1 t2 H K):wCall P zfg [t0,t1,t2] H K:=zea rfl (Eq.mpr (by kernel_rfl) h)
noncomputable abbrev zpg:Code:=zMa P zMc 0
def zqg(l:List Value)(H:Heap)(N:LN)(Qx:LX)(Qr:LN):Prop:=
opP ((zta P .lss 3 false).f (nth l 4) (nth l 3)) fun t20=>
wIf t20 (
opP (zWa 65 (nth l 2) (nth l 4)) fun t21=>
opW (zna 65 t21 H) fun t22 H3=>
zDb (zc P 118) H3 fun t4 H5=>
opW (zla 65 t4 t22 H5) fun u H7=>
opP (zca (nth l 0)) fun t24=>
opP (zda 0 t24) fun t25=>
opW (zba t25 H7) fun t26 H11=>
opP (zda 0 t4) fun t27=>
opW (zba t27 H11) fun t28 H14=>
opP (zda 1 t4) fun t29=>
opW (zna 64 t29 H14) fun t30 H17=>
opP (zWa 129 t26 t28) fun t31=>
opP (zda 0 t31) fun t32=>
opW (zla 64 t32 t30 H17) fun u_1 H21=>
opP ((zta P .add 3 true).f (nth l 4) (.int .i64 1)) fun t33=>
N [(nth l 0),(nth l 1),(nth l 2),(nth l 3),t33] H21) (
Qx 0 [(nth l 0),(nth l 1)] H)
theorem zki:LpI P 37 zpg 5 zqg:=.mk (by kernel_rfl) fun l H N Qx Qr=>by kernel_rfl
def zli(t0:Value)(H:Heap)(K:VH):Prop:=
zhb (fun J=>
opP (zca t0) fun t6=>
opP (zda 4 t6) fun t7=>
opW (zba t7 H) fun t8 H4=>
wIf t8 (
opP (zra t8 (.bool true) undef) fun t13=>
wIf t13 (
K (.int .i64 62) H4) (
J [t0,(.int .i64 0)] H4)) (
wCall P zFb [t0] H4 fun t11 H7=>
opP (unA .not t11) fun t12=>
opP (zra t8 (.bool true) t12) fun t13_1=>
wIf t13_1 (
K (.int .i64 62) H7) (
J [t0,(.int .i64 0)] H7))) (fun l H11=>
opP (zca (nth l 0)) fun t15=>
opP (zda 1 t15) fun t16=>
opW (zba t16 H11) fun t17 H15=>
opW (lenSl t17 H15) fun t18 H17=>
zbb P true 37 zpg 5 [(nth l 0),(nth l 1),t17,t18,(.int .i64 0)] H17 (fun id l_1 H19=>
cond (Nat.beq id 0) (
opP (zca (nth l_1 0)) fun t35=>
opP (zda 1 t35) fun t36=>
opW (zla 1 t36 (.slice none 0 0) H19) fun u H23=>
K (.int .i64 0) H23) (
False)) (fun l_1 H19=>
K (nth l_1 1) H19))
theorem zjl{t0:Value}{H:Heap}{K:VH}(h:zli t0 H K):wCall P zMc [t0] H K:=zea rfl (Eq.mpr (by kernel_rfl) h)
def zSn(t0 t1 t2:Value)(H:Heap)(K:VH):Prop:=
zDb (zGa t2) H fun t5 H1=>
wCall P zQf [t0,t1] H1 fun t12 H3=>
opP (zjc 0 t12) fun t13=>
opP (zjc 1 t12) fun t14=>
zDb (zc P 84) H3 fun t7 H7=>
opW (zla 64 t7 t13 H7) fun u H9=>
opP ((zta P .neq 3 true).f t14 (.int .i64 0)) fun t16=>
wIf t16 (
K t14 H9) (
opP (zca t0) fun t19=>
opP (zda 6 t19) fun t20=>
opW (zba t20 H9) fun t21 H14=>
wIf t21 (
K (.int .i64 62) H14) (
opW (zna 64 t7 H14) fun t22 H16=>
wCall P zHc [] H16 fun t23 H18=>
zhc (zWb H16 H18) (zVa [t7])∧(opP ((zta P .neq 84 false).f t22 t23) fun t24=>
wIf t24 (
K (.int .i64 63) H18) (
wCall P zQe [t0] H18 fun t26 H21=>
opP (unA .not t26) fun t27=>
wIf t27 (
K (.int .i64 62) H21) (
opP (zca t0) fun t30=>
opP (zda 3 t30) fun t31=>
opW (zba t31 H21) fun t32 H26=>
opW (zna 64 t5 H26) fun t34 H28=>
opP ((zDa P 122).f [(0,t1),(1,t34)]) fun t35=>
opW ((zpa P 80 1).f [(0,t35)] H28) fun t36 H31=>
opW (zva 65 72 t32 t36 H31) fun t37 H33=>
opP (zca t0) fun t38=>
opP (zda 3 t38) fun t39=>
opW (zla 1 t39 t37 H33) fun u_1 H37=>
K (.int .i64 0) H37)))))
theorem zOq{t0 t1 t2:Value}{H:Heap}{K:VH}(h:zSn t0 t1 t2 H K):wCall P zVg [t0,t1,t2] H K:=zea rfl (Eq.mpr (by kernel_rfl) h)
def zVs(t0 t1:Value)(H:Heap)(K:VH):Prop:=
wCall P zSk [t0,t1] H fun t7 H1=>
opP (unA .not t7) fun t8=>
wIf t8 (
K (.int .i64 61) H1) (
opP (zca t0) fun t10=>
opP (zda 6 t10) fun t11=>
opW (zba t11 H1) fun t12 H6=>
wIf t12 (
K (.int .i64 62) H6) (
opP (zca t0) fun t14=>
opP (zda 1 t14) fun t15=>
opW (zba t15 H6) fun t16 H10=>
opP (zWa 1 t16 t1) fun t18=>
opW (zba t18 H10) fun t19 H13=>
opP (zca t0) fun t21=>
opP (zda 2 t21) fun t22=>
opW (zba t22 H13) fun t23 H17=>
opP ((zta P .eql 3 false).f t19 t23) fun t24=>
wIf t24 (
K (.int .i64 64) H17) (
wCall P zQe [t0] H17 fun t26 H20=>
opP (unA .not t26) fun t27=>
wIf t27 (
K (.int .i64 62) H20) (
opP (zca t0) fun t29=>
opP (zda 1 t29) fun t30=>
opW (zba t30 H20) fun t31 H25=>
opP (zWa 1 t31 t1) fun t33=>
opW (zba t33 H25) fun t34 H28=>
opP ((zta P .add 3 true).f t34 (.int .i64 1)) fun t35=>
opP (zWa 1 t31 t1) fun t36=>
opW (zla 1 t36 t35 H28) fun u H32=>
opP (zca t0) fun t39=>
opP (zda 3 t39) fun t40=>
opW (zba t40 H32) fun t41 H36=>
wCall P zHc [] H36 fun t43 H38=>
zhc (zWb H36 H38) (zVa [t40])∧(opP ((zDa P 122).f [(0,t1),(1,t43)]) fun t44=>
opW ((zpa P 80 1).f [(0,t44)] H38) fun t45 H41=>
opW (zva 65 72 t41 t45 H41) fun t46 H43=>
opP (zca t0) fun t47=>
opP (zda 3 t47) fun t48=>
opW (zla 1 t48 t46 H43) fun u_1 H47=>
K (.int .i64 0) H47)))))
theorem zku{t0 t1:Value}{H:Heap}{K:VH}(h:zVs t0 t1 H K):wCall P zRi [t0,t1] H K:=zea rfl (Eq.mpr (by kernel_rfl) h)
noncomputable abbrev zDc:Code:=zMa P zdb 0
def zEc(l:List Value)(H:Heap)(N:LN)(Qx:LX)(Qr:LN):Prop:=
opP ((zta P .geq 3 true).f (nth l 2) (.int .i64 0)) fun t8=>
wIf t8 (
opW (zba (nth l 1) H) fun t13 H2=>
opP (zWa 1 t13 (nth l 2)) fun t15=>
opW (zba t15 H2) fun t16 H5=>
zsJ P (zFh (nth l 0) [(nth l 2),t16]) H5 fun t17 H7=>
opP (unA .not t17) fun t18=>
wIf t18 (
Qr [] H7) (
opP ((zta P .sub 3 true).f (nth l 2) (.int .i64 1)) fun t10=>
N [(nth l 0),(nth l 1),t10] H7)) (
Qx 0 [] H)
theorem zye:LpI P 19 zDc 0 zEc:=.mk (by kernel_rfl) fun l H N Qx Qr=>by kernel_rfl
def zvd(t0 t1:Value)(H:Heap)(K:VH):Prop:=
opW (zba t1 H) fun t4 H1=>
opW (lenSl t4 H1) fun t5 H3=>
opP ((zta P .sub 3 true).f t5 (.int .i64 1)) fun t6=>
zbb P true 19 zDc 0 [t0,t1,t6] H3 (fun id l H6=>
cond (Nat.beq id 0) (
K (.tuple [].toArray) H6) (
False)) (fun l H6=>
K (.tuple [].toArray) H6)
theorem zXf{t0 t1:Value}{H:Heap}{K:VH}(h:zvd t0 t1 H K):wCall P zdb [t0,t1] H K:=zea rfl (Eq.mpr (by kernel_rfl) h)
def zqj(t0 t1:Value)(H:Heap)(K:VH):Prop:=
opP (zca t0) fun t5=>
opP (zda 1 t5) fun t6=>
opW (zba t6 H) fun t7 H3=>
opP ((zta P .eql 43 true).f t7 (.int .i64 0)) fun t8=>
wIf t8 (
opP (zca t0) fun t11=>
opP (zda 1 t11) fun t12=>
opW (zla 1 t12 t1 H3) fun u H8=>
opP (zca t0) fun t14=>
opP (zda 0 t14) fun t15=>
opW (zla 1 t15 (.slice none 0 0) H8) fun u_1 H12=>
K (.tuple [].toArray) H12) (
opP (zca t0) fun t14_1=>
opP (zda 0 t14_1) fun t15_1=>
opW (zla 1 t15_1 (.slice none 0 0) H3) fun u_2 H16=>
K (.tuple [].toArray) H16)
theorem zwm{t0 t1:Value}{H:Heap}{K:VH}(h:zqj t0 t1 H K):wCall P zTe [t0,t1] H K:=zea rfl (Eq.mpr (by kernel_rfl) h)
noncomputable abbrev zVl:Code:=zMa P zzg 0
def zWl(l:List Value)(H:Heap)(N:LN)(Qx:LX)(Qr:LN):Prop:=
opW (lenSl (nth l 1) H) fun t33 H1=>
opP ((zta P .rem 3 true).f t33 (.int .i64 63)) fun t34=>
opP ((zta P .neq 3 true).f t34 (.int .i64 0)) fun t35=>
wIf t35 (
opW ((zpa P 50 1).f [(0,(.int .u8 255))] H1) fun t37 H5=>
opW (zva 1 1 (nth l 1) t37 H5) fun t38 H7=>
N [(nth l 0),t38] H7) (
Qx 0 [(nth l 0),(nth l 1)] H1)
theorem zTn:LpI P 40 zVl 192 zWl:=.mk (by kernel_rfl) fun l H N Qx Qr=>by kernel_rfl
def zWs(t0 t1 t2:Value)(H:Heap)(K:VH):Prop:=
opW ((zpa P 50 2).f [(0,(.int .u8 66)),(1,(.int .u8 74))] H) fun t8 H1=>
opW (zhp t8 H1) fun t9 H3=>
opW ((zpa P 50 1).f [(0,t0)] H3) fun t11 H5=>
opW (zva 1 1 t9 t11 H5) fun t12 H7=>
wCall P zHb [t1,(.int .i64 8)] H7 fun t15 H9=>
opW (zva 1 1 t12 t15 H9) fun t16 H11=>
opW (lenSl t2 H11) fun t19 H13=>
opW (zob .u64 t19 H13) fun t20 H15=>
wCall P zHb [t20,(.int .i64 2)] H15 fun t21 H17=>
opW (zva 1 1 t16 t21 H17) fun t22 H19=>
opW (zva 1 1 t22 t2 H19) fun t25 H21=>
wCall P ztc [t25] H21 fun t28 H23=>
opW (zob .u64 t28 H23) fun t29 H25=>
wCall P zHb [t29,(.int .i64 4)] H25 fun t30 H27=>
opW (zva 1 1 t25 t30 H27) fun t31 H29=>
zbb P true 40 zVl 192 [(.slice none 0 0),t31] H29 (fun id l H31=>
cond (Nat.beq id 0) (
K (nth l 1) H31) (
False)) (fun l H31=>
K (nth l 0) H31)
theorem zlu{t0 t1 t2:Value}{H:Heap}{K:VH}(h:zWs t0 t1 t2 H K):wCall P zzg [t0,t1,t2] H K:=zea rfl (Eq.mpr (by kernel_rfl) h)
noncomputable abbrev zwd:Code:=zMa P zpb 0
def zxd(l:List Value)(H:Heap)(N:LN)(Qx:LX)(Qr:LN):Prop:=
opW (zba (nth l 1) H) fun t7 H1=>
opW (lenSl t7 H1) fun t8 H3=>
opP ((zta P .lss 3 false).f (nth l 3) t8) fun t9=>
wIf t9 (
opW (zba (nth l 2) H3) fun t13 H6=>
opW (zba (nth l 1) H6) fun t14 H8=>
opP (zLa 1 t14 (some (nth l 3)) none none) fun t16=>
opW (lenSl t16 H8) fun t17 H11=>
opW (zwe H11 (zyG [t13,t17])) fun t18 H13=>
opW (zba (nth l 1) H13) fun t20 H15=>
opP ((zta P .add 3 false).f (nth l 3) t18) fun t24=>
opP ((zta P .add 3 false).f (nth l 3) t18) fun t27=>
opP (zLa 1 t20 (some (nth l 3)) (some t24) (some t27)) fun t28=>
zsJ P (zFh (nth l 0) [t28]) H15 fun t29 H20=>
opP (unA .not t29) fun t30=>
wIf t30 (
Qr [] H20) (
opW (zba (nth l 2) H20) fun t11 H23=>
opP ((zta P .add 3 false).f (nth l 3) t11) fun t12=>
N [(nth l 0),(nth l 1),(nth l 2),t12] H23)) (
Qx 0 [] H3)
theorem zCf:LpI P 31 zwd 0 zxd:=.mk (by kernel_rfl) fun l H N Qx Qr=>by kernel_rfl
def zre(t0 t1 t2:Value)(H:Heap)(K:VH):Prop:=
zbb P true 31 zwd 0 [t0,t1,t2,(.int .i64 0)] H (fun id l H1=>
cond (Nat.beq id 0) (
K (.tuple [].toArray) H1) (
False)) (fun l H1=>
K (.tuple [].toArray) H1)
theorem zah{t0 t1 t2:Value}{H:Heap}{K:VH}(h:zre t0 t1 t2 H K):wCall P zpb [t0,t1,t2] H K:=zea rfl (Eq.mpr (by kernel_rfl) h)
noncomputable abbrev zkv:Code:=zMa P zcn 0
def zlv(l:List Value)(H:Heap)(N:LN)(Qx:LX)(Qr:LN):Prop:=
opP ((zta P .lss 3 false).f (nth l 4) (nth l 3)) fun t9=>
wIf t9 (
opP (zWa 1 (nth l 2) (nth l 4)) fun t10=>
opW (zba t10 H) fun t11 H3=>
wCall P zTk [(nth l 1),t11] H3 fun t14 H5=>
opP ((zta P .add 3 true).f (nth l 4) (.int .i64 1)) fun t15=>
N [(nth l 0),t14,(nth l 2),(nth l 3),t15] H5) (
Qx 0 [(nth l 0),(nth l 1)] H)
theorem zmu:LpI P 17 zkv 12 zlv:=.mk (by kernel_rfl) fun l H N Qx Qr=>by kernel_rfl
def zkF(t0:Value)(H:Heap)(K:VH):Prop:=
opW (lenSl t0 H) fun t7 H1=>
zbb P true 17 zkv 12 [(.int .u32 0),(.int .u32 0),t0,t7,(.int .i64 0)] H1 (fun id l H3=>
cond (Nat.beq id 0) (
K (nth l 1) H3) (
False)) (fun l H3=>
K (nth l 0) H3)
theorem zgD{t0:Value}{H:Heap}{K:VH}(h:zkF t0 H K):wCall P zcn [t0] H K:=zea rfl (Eq.mpr (by kernel_rfl) h)
def zUn(t0 t1 t2:Value)(H:Heap)(K:VH):Prop:=
zDb (zGa t1) H fun t4 H1=>
opP ((zta P .eql 43 true).f t2 (.int .i64 0)) fun t8=>
wIf t8 (
opP (zca t0) fun t10=>
opP (zda 2 t10) fun t11=>
opW (zba t11 H1) fun t12 H6=>
opP (zda 3 t4) fun t13=>
opW (zla 1 t13 t12 H6) fun u H9=>
opP (zca t0) fun t16=>
opP (zda 3 t16) fun t17=>
opW (zba t17 H9) fun t18 H13=>
opW (zna 4 t4 H13) fun t19 H15=>
opW ((zpa P 39 1).f [(0,t19)] H15) fun t20 H17=>
opW (zva 4 32 t18 t20 H17) fun t21 H19=>
opP (zca t0) fun t22=>
opP (zda 3 t22) fun t23=>
opW (zla 1 t23 t21 H19) fun u_1 H23=>
K t2 H23) (
K t2 H1)
theorem zPq{t0 t1 t2:Value}{H:Heap}{K:VH}(h:zUn t0 t1 t2 H K):wCall P zUe [t0,t1,t2] H K:=zea rfl (Eq.mpr (by kernel_rfl) h)
def zrg(t0 t1 t2:Value)(H:Heap)(K:VH):Prop:=
zDb (zGa t2) H fun t5 H1=>
wCall P zbc [t0,t1] H1 fun t10 H3=>
opP ((zta P .eql 188 true).f t10 (.pointer none)) fun t13=>
wIf t13 (
K (.int .i64 61) H3) (
opP (zca t0) fun t16=>
opP (zda 4 t16) fun t17=>
opW (zba t17 H3) fun t18 H8=>
wIf t18 (
K (.int .i64 62) H8) (
opP (zca t10) fun t21=>
opP (zda 64 t21) fun t22=>
opW (zna 64 t22 H8) fun t23 H12=>
wCall P zGb [] H12 fun t24 H14=>
zhc (zWb H12 H14) (zVa [t22])∧(opP ((zta P .neq 84 false).f t23 t24) fun t25=>
wIf t25 (
K (.int .i64 63) H14) (
wCall P zFb [t0] H14 fun t28 H17=>
opP (unA .not t28) fun t29=>
wIf t29 (
K (.int .i64 62) H17) (
opW (zna 64 t5 H17) fun t32 H20=>
wCall P zkd [t0,t1,t32] H20 fun t33 H22=>
K (.int .i64 0) H22)))))
theorem zXi{t0 t1 t2:Value}{H:Heap}{K:VH}(h:zrg t0 t1 t2 H K):wCall P zcd [t0,t1,t2] H K:=zea rfl (Eq.mpr (by kernel_rfl) h)
def zYf(t0 t1:Value)(H:Heap)(K:VH):Prop:=
zhb (fun J=>
opP ((zta P .lss 3 true).f t1 (.int .i64 0)) fun t6=>
wIf t6 (
False) (
J [t0,t1] H)) (fun l H3=>
opW ((zgd P .cap [50]).f [(nth l 0)] H3) fun t10 H5=>
opW (lenSl (nth l 0) H5) fun t12 H7=>
opP ((zta P .sub 3 false).f t10 t12) fun t13=>
opP ((zta P .sub 3 false).f (nth l 1) t13) fun t14=>
opP ((zta P .gtr 3 true).f t14 (.int .i64 0)) fun t16=>
wIf t16 (
opW ((zgd P .cap [50]).f [(nth l 0)] H7) fun t19 H12=>
opP (zLa 1 (nth l 0) none (some t19) none) fun t20=>
opW ((zgd P .append [50,3]).f [t20,t14] H12) fun t22 H15=>
opW (lenSl (nth l 0) H15) fun t24 H17=>
opP (zLa 1 t22 none (some t24) none) fun t25=>
K t25 H17) (
K (nth l 0) H7))
theorem zmi{t0 t1:Value}{H:Heap}{K:VH}(h:zYf t0 t1 H K):wCall P zNc [t0,t1] H K:=zea rfl (Eq.mpr (by kernel_rfl) h)
def zzh(t0 t1:Value)(H:Heap)(K:VH):Prop:=
wCall P zbc [t0,t1] H fun t8 H1=>
opP ((zta P .eql 188 true).f t8 (.pointer none)) fun t11=>
wIf t11 (
K (.int .i64 61) H1) (
opP (zca t0) fun t14=>
opP (zda 4 t14) fun t15=>
opW (zba t15 H1) fun t16 H6=>
wIf t16 (
K (.int .i64 62) H6) (
opP (zca t8) fun t19=>
opP (zda 128 t19) fun t20=>
opW (zba t20 H6) fun t21 H10=>
opP (zca t0) fun t23=>
opP (zda 2 t23) fun t24=>
opW (zba t24 H10) fun t25 H14=>
opP ((zta P .geq 3 false).f t21 t25) fun t26=>
wIf t26 (
K (.int .i64 64) H14) (
wCall P zFb [t0] H14 fun t29 H17=>
opP (unA .not t29) fun t30=>
wIf t30 (
K (.int .i64 62) H17) (
opP (zca t8) fun t32=>
opP (zda 128 t32) fun t33=>
opW (zba t33 H17) fun t34 H22=>
opP ((zta P .add 3 true).f t34 (.int .i64 1)) fun t35=>
opP (zca t8) fun t36=>
opP (zda 128 t36) fun t37=>
opW (zla 1 t37 t35 H22) fun u H27=>
wCall P zGb [] H27 fun t40 H29=>
wCall P zkd [t0,t1,t40] H29 fun t41 H31=>
K (.int .i64 0) H31))))
theorem zmk{t0 t1:Value}{H:Heap}{K:VH}(h:zzh t0 t1 H K):wCall P zOd [t0,t1] H K:=zea rfl (Eq.mpr (by kernel_rfl) h)
def zni(t0:Value)(H:Heap)(K:VH):Prop:=
zhb (fun J=>
opP (zca t0) fun t5=>
opP (zda 4 t5) fun t6=>
opW (zba t6 H) fun t7 H4=>
wIf t7 (
opP (zra t7 (.bool true) undef) fun t14=>
opP (zca t0) fun t15=>
opP (zda 4 t15) fun t16=>
opW (zla 1 t16 t14 H4) fun u H9=>
J [t0] H9) (
opP (zca t0) fun t10=>
opP (zda 3 t10) fun t11=>
opW (zba t11 H4) fun t12 H13=>
opP ((zta P .eql 3 true).f t12 (.int .i64 0)) fun t13=>
opP (zra t7 (.bool true) t13) fun t14_1=>
opP (zca t0) fun t15_1=>
opP (zda 4 t15_1) fun t16_1=>
opW (zla 1 t16_1 t14_1 H13) fun u_1 H19=>
J [t0] H19)) (fun l H21=>
zhb (fun J_1=>
zhb (fun J_2=>
opP (zca (nth l 0)) fun t18=>
opP (zda 4 t18) fun t19=>
opW (zba t19 H21) fun t20 H27=>
opP (unA .not t20) fun t21=>
wIf t21 (
opP (zca (nth l 0)) fun t24=>
opP (zda 3 t24) fun t25=>
opW (zba t25 H27) fun t26 H32=>
opP ((zta P .gtr 3 true).f t26 (.int .i64 0)) fun t27=>
opP (zra t21 t27 (.bool false)) fun t28=>
J_2 [(nth l 0),t28] H32) (
opP (zra t21 undef (.bool false)) fun t28_1=>
J_2 [(nth l 0),t28_1] H27)) (fun l_1 H37=>
wIf (nth l_1 1) (
opP (zca (nth l_1 0)) fun t30=>
opP (zda 3 t30) fun t31=>
opW (zba t31 H37) fun t32 H41=>
opP ((zta P .sub 3 true).f t32 (.int .i64 1)) fun t33=>
opP (zca (nth l_1 0)) fun t34=>
opP (zda 3 t34) fun t35=>
opW (zla 1 t35 t33 H41) fun u_2 H46=>
J_1 [(nth l_1 0)] H46) (
J_1 [(nth l_1 0)] H37))) (fun l_2 H48=>
opP (zca (nth l_2 0)) fun t37=>
opP (zda 4 t37) fun t38=>
opW (zba t38 H48) fun t39 H52=>
opP (unA .not t39) fun t40=>
K t40 H52))
theorem zkl{t0:Value}{H:Heap}{K:VH}(h:zni t0 H K):wCall P zFb [t0] H K:=zea rfl (Eq.mpr (by kernel_rfl) h)
noncomputable abbrev zZp:Code:=zMa P ztc 0
noncomputable abbrev zaq:Code:=zMa P ztc 1
noncomputable abbrev znk:Code:=zMa P ztc 2
noncomputable abbrev zok:Code:=zMa P ztc 3
noncomputable abbrev zpk:Code:=zMa P ztc 4
noncomputable abbrev zqk:Code:=zMa P ztc 5
noncomputable abbrev zbq:Code:=zMa P ztc 6
def zcq(l:List Value)(H:Heap)(N:LN)(Qx:LX)(Qr:LN):Prop:=
opP ((zta P .lss 3 true).f (nth l 3) (.int .i64 32)) fun t19=>
wIf t19 (
opP (zUa 32 1 (nth l 2) (nth l 3)) fun t22=>
opW (zla 1 t22 (.int .i64 1) H) fun u H3=>
opP ((zta P .add 3 true).f (nth l 3) (.int .i64 1)) fun t23=>
N [(nth l 0),(nth l 1),(nth l 2),t23] H3) (
Qx 0 [(nth l 0),(nth l 1),(nth l 2)] H)
theorem zQq:LpI P 91 zZp 13 zcq:=.mk (by kernel_rfl) fun l H N Qx Qr=>by kernel_rfl
def zdq(l:List Value)(H:Heap)(N:LN)(Qx:LX)(Qr:LN):Prop:=
opP ((zta P .lss 3 false).f (nth l 5) (nth l 4)) fun t28=>
wIf t28 (
opP (zWa 1 (nth l 3) (nth l 5)) fun t29=>
opW (zba t29 H) fun t30 H3=>
zbb P true 91 znk 234881068 [(nth l 0),(nth l 1),(nth l 2),t30,(.int .i64 0),(nth l 3),(nth l 4),(nth l 5)] H3 (fun id l_1 H5=>
cond (Nat.beq id 4) (
zbb P true 91 zok 234881068 [(nth l_1 0),(nth l_1 1),(nth l_1 2),(.int .i64 0),(nth l_1 3),(nth l_1 4),(nth l_1 5)] H5 (fun id l_2 H7=>
cond (Nat.beq id 6) (
opP ((zta P .add 3 true).f (nth l_2 5) (.int .i64 1)) fun t78=>
N [(nth l_2 0),(nth l_2 1),(nth l_2 2),(nth l_2 3),(nth l_2 4),t78] H7) (
cond (Nat.beq id 3) (
opP ((zta P .add 3 true).f (nth l_2 5) (.int .i64 1)) fun t78_1=>
N [(nth l_2 0),(nth l_2 1),(nth l_2 2),(nth l_2 3),(nth l_2 4),t78_1] H7) (
Qx id [(nth l_2 0),(nth l_2 1)] H7))) (fun l_2 H7=>
Qr [(nth l_2 0),(nth l_2 1)] H7)) (
cond (Nat.beq id 3) (
opP ((zta P .add 3 true).f (nth l_1 5) (.int .i64 1)) fun t78_2=>
N [(nth l_1 0),(nth l_1 1),(nth l_1 2),(nth l_1 3),(nth l_1 4),t78_2] H5) (
Qx id [(nth l_1 0),(nth l_1 1)] H5))) (fun l_1 H5=>
Qr [(nth l_1 0),(nth l_1 1)] H5)) (
Qx 2 [(nth l 0),(nth l 1)] H)
theorem zRq:LpI P 91 zaq 12 zdq:=.mk (by kernel_rfl) fun l H N Qx Qr=>by kernel_rfl
def zeq(l:List Value)(H:Heap)(N:LN)(Qx:LX)(Qr:LN):Prop:=
opP ((zta P .lss 3 true).f (nth l 3) (.int .i64 32)) fun t81=>
wIf t81 (
opP (zvB 32 1 (zKz P 3).f (nth l 2) (nth l 3)) fun t82=>
opP ((zta P .mul 212 true).f (.int .u32 2) (nth l 1)) fun t84=>
opP ((zta P .sub 3 true).f (.int .i64 1) t82) fun t86=>
opW (zob .u32 t86 H) fun t87 H5=>
opP ((zta P .add 212 false).f t84 t87) fun t88=>
opP ((zta P .add 3 true).f (nth l 3) (.int .i64 1)) fun t89=>
N [(nth l 0),t88,(nth l 2),t89] H5) (
Qx 12 [(nth l 0),(nth l 1)] H)
theorem zSq:LpI P 91 zbq 16388 zeq:=.mk (by kernel_rfl) fun l H N Qx Qr=>by kernel_rfl
def zfq(l:List Value)(H:Heap)(N:LN)(Qx:LX)(Qr:LN):Prop:=
opP ((zta P .lss 3 true).f (nth l 4) (.int .i64 8)) fun t32=>
wIf t32 (
opP ((zta P .sub 3 true).f (.int .i64 31) (nth l 4)) fun t36=>
opP (zUa 32 1 (nth l 1) t36) fun t37=>
opW (zba t37 H) fun t38 H4=>
opP ((zta P .shr 5 false).f (nth l 3) (nth l 4)) fun t41=>
opW (zob .i64 t41 H4) fun t42 H7=>
opP ((zta P .rem 3 true).f t42 (.int .i64 2)) fun t43=>
opP ((zta P .xor 3 false).f t38 t43) fun t44=>
opP (zUa 32 1 (nth l 1) t36) fun t45=>
opW (zla 1 t45 t44 H7) fun u H12=>
opP ((zta P .add 3 true).f (nth l 4) (.int .i64 1)) fun t34=>
N [(nth l 0),(nth l 1),(nth l 2),(nth l 3),t34,(nth l 5),(nth l 6),(nth l 7)] H12) (
Qx 4 [(nth l 0),(nth l 1),(nth l 2),(nth l 5),(nth l 6),(nth l 7)] H)
theorem zTq:LpI P 91 znk 234881068 zfq:=.mk (by kernel_rfl) fun l H N Qx Qr=>by kernel_rfl
def zgq(l:List Value)(H:Heap)(N:LN)(Qx:LX)(Qr:LN):Prop:=
opP ((zta P .lss 3 true).f (nth l 3) (.int .i64 8)) fun t47=>
wIf t47 (
opP (zUa 32 1 (nth l 1) (.int .i64 31)) fun t50=>
opW (zba t50 H) fun t51 H3=>
opP ((zDa P 220).f []) fun t52=>
zDb (zc P 220) H3 fun t11 H6=>
opW (zla 32 t11 t52 H6) fun u H8=>
zbb P true 91 zpk 234884652 [(nth l 0),(nth l 1),(nth l 2),(nth l 3),t51,t11,(.int .i64 1),(nth l 4),(nth l 5),(nth l 6)] H8 (fun id l_1 H10=>
cond (Nat.beq id 8) (
zbb P true 91 zqk 234883628 [(nth l_1 0),(nth l_1 1),(nth l_1 2),(nth l_1 3),(nth l_1 4),(nth l_1 5),(nth l_1 6),(nth l_1 7),(nth l_1 8),(.int .i64 0)] H10 (fun id l_2 H12=>
cond (Nat.beq id 10) (
opW (zna 32 (nth l_2 4) H12) fun t77 H14=>
opW (zla 32 (nth l_2 1) t77 H14) fun u_1 H16=>
opP ((zta P .add 3 true).f (nth l_2 3) (.int .i64 1)) fun t49=>
N [(nth l_2 0),(nth l_2 1),(nth l_2 2),t49,(nth l_2 5),(nth l_2 6),(nth l_2 7)] H16) (
cond (Nat.beq id 7) (
opP ((zta P .add 3 true).f (nth l_2 3) (.int .i64 1)) fun t49_1=>
N [(nth l_2 0),(nth l_2 1),(nth l_2 2),t49_1,(nth l_2 5),(nth l_2 6),(nth l_2 7)] H12) (
Qx id [(nth l_2 0),(nth l_2 1),(nth l_2 2),(nth l_2 5),(nth l_2 6),(nth l_2 7)] H12))) (fun l_2 H12=>
Qr [(nth l_2 0),(nth l_2 1),(nth l_2 2),(nth l_2 5),(nth l_2 6),(nth l_2 7)] H12)) (
cond (Nat.beq id 7) (
opP ((zta P .add 3 true).f (nth l_1 3) (.int .i64 1)) fun t49_2=>
N [(nth l_1 0),(nth l_1 1),(nth l_1 2),t49_2,(nth l_1 6),(nth l_1 7),(nth l_1 8)] H10) (
Qx id [(nth l_1 0),(nth l_1 1),(nth l_1 2),(nth l_1 6),(nth l_1 7),(nth l_1 8)] H10))) (fun l_1 H10=>
Qr [(nth l_1 0),(nth l_1 1),(nth l_1 2),(nth l_1 6),(nth l_1 7),(nth l_1 8)] H10)) (
Qx 6 [(nth l 0),(nth l 1),(nth l 2),(nth l 4),(nth l 5),(nth l 6)] H)
theorem zUq:LpI P 91 zok 234881068 zgq:=.mk (by kernel_rfl) fun l H N Qx Qr=>by kernel_rfl
def zhq(l:List Value)(H:Heap)(N:LN)(Qx:LX)(Qr:LN):Prop:=
opP ((zta P .lss 3 true).f (nth l 6) (.int .i64 32)) fun t54=>
wIf t54 (
opP ((zta P .sub 3 true).f (nth l 6) (.int .i64 1)) fun t59=>
opP (zUa 32 1 (nth l 1) t59) fun t60=>
opW (zba t60 H) fun t61 H4=>
opP (zUa 32 1 (nth l 5) (nth l 6)) fun t62=>
opW (zla 1 t62 t61 H4) fun u H7=>
opP ((zta P .add 3 true).f (nth l 6) (.int .i64 1)) fun t56=>
N [(nth l 0),(nth l 1),(nth l 2),(nth l 3),(nth l 4),(nth l 5),t56,(nth l 7),(nth l 8),(nth l 9)] H7) (
Qx 8 [(nth l 0),(nth l 1),(nth l 2),(nth l 3),(nth l 4),(nth l 5),(nth l 7),(nth l 8),(nth l 9)] H)
theorem zVq:LpI P 91 zpk 234884652 zhq:=.mk (by kernel_rfl) fun l H N Qx Qr=>by kernel_rfl
def ziq(l:List Value)(H:Heap)(N:LN)(Qx:LX)(Qr:LN):Prop:=
opP ((zta P .lss 3 true).f (nth l 9) (.int .i64 32)) fun t64=>
wIf t64 (
opP ((zta P .eql 3 true).f (nth l 4) (.int .i64 1)) fun t67=>
wIf t67 (
opP (zUa 32 1 (nth l 5) (nth l 9)) fun t69=>
opW (zba t69 H) fun t70 H4=>
opP (zUa 32 1 (nth l 2) (nth l 9)) fun t72=>
opW (zba t72 H4) fun t73 H7=>
opP ((zta P .xor 3 false).f t70 t73) fun t74=>
opP (zUa 32 1 (nth l 5) (nth l 9)) fun t75=>
opW (zla 1 t75 t74 H7) fun u H11=>
opP ((zta P .add 3 true).f (nth l 9) (.int .i64 1)) fun t76=>
N [(nth l 0),(nth l 1),(nth l 2),(nth l 3),(nth l 4),(nth l 5),(nth l 6),(nth l 7),(nth l 8),t76] H11) (
opP ((zta P .add 3 true).f (nth l 9) (.int .i64 1)) fun t76_1=>
N [(nth l 0),(nth l 1),(nth l 2),(nth l 3),(nth l 4),(nth l 5),(nth l 6),(nth l 7),(nth l 8),t76_1] H)) (
Qx 10 [(nth l 0),(nth l 1),(nth l 2),(nth l 3),(nth l 5),(nth l 6),(nth l 7),(nth l 8)] H)
theorem zWq:LpI P 91 zqk 234883628 ziq:=.mk (by kernel_rfl) fun l H N Qx Qr=>by kernel_rfl
def zKy(t0:Value)(H:Heap)(K:VH):Prop:=
opP ((zDa P 220).f []) fun t17=>
zDb (zc P 220) H fun t3 H2=>
opW (zla 32 t3 t17 H2) fun u H4=>
zbb P true 91 zZp 13 [t0,(.int .u32 0),t3,(.int .i64 0)] H4 (fun id l H6=>
cond (Nat.beq id 0) (
opP ((zDa P 220).f [(0,(.int .i64 1)),(1,(.int .i64 1)),(2,(.int .i64 1)),(3,(.int .i64 0)),(4,(.int .i64 1)),(5,(.int .i64 1)),(6,(.int .i64 0)),(7,(.int .i64 1)),(8,(.int .i64 1)),(9,(.int .i64 0)),(10,(.int .i64 1)),(11,(.int .i64 1)),(12,(.int .i64 1)),(13,(.int .i64 0)),(14,(.int .i64 0)),(15,(.int .i64 0)),(16,(.int .i64 1)),(17,(.int .i64 0)),(18,(.int .i64 0)),(19,(.int .i64 0)),(20,(.int .i64 0)),(21,(.int .i64 0)),(22,(.int .i64 1)),(23,(.int .i64 1)),(24,(.int .i64 0)),(25,(.int .i64 0)),(26,(.int .i64 1)),(27,(.int .i64 0)),(28,(.int .i64 0)),(29,(.int .i64 0)),(30,(.int .i64 0)),(31,(.int .i64 0))]) fun t24=>
zDb (zc P 220) H6 fun t5 H9=>
opW (zla 32 t5 t24 H9) fun u_1 H11=>
opW (lenSl (nth l 0) H11) fun t26 H13=>
zbb P true 91 zaq 12 [(nth l 1),(nth l 2),t5,(nth l 0),t26,(.int .i64 0)] H13 (fun id l_1 H15=>
cond (Nat.beq id 2) (
opW (zna 32 (nth l_1 1) H15) fun t79 H17=>
zbb P true 91 zbq 16388 [(nth l_1 0),(.int .u32 0),t79,(.int .i64 0)] H17 (fun id l_2 H19=>
cond (Nat.beq id 12) (
K (nth l_2 1) H19) (
False)) (fun l_2 H19=>
K (nth l_2 0) H19)) (
False)) (fun l_1 H15=>
K (nth l_1 0) H15)) (
False)) (fun l H6=>
K (nth l 1) H6)
theorem zLy{t0:Value}{H:Heap}{K:VH}(h:zKy t0 H K):wCall P ztc [t0] H K:=zea rfl (Eq.mpr (by kernel_rfl) h)
noncomputable abbrev zXs:Code:=zMa P zTk 0
def zYs(l:List Value)(H:Heap)(N:LN)(Qx:LX)(Qr:LN):Prop:=
opP ((zta P .lss 3 false).f (nth l 4) (nth l 3)) fun t13=>
wIf t13 (
opP (zWa 1 (nth l 2) (nth l 4)) fun t14=>
opW (zba t14 H) fun t15 H3=>
opW (zob .u32 t15 H3) fun t18 H5=>
opP ((zta P .xor 212 false).f (nth l 1) t18) fun t19=>
wCall P znc [t19] H5 fun t20 H8=>
opP ((zta P .add 3 true).f (nth l 4) (.int .i64 1)) fun t21=>
N [(nth l 0),t20,(nth l 2),(nth l 3),t21] H8) (
Qx 0 [(nth l 0),(nth l 1)] H)
theorem zZs:LpI P 24 zXs 48 zYs:=.mk (by kernel_rfl) fun l H N Qx Qr=>by kernel_rfl
def zgC(t0 t1:Value)(H:Heap)(K:VH):Prop:=
opP (unA .xor t0) fun t9=>
opW (lenSl t1 H) fun t11 H2=>
zbb P true 24 zXs 48 [(.int .u32 0),t9,t1,t11,(.int .i64 0)] H2 (fun id l H4=>
cond (Nat.beq id 0) (
opP (unA .xor (nth l 1)) fun t23=>
K t23 H4) (
False)) (fun l H4=>
K (nth l 0) H4)
theorem zCA{t0 t1:Value}{H:Heap}{K:VH}(h:zgC t0 t1 H K):wCall P zTk [t0,t1] H K:=zea rfl (Eq.mpr (by kernel_rfl) h)
def zrj(t0 t1 t2:Value)(H:Heap)(K:VH):Prop:=
zDb (zGa t2) H fun t5 H1=>
opP (zca t0) fun t7=>
opP (zda 0 t7) fun t8=>
opW (zba t8 H1) fun t9 H5=>
opW (zna 64 t5 H5) fun t11 H7=>
opP (zWa 129 t9 t1) fun t12=>
opP (zda 64 t12) fun t13=>
opW (zla 64 t13 t11 H7) fun u H11=>
opP (zca t0) fun t16=>
opP (zda 1 t16) fun t17=>
opW (zba t17 H11) fun t18 H15=>
opW (zna 64 t5 H15) fun t20 H17=>
opP ((zDa P 118).f [(0,t1),(1,t20)]) fun t21=>
opW ((zpa P 114 1).f [(0,t21)] H17) fun t22 H20=>
opW (zva 65 72 t18 t22 H20) fun t23 H22=>
opP (zca t0) fun t24=>
opP (zda 1 t24) fun t25=>
opW (zla 1 t25 t23 H22) fun u_1 H26=>
K (.tuple [].toArray) H26
theorem zxm{t0 t1 t2:Value}{H:Heap}{K:VH}(h:zrj t0 t1 t2 H K):wCall P zkd [t0,t1,t2] H K:=zea rfl (Eq.mpr (by kernel_rfl) h)
noncomputable abbrev zPg:Code:=zMa P znc 0
def zQg(l:List Value)(H:Heap)(N:LN)(Qx:LX)(Qr:LN):Prop:=
opP ((zta P .lss 3 true).f (nth l 2) (.int .i64 8)) fun t4=>
wIf t4 (
opP ((zta P .shr 212 true).f (nth l 0) (.int .u64 1)) fun t6=>
opP ((zta P .and 212 true).f (nth l 0) (.int .u32 1)) fun t8=>
opP (unA .neg t8) fun t9=>
opP ((zta P .and 212 true).f (.int .u32 3988292384) t9) fun t10=>
opP ((zta P .xor 212 false).f t6 t10) fun t11=>
opP ((zta P .add 3 true).f (nth l 2) (.int .i64 1)) fun t12=>
N [t11,(nth l 1),t12] H) (
Qx 0 [(nth l 0),(nth l 1)] H)
theorem zRg:LpI P 14 zPg 5 zQg:=.mk (by kernel_rfl) fun l H N Qx Qr=>by kernel_rfl
def zbn(t0:Value)(H:Heap)(K:VH):Prop:=
zbb P true 14 zPg 5 [t0,(.int .u32 0),(.int .i64 0)] H (fun id l H1=>
cond (Nat.beq id 0) (
K (nth l 0) H1) (
False)) (fun l H1=>
K (nth l 1) H1)
theorem zkm{t0:Value}{H:Heap}{K:VH}(h:zbn t0 H K):wCall P znc [t0] H K:=zea rfl (Eq.mpr (by kernel_rfl) h)
end
end J
