/- texts of the kp, du behind the jV -/
import Derived.KernelRfl
import Derived.Test.YtifflnhooaophaaGreatDoorUA
set_option linter.unusedVariables false
set_option linter.unusedSimpArgs false
set_option linter.unusedSectionVars false
noncomputable section
set_option maxRecDepth 100000
open List Nat
namespace J
open Go Go.Ab
abbrev P:Program:=Go.Proofs.Tryz.prog
section
instance:ct:=Seal.yx
instance (priority:=1) axg:gi:=⟨fun _=>none,0⟩
theorem afB{s:ByteArray}(ah:s.size<4611686018427387904)(H:an):ct.h3 123 [Value.string s] H=some (.int .i64 (Seal.my s s.size 0 0)):=by show cond (blt s.size 4611686018427387904) (some (Value.int .i64 (Seal.my s s.size 0 0))) none=_;rw[show blt s.size 4611686018427387904=true from by rw[m8];exact decide_eq_true ah];rfl
theorem AY{P:Program}{be:hY}{f:FuncId}{args:aj}{H:an}{v:Value}(h:ct.h3 f args H=some v):xU P be (.call f args H)=some ⟨.ret,[v],H⟩:=by unfold xU;simp only[h]
theorem afC{H:an}{K:VH}{s:ByteArray}(ah:s.size<4611686018427387904)(a:K (.int .i64 (Seal.my s s.size 0 0)) H):aG P 123 [.string s] H K:=
 ⟨1,.ret,_,H,AY (afB ah H),a⟩
theorem afD{r:Int}(a:-2147483648<=r)(b:r<=2147483647)(H:an):ct.h3 156 [Value.int .i32 r] H=some (.bool (Go.Lib.isLetterU r)):=by show cond (decide (-2147483648<=r)&&decide (r<=2147483647)) (some (Value.bool (Go.Lib.isLetterU r))) none=_;rw[decide_eq_true a,decide_eq_true b];rfl
theorem afE{r:Int}(a:-2147483648<=r)(b:r<=2147483647)(H:an):ct.h3 157 [Value.int .i32 r] H=some (.bool (Go.Lib.isDigitU r)):=by show cond (decide (-2147483648<=r)&&decide (r<=2147483647)) (some (Value.bool (Go.Lib.isDigitU r))) none=_;rw[decide_eq_true a,decide_eq_true b];rfl
theorem afF{H:an}{K:VH}{r:Int}(a:-2147483648<=r)(b:r<=2147483647)(c:K (.bool (Go.Lib.isLetterU r)) H):aG P 156 [.int .i32 r] H K:=
 ⟨1,.ret,_,H,AY (afD a b H),c⟩
theorem afG{H:an}{K:VH}{r:Int}(a:-2147483648<=r)(b:r<=2147483647)(c:K (.bool (Go.Lib.isDigitU r)) H):aG P 157 [.int .i32 r] H K:=
 ⟨1,.ret,_,H,AY (afE a b H),c⟩
theorem afH{s:ByteArray}(ah:s.size<=35184372088832)(H:an):ct.h3 122 [Value.string s] H=some (.string (Seal.u4 s)):=by show cond (ble s.size 35184372088832) (some (Value.string (Seal.u4 s))) none=_;rw[ble_eq_true_of_le ah];rfl
theorem afI{H:an}{K:VH}{s:ByteArray}(ah:s.size<=35184372088832)(a:K (.string (Seal.u4 s)) H):aG P 122 [.string s] H K:=
 ⟨1,.ret,_,H,AY (afH ah H),a⟩
theorem afJ(r:Int)(H:an):ct.h3 160 [Value.int .i32 r] H=some (.int .i32 (Go.Lib.toLowerU r)):=rfl
theorem afK{H:an}{K:VH}{r:Int}(a:K (.int .i32 (Go.Lib.toLowerU r)) H):aG P 160 [.int .i32 r] H K:=
 ⟨1,.ret,.int .i32 (Go.Lib.toLowerU r),H,AY (P:=P) (be:=ea P 0) (afJ r H),a⟩
abbrev IJ:Code:=eT P 10 0
def QS:LF:=bi P 4 (.W 4 (.I 2 3 (.c 200) (.f 2 3<|.C 15 [0]<|.B 1 0 .o<|.bu 4 0 .f<|.w 0 (.J 0 [6,7,8,9])<|.X 0 [6,7,8])<|.pu<|.w 0 (.J 0 [2,3,4,5])<|.X 0 [2,3,4])<|.f 1 3<|.B 15 5 (.c 3)<|.C 14 [1,0]<|.B 0 7 .o<|.N [5,6,7,0])
theorem afL:LpI P 96 IJ 11 QS:=.mk
theorem afM:U0 P 10 (.C 26 []<|.C 12 [0]<|.C 26 []<|.z 31<|.st 16 0 1<|.o 1 12<|.o 0 2<|.s 0 (.v<|.string ⟨#[109,111,100,101,109]⟩)<|.bK 16 4<|.C 12 [0]<|.W 3 (.I 35 8 (.v (.pointer none)) (.bq<|.bq<|.bq<|.bq<|.w 0 (.K .f)<|.J 0 [.f,13,5])<|.B 35 1 (.v (.pointer none))<|.bu 1 .t 0<|.w 0 (.bq<|.bq<|.bq<|.w 0 (.K .f)<|.J 0 [.f,14,6])<|.f 11 3<|.B 36 0 (.v (.pointer none))<|.bu 3 .t 0<|.w 0 (.bq<|.bq<|.w 0 (.K .f)<|.J 0 [.f,17,9])<|.f 7 3<|.B 36 0 (.v (.pointer none))<|.bu 3 .t 0<|.w 0 (.bq<|.w 0 (.K .f)<|.J 0 [.f,20,12])<|.f 19 3<|.C 15 [0]<|.B 6 0 .o<|.bu 4 .t 0<|.w 0 (.K .f)<|.J 0 [.f,24,16])<|.L true 96 IJ 11 [0,1,2,.z] 3 (.q 0 (.f 1 3<|.C 15 [0]<|.I 1 0 (.c 2) (.f 5 3<|.C 21 [0]<|.B 1 0 (.c 2)<|.bu 4 0 .f<|.w 0 (.f 11 3<|.C 14 [0,.z]<|.bu 3 0 .f<|.w 0 (.f 15 3<|.C 15 [0]<|.B 1 0 (.c 3)<|.bu 4 0 .f<|.w 0 (.f 20 3<|.C 19 [0]<|.B 19 0 (.c 182)<|.bu 4 0 .f<|.K 0)<|.pu<|.K 0)<|.pu<|.pu<|.K 0)<|.pu<|.pu<|.pu<|.K 0)<|.pu<|.pu<|.pu<|.pu<|.K 0)<|.F)<|.K 0):=Um0
abbrev IK:Code:=eT P 11 0
def QT:LF:=bi P 4 (.I 3 3 2 (.ae 2 2 4<|.bK 2 0<|.z 59<|.st 2 0 1<|.g 1 0<|.aM wu 0<|.I 4 0 (.c 200) (.bq<|.w 0 (.R [.t])<|.B 0 13 .o<|.N [11,12,13,0])<|.g 5 1<|.aM aZ 0<|.B 4 0 (.c 4000)<|.bu 4 .t 0<|.w 0 (.R [.t])<|.B 0 17 .o<|.N [15,16,17,0])<|.X 0 [1])
theorem afN:LpI P 70 IK 4 QT:=.mk
theorem afO:U1 P 11 (.n 0<|.W 2 (.g 0 0<|.I 2 0 .o (.bq<|.bq<|.bq<|.bq<|.bq<|.bq<|.bq<|.w 0 (.K .t)<|.J 0 [10,.f])<|.g 3 0<|.B 4 0 (.c 20)<|.bu 3 .t 0<|.w 0 (.bq<|.bq<|.bq<|.bq<|.bq<|.bq<|.w 0 (.K .t)<|.J 0 [13,.f])<|.g 7 2<|.aM aZ 0<|.B 4 0 (.c 30)<|.bu 4 .t 0<|.w 0 (.bq<|.bq<|.bq<|.bq<|.bq<|.w 0 (.K .t)<|.J 0 [17,.f])<|.g 12 3<|.aM aZ 0<|.B 4 0 (.c 5)<|.bu 4 .t 0<|.w 0 (.bq<|.bq<|.bq<|.bq<|.w 0 (.K .t)<|.J 0 [21,.f])<|.g 17 4<|.aM aZ 0<|.B 4 0 (.c 60)<|.bu 4 .t 0<|.w 0 (.bq<|.bq<|.bq<|.w 0 (.K .t)<|.J 0 [25,.f])<|.o 22 5<|.g 0 0<|.aM aZ 0<|.B 4 0 (.c 200)<|.bu 5 .t 0<|.w 0 (.bq<|.bq<|.w 0 (.K .t)<|.J 0 [30,.f])<|.o 28 5<|.g 0 1<|.aM wu 0<|.B 4 0 (.c 200)<|.bu 5 .t 0<|.w 0 (.bq<|.w 0 (.K .t)<|.J 0 [35,.f])<|.o 34 12<|.g 0 2<|.aM wu 0<|.B 4 0 (.c 200)<|.bu 5 .t 0<|.w 0 (.K .t)<|.J 0 [40,.f])<|.g 0 3<|.aM aZ 0<|.L true 70 IK 4 [4,1,0,.z] 1 (.q 0 (.K .f)<|.F)<|.K 0):=Um1
abbrev IL:Code:=eT P 12 0
def QU:LF:=bi P 6 (.I 3 5 4 (.ae 1 4 6<|.l 0<|.aM (fd .i64) 0<|.B 15 0 (.c 2)<|.B 0 .o 0<|.aM (fd .i64) 3<|.B 20 0 (.c 2)<|.bd 102 [(0,5)]<|.C 56 [11,3,1,0]<|.B 0 15 .o<|.N [11,12,13,14,15,0])<|.X 0 [1,2,3])
theorem afP:LpI P 95 IL 14 QU:=.mk
theorem afQ:U1 P 12 (.n 0<|.g 0 1<|.C 55 [.c 60,0]<|.g 3 0<|.ag 2 1 [1]<|.g 5 0<|.ag 3 2 [1]<|.bs 48 3 [(0,.o),(1,2),(2,0)]<|.C 54 [5,0]<|.xx<|.W 3 (.I 61 1 (.v (.pointer none)) (.bq<|.w 0 (.K (.v (.pointer none)))<|.J 0 [13,.v (.pointer none),3])<|.B 7 1 .z<|.bu 1 .t 0<|.w 0 (.K (.v (.pointer none)))<|.J 0 [14,.v (.pointer none),4])<|.g 0 2<|.aM aZ 0<|.L true 95 IL 14 [3,4,5,1,0,.z] 3 (.q 0 (.C 57 [2]<|.C 30 [3]<|.g 2 3<|.g 4 4<|.C 58 [2,0]<|.bd 108 [(0,.o),(1,.c 2)]<|.C 59 [10,0]<|.bd 42 [(0,11),(1,2),(2,0)]<|.n 0<|.W 2 (.f 0 1<|.I 62 0 (.v (.pointer none)) (.bq<|.w 0 (.K (.v (.pointer none)))<|.J 0 [15,4])<|.f 3 2<|.B 63 0 (.v (.pointer none))<|.bu 3 .t 0<|.w 0 (.K (.v (.pointer none)))<|.J 0 [18,7])<|.o 0 5<|.bK 7 0<|.f 3 1<|.f 5 2<|.o 6 12<|.bK 4 0<|.C 27 [6,4,2,0]<|.xx<|.a8 12 3<|.s 0 2<|.a8 14 4<|.s 0 3<|.K 16)<|.F)<|.K 1):=Um1
theorem afR:U2 P 14 (.f 0 9<|.I 6 0 .o (.K .f)<|.I 1 4 (.c 3) (.C 60 [4]<|.K 0)<|.I 1 5 .z (.f 5 5<|.C 61 [0]<|.f 8 5<|.C 63 [0]<|.C 62 [11,12,3,0,.f]<|.K 0)<|.I 1 6 .o (.f 6 6<|.C 64 [0]<|.f 9 6<|.C 65 [0]<|.C 62 [12,13,3,0,.f]<|.K 0)<|.I 1 7 (.c 2) (.f 7 7<|.C 66 [0]<|.f 10 7<|.C 67 [0]<|.f 13 7<|.ag 2 1 [1]<|.C 68 [0]<|.C 62 [16,17,6,3,0]<|.K 0)<|.K .f):=Um2
theorem afS:U1 P 15 (.f 0 9<|.K 0):=Um1
theorem afT:U5 P 16 (.z 55<|.C 69 [2,3,4,5]<|.xx<|.z 55<|.st 37 0 2<|.bK 37 1<|.C 70 [7,0]<|.xx<|.ca (dj 1 1) 1 14<|.bK 37 6<|.pi [3,16] [7]<|.hu [7] 2 1<|.I 1 8 .z (.B 1 3 .z<|.bu 1 0 .f<|.st 37 14 3<|.a 37 15<|.Kt [6,0,2])<|.pu<|.st 37 13 2<|.a 37 14<|.Kt [5,0,2]):=Um5
theorem afU:U1 P 17 (.z 55<|.f 1 6<|.C 71 [0]<|.xx<|.st 37 5 1<|.a 37 6<|.Kt [0,2]):=Um1
abbrev QV:Code:=eT P 18 0
def QW:LF:=bi P 6 (.I 3 5 4 (.C 73 [1,2,6]<|.xx<|.z 102<|.st 64 0 2<|.mw 64 1 1 none none none<|.ca (dj 1 1) 10 0<|.B 0 13 .o<|.N [9,10,11,1,13,0])<|.X 0 [3,4])
theorem afV:LpI P 27 QV 48 QW:=.mk
theorem afW:U2 P 18 (.C 72 [0,1]<|.L true 27 QV 48 [1,2,.v (.slice none 0 0),.v (.slice none 0 0),0,.z] 2 (.q 0 (.K 1)<|.F)<|.K 0):=Um2
theorem afX:U1 P 19 (.f 0 10<|.K 0):=Um1
abbrev QX:Code:=eT P 20 0
def QY:LF:=bi P 5 (.I 3 4 3 (.g 1 36<|.ae 32 0 7<|.bK 32 0<|.g 6 36<|.ae 32 0 11<|.bK 32 0<|.I 24 4 0 (.R [.f])<|.B 0 14 .o<|.N [11,12,13,14,0])<|.X 0 [3])
theorem afY:LpI P 66 QX 16 QY:=.mk
theorem afZ:U2 P 20 (.n 0<|.n 2<|.W 3 (.g 1 0<|.g 2 0<|.I 30 2 0 (.bq<|.bq<|.bq<|.bq<|.bq<|.w 0 (.K .f)<|.J 0 [11,10,.f])<|.g 6 1<|.g 7 1<|.B 64 2 0<|.bu 5 .t 0<|.w 0 (.bq<|.bq<|.bq<|.bq<|.w 0 (.K .f)<|.J 0 [16,15,.f])<|.g 12 2<|.g 13 2<|.B 10 2 0<|.bu 5 .t 0<|.w 0 (.bq<|.bq<|.bq<|.w 0 (.K .f)<|.J 0 [21,20,.f])<|.g 18 3<|.g 19 3<|.B 10 2 0<|.bu 5 .t 0<|.w 0 (.bq<|.bq<|.w 0 (.K .f)<|.J 0 [26,25,.f])<|.o 24 4<|.bK 32 0<|.o 25 4<|.bK 32 0<|.B 24 2 0<|.bu 5 .t 0<|.w 0 (.bq<|.w 0 (.K .f)<|.J 0 [31,30,.f])<|.g 30 36<|.aM aZ 0<|.g 32 36<|.aM aZ 0<|.B 10 3 0<|.bu 7 .t 0<|.w 0 (.K .f)<|.J 0 [38,37,.f])<|.g 0 36<|.aM aZ 0<|.L true 66 QX 16 [3,4,5,0,.z] 1 (.q 0 (.K .t)<|.F)<|.K 0):=Um2
theorem af0:U1 P 21 (.f 0 7<|.C 74 [0]<|.K 0):=Um1
theorem af1:U1 P 22 (.f 0 0<|.K 0):=Um1
theorem af2:U2 P 24 (.f 0 9<|.I 1 0 .o (.f 3 8<|.C 75 [0,6]<|.Kt [])<|.Kt []):=Um2
theorem af3:U2 P 25 (.f 0 1<|.C 76 [0]<|.ca (dj 3 24) 0 4<|.a8 4 1<|.s 0 1<|.Kt []):=Um2
theorem af4:U0 P 26 (.z 31<|.bs 22 3 [(0,.y 107),(1,.y 101),(2,.y 121)]<|.aM sa 0<|.ca (lD P 22) (.c 100) (.c 100)<|.C 16 [1,.v (.string ⟨#[99,111,114,101]⟩),.h 3,.c 64,0]<|.xx<|.x 2 2<|.z 55<|.st 37 0 2<|.bd 59 [(0,.v<|.string ⟨#[99,111,114,101]⟩),(1,4)]<|.bs 23 1 [(0,0)]<|.bs 22 3 [(0,.y 107),(1,.y 101),(2,.y 121)]<|.aM sa 0<|.bd 26 [(0,0),(1,.v<|.string ⟨#[99,111,114,101]⟩),(2,.c 2),(3,.c 2),(4,.c 10)]<|.bd 29 [(0,.o),(1,.o),(2,.v<|.string ⟨#[99,111,114,101]⟩)]<|.bd 31 [(0,.c 4),(1,.c 100),(3,4),(5,1),(6,0)]<|.st 16 16 0<|.a 16 17<|.K 0):=Um0
theorem af5:U4 P 27 (.n 0<|.n 4<|.g 0 0<|.g 2 1<|.C 32 [8,2,0]<|.xx<|.I 7 0 .z (.Kt [.v (.pointer none),1])<|.bd 157 [(0,12),(1,2),(9,.o)]<|.n 0<|.g 11 3<|.C 77 [0]<|.g 14 3<|.ag 2 1 [1]<|.C 78 [0]<|.g 17 3<|.ag 2 1 [1]<|.ag 4 3 [1]<|.C 78 [0]<|.a8 9 2<|.s 0 7<|.a8 11 3<|.s 0 6<|.a8 13 4<|.s 0 5<|.g 26 1<|.g 27 3<|.g 29 1<|.C 79 [35,0]<|.ag 1 0 [4]<|.ag 1 0 [6]<|.B 12 (.c 64) 0<|.bd 94 [(0,6),(1,4),(2,0)]<|.z 94<|.st 3 0 1<|.g 36 2<|.g 39 2<|.f 30 2<|.f 32 3<|.C 80 [47,6,4,2,0]<|.a8 35 5<|.s 0 1<|.g 48 0<|.bK 3 14<|.f 40 2<|.f 42 3<|.f 44 4<|.C 81 [7,6,4,2,0]<|.a8 47 6<|.s 0 1<|.g 59 1<|.f 51 4<|.C 82 [67,57,2,0]<|.a8 54 7<|.s 0 1<|.g 67 4<|.C 83 [0,.c 3]<|.a8 59 8<|.s 0 1<|.Kt [61,.z]):=Um4
theorem af6:U1 P 28 (.f 0 8<|.C 84 [0]<|.K 0):=Um1
theorem af7:U1 P 29 (.f 0 9<|.I 6 0 .o (.K .f)<|.C 85 [3,.c 4,.z]<|.K .t):=Um1
theorem af8:U1 P 30 (.f 0 3<|.a8 2 3<|.s 0 (.v<|.slice none 0 0)<|.K 2):=Um1
theorem af9:U1 P 31 (.f 0 2<|.K 0):=Um1
theorem aga:U3 P 32 (.W 4 (.I 2 2 .z (.bq<|.bq<|.J 0 [3,4,5,0])<|.B 11 3 (.c 2)<|.bu 1 .t 0<|.w 0 (.bq<|.J 0 [4,5,6,0])<|.B 2 4 .o<|.bu 1 .t 0<|.J 0 [5,6,7,0])<|.w 3 (.Kt [.h 0,.c 101])<|.a8 0 0<|.bK 3 0<|.C 86 [0]<|.w 0 (.Kt [.h 0,.c 161])<|.f 3 6<|.B 45 0 (.h 1)<|.a8 6 6<|.s 0 1<|.f 8 6<|.bd 189 [(0,11),(1,12),(2,0)]<|.a8 11 0<|.st 3 0 1<|.f 13 6<|.Kt [0,.z]):=Um3
theorem agb:U2 P 33 (.iN mO [1,.c (-1)]<|.a8 1 3<|.s 0 1<|.Kt []):=Um2
theorem agc:U1 P 34 (.n 0<|.W 1 (.g 0 0<|.C 87 [0]<|.I 6 0 .z (.bq<|.bq<|.bq<|.bq<|.w 0 (.K .f)<|.J 0 [8])<|.g 4 1<|.B 46 0 (.h 1)<|.bu 3 .t 0<|.w 0 (.bq<|.bq<|.bq<|.w 0 (.K .f)<|.J 0 [11])<|.g 8 1<|.B 47 0 (.h 281474976710656)<|.bu 3 .t 0<|.w 0 (.bq<|.bq<|.w 0 (.K .f)<|.J 0 [14])<|.g 12 2<|.B 2 0 .o<|.bu 3 .t 0<|.w 0 (.bq<|.w 0 (.K .f)<|.J 0 [17])<|.g 16 2<|.B 4 0 (.c 65536)<|.bu 3 .t 0<|.w 0 (.K .f)<|.J 0 [20])<|.W 1 (.g 0 3<|.I 2 0 (.c 64) (.bq<|.bq<|.w 0 (.K .f)<|.J 0 [5])<|.g 3 3<|.B 4 0 (.c 1024)<|.bu 3 .t 0<|.w 0 (.bq<|.w 0 (.K .f)<|.J 0 [8])<|.g 7 3<|.B 15 0 (.c 64)<|.B 6 0 .z<|.bu 4 .t 0<|.w 0 (.K .f)<|.J 0 [12])<|.g 0 36<|.aM aZ 0<|.I 37 0 (.c 64) (.g 4 36<|.aM aZ 0<|.g 7 2<|.g 9 3<|.C 88 [2,0]<|.ag 1 0 [7]<|.B 13 5 0<|.bu 9 0 .f<|.K 0)<|.pu<|.K 0):=Um1
abbrev IM:Code:=eT P 35 0
abbrev IN:Code:=eT P 35 1
abbrev IP:Code:=eT P 35 2
abbrev IQ:Code:=eT P 35 3
abbrev IR:Code:=eT P 35 4
abbrev IS:Code:=eT P 35 5
abbrev IT:Code:=eT P 35 6
abbrev IU:Code:=eT P 35 7
def QZ:LF:=bi P 3 (.aM aZ 2<|.B 15 0 (.c 64)<|.I 6 0 (.c 56) (.bs 22 1 [(0,.y 0)]<|.ca (dj 1 1) 6 0<|.N [5,6,0])<|.X 0 [3,4,5])
theorem agd:LpI P 252 IM 13 QZ:=.mk
def Q0:LF:=bi P 5 (.I 2 4 (.c 8) (.B 65 3 4<|.B 22 0 (.h 256)<|.aM (fd .u8) 0<|.bs 22 1 [(0,0)]<|.ca (dj 1 1) 6 0<|.B 48 9 (.h 256)<|.B 0 11 .o<|.N [8,2,10,1,0])<|.X 2 [1,2])
theorem age:LpI P 252 IN 12 Q0:=.mk
def Q1:LF:=bi P 5 (.aM aZ 1<|.I 3 5 0 (.bd 196 []<|.z 196<|.st 64 0 1<|.L true 252 IQ 1932 [5,6,7,8,9,1,.z] 6 (.q 6 (.bK 8 2<|.z 194<|.st 8 0 1<|.L true 252 IS 33676 [3,4,5,6,7,8,1,.z] 6 (.q 10 (.L true 252 IT 908 [0,1,2,3,4,5,.z] 5 (.q 12 (.B 0 4 (.c 64)<|.N [1,2,3,4,0])<|.q 5 (.B 0 4 (.c 64)<|.N [1,2,3,4,0])<|.Y [0,2])<|.R [0,2])<|.q 5 (.B 0 4 (.c 64)<|.N [1,2,3,4,0])<|.Y [0,2])<|.R [0,2])<|.q 5 (.B 0 4 (.c 64)<|.N [1,2,3,4,0])<|.Y [0,2])<|.R [0,2])<|.X 4 [2,4])
theorem agf:LpI P 252 IP 132 Q1:=.mk
def Q2:LF:=bi P 4 (.I 2 3 (.c 32) (.B 20 4 (.c 4)<|.ax (dE 8 1) 3 0<|.l 0<|.B 15 7 (.c 4)<|.B 12 (.c 8) 0<|.B 5 (.c 24) 0<|.B 38 3 0<|.B 22 0 (.h 256)<|.aM (fd .u8) 0<|.ax (dE 32 1) 12 13<|.s 0 1<|.B 0 15 .o<|.N [13,14,15,0])<|.X 14 [1,3])
theorem agh:LpI P 252 IU 8388612 Q2:=.mk
def Q3:LF:=bi P 7 (.I 2 6 (.c 64) (.I 2 7 (.c 16) (.L true 252 IR 3980 [2,3,4,5,6,7,8,.z] 7 (.q 8 (.B 0 6 .o<|.N [1,2,3,4,5,6,0])<|.q 7 (.B 0 6 .o<|.N [1,2,3,4,5,6,0])<|.Y [0,1,2,3,4,5])<|.R [0,1,2,3,4,5])<|.B 5 8 (.c 15)<|.ax (dE 64 1) 8 0<|.l 0<|.B 5 11 (.c 2)<|.ax (dE 64 1) 11 0<|.l 0<|.B 5 14 (.c 16)<|.ax (dE 64 1) 14 0<|.l 0<|.C 91 [6,.h 7]<|.ag 1 0 [2]<|.C 91 [7,.h 18]<|.ag 1 0 [3]<|.B 17 1 0<|.B 49 9 (.h 3)<|.B 17 1 0<|.B 14 5 0<|.B 5 23 (.c 7)<|.ax (dE 64 1) 23 0<|.l 0<|.ag 2 1 [1]<|.ag 3 2 [1]<|.B 14 3 0<|.C 91 [13,.h 17]<|.ag 1 0 [3]<|.ag 1 0 [12]<|.C 91 [14,.h 19]<|.ag 1 0 [4]<|.ag 1 0 [13]<|.B 17 1 0<|.B 49 16 (.h 10)<|.B 17 1 0<|.B 14 5 0<|.B 22 0 (.h 4294967296)<|.ax (dE 64 1) 33 34<|.s 0 1<|.B 0 36 .o<|.N [31,32,33,34,35,36,0])<|.X 6 [1,2,3,4,5,6])
theorem agi:LpI P 252 IQ 1932 Q3:=.mk
def Q4:LF:=bi P 8 (.I 2 7 (.c 64) (.ax (dE 8 1) 7 (.c 4)<|.l 0<|.ax (dE 8 1) 9 (.c 5)<|.l 0<|.B 25 2 0<|.B 50 (.h 4294967295) 3<|.ax (dE 8 1) 13 (.c 6)<|.l 0<|.B 25 2 0<|.B 17 4 0<|.ax (dE 8 1) 17 (.c 7)<|.l 0<|.C 91 [10,.h 6]<|.ag 1 0 [2]<|.C 91 [11,.h 11]<|.ag 1 0 [3]<|.B 17 1 0<|.C 91 [13,.h 25]<|.ag 1 0 [5]<|.B 17 1 0<|.B 14 5 0<|.B 14 0 8<|.ax (dE 64 1) 23 27<|.l 0<|.ag 2 1 [1]<|.ag 3 2 [1]<|.ag 4 3 [1]<|.B 14 2 0<|.ax (dE 64 1) 28 30<|.l 0<|.ag 3 2 [1]<|.ag 4 3 [1]<|.ag 5 4 [1]<|.B 14 2 0<|.ax (dE 8 1) 32 .z<|.l 0<|.ax (dE 8 1) 34 .o<|.l 0<|.B 25 2 0<|.ax (dE 8 1) 37 .z<|.l 0<|.ax (dE 8 1) 39 (.c 2)<|.l 0<|.B 25 2 0<|.B 17 5 0<|.ax (dE 8 1) 43 .o<|.l 0<|.ax (dE 8 1) 45 (.c 2)<|.l 0<|.B 25 2 0<|.B 17 5 0<|.ax (dE 8 1) 49 .z<|.l 0<|.C 91 [0,.h 2]<|.ax (dE 8 1) 52 .z<|.l 0<|.ag 2 1 [1]<|.C 91 [0,.h 13]<|.B 17 3 0<|.ax (dE 8 1) 56 .z<|.l 0<|.ag 2 1 [1]<|.ag 4 3 [1]<|.C 91 [0,.h 22]<|.B 17 3 0<|.B 14 0 11<|.B 14 29 0<|.B 22 0 (.h 4294967296)<|.ax (dE 8 1) 63 .z<|.l 0<|.ax (dE 8 1) 65 .o<|.l 0<|.ax (dE 8 1) 67 (.c 2)<|.l 0<|.ax (dE 8 1) 69 (.c 3)<|.l 0<|.B 14 0 39<|.B 22 0 (.h 4294967296)<|.ax (dE 8 1) 73 (.c 4)<|.l 0<|.ax (dE 8 1) 75 (.c 5)<|.l 0<|.ax (dE 8 1) 77 (.c 6)<|.l 0<|.bd 194 [(0,16),(1,14),(2,12),(3,10),(4,6),(5,4),(6,2),(7,0)]<|.st 8 80 0<|.B 0 82 .o<|.N [76,77,78,79,80,81,82,0])<|.X 10 [1,2,3,4,5,7])
theorem agj:LpI P 252 IS 33676 Q4:=.mk
def Q6:LF:=bi P 7 (.I 2 6 (.c 8) (.ax (dE 8 1) 3 7<|.l 0<|.ax (dE 8 1) 8 9<|.l 0<|.B 14 2 0<|.B 22 0 (.h 4294967296)<|.ax (dE 8 1) 9 13<|.s 0 1<|.B 0 15 .o<|.N [10,11,12,13,14,15,0])<|.X 12 [1,2,3,4,5])
theorem agk:LpI P 252 IT 908 Q6:=.mk
def Q7:LF:=bi P 8 (.I 2 7 (.c 4) (.ax (dE 64 1) 6 7<|.l 0<|.B 31 (.h 256) 0<|.B 12 (.c 4) 10<|.B 8 9 0<|.B 8 0 13<|.ae 1 8 0<|.l 0<|.aM (fd .u64) 0<|.B 14 6 0<|.ax (dE 64 1) 16 17<|.s 0 1<|.B 0 20 .o<|.N [14,15,16,17,18,19,20,0])<|.X 8 [1,2,3,4,5,6,7])
theorem agl:LpI P 252 IR 3980 Q7:=.mk
theorem agm:U1 P 35 (.z 52<|.bs 22 0 []<|.ca (dj 1 1) 0 2<|.bs 22 1 [(0,.y 128)]<|.ca (dj 1 1) 1 0<|.L true 252 IM 13 [5,4,0] 3 (.q 0 (.aM aZ 0<|.aM (fd .u64) 0<|.B 31 0 (.h 8)<|.L true 252 IN 12 [4,5,0,.h 72057594037927936,.z] 2 (.q 2 (.C 89 []<|.C 90 []<|.z 194<|.z 196<|.st 8 1 3<|.st 64 1 3<|.L true 252 IP 132 [6,7,3,2,.z] 2 (.q 4 (.bd 52 []<|.z 52<|.st 32 0 1<|.L true 252 IU 8388612 [3,4,1,.z] 2 (.q 14 (.bK 32 1<|.st 32 1 0<|.a 32 2<|.K 0)<|.F)<|.a 32 0<|.K 0)<|.F)<|.a 32 0<|.K 0)<|.F)<|.a 32 0<|.K 0)<|.F)<|.a 32 1<|.K 0):=Um1
theorem agn:U2 P 36 (.n 0<|.W 3 (.bK 37 0<|.C 34 [0]<|.dA 0 (.bq<|.bq<|.J 0 [7,5,0])<|.B 2 5 .z<|.bu 1 .t 0<|.w 0 (.bq<|.J 0 [8,6,0])<|.g 5 36<|.aM aZ 0<|.B 9 10 0<|.bu 4 .t 0<|.J 0 [12,10,0])<|.w 2 (.Kt [.z,.z])<|.g 1 36<|.aM aZ 0<|.B 5 0 .o<|.I 13 4 0 (.g 6 3<|.B 26 7 0<|.g 9 2<|.g 11 3<|.B 26 12 0<|.B 21 3 0<|.Kt [6,0])<|.g 6 3<|.B 26 7 0<|.g 9 3<|.Kt [2,0]):=Um2
theorem ago:U2 P 38 (.n 0<|.n 2<|.bK 37 1<|.C 34 [0]<|.dA 0 (.K (.c 131))<|.g 4 0<|.C 93 [0]<|.g 6 0<|.ag 2 1 [1]<|.C 93 [0]<|.I 30 3 0 (.K (.c 143))<|.g 11 1<|.g 12 1<|.I 51 2 0 (.K (.c 144))<|.g 16 2<|.g 17 2<|.I 16 2 0 (.K (.c 145))<|.K .z):=Um2
abbrev Q8:Code:=eT P 39 0
def Q9:LF:=bi P 4 (.I 3 3 2 (.f 2 0<|.C 95 []<|.ag 1 0 [2]<|.ae 64 1 7<|.st 64 0 1<|.B 0 9 .o<|.N [7,8,9,0])<|.X 0 [1,2])
theorem agp:LpI P 35 Q8 80 Q9:=.mk
def Ra:V2:=fun t0 l H K=>aG P 94 [t0,(int 4096)] H fun a b=>a7 (lD P 131 a a b) fun c d=>a7 (lD P 48 a a d) fun e f=>aG P 94 [l,(int 100000)] (jY f) fun g h=>OW h f/\(bD (eg P 203 [(0,c),(1,e),(2,g)]) fun i=>iO (es i) f fun j k=>a8 j 0 fun n=>a7 (db n k) fun o p=>a7 (aZ o p) fun q r=>i7 P true 35 Q8 80 [(.pointer none),j,q,(int 0)] r (fun id s t=>cond (beq id 0) (K (s 1) t) (False)) (fun s t=>K (s 0) t))
theorem agq:W2 P 39 Ra:=Wm2
theorem agr:U4 P 40 (.n 3<|.C 96 [1,2,3]<|.xx<|.W 4 (.I 1 0 .z (.f 5 0<|.bK 64 6<|.C 97 [1,5,0]<|.J 0 [9,10,11,0])<|.J 0 [5,6,7,1])<|.I 1 3 .z (.f 1 3<|.f 3 2<|.bd 86 [(0,.c 2),(1,6),(2,7),(3,0)]<|.bs 80 1 [(0,0)]<|.ca (dj 4 32) 4 0<|.a8 8 3<|.s 0 1<|.K 13)<|.K 4):=Um4
abbrev Rb:Code:=eT P 41 0
def Rc:LF:=bi P 5 (.I 3 4 3 (.ae 65 3 5<|.bK 65 0<|.z 209<|.st 65 0 1<|.f 5 0<|.g 3 0<|.o 5 1<|.bK 64 0<|.ae 64 4 2<|.st 64 0 1<|.B 0 17 .o<|.N [14,15,16,17,0])<|.X 0 [1,2])
theorem ags:LpI P 36 Rb 5 Rc:=.mk
theorem agt:U1 P 41 (.W 2 (.f 0 6<|.w 0 (.bq<|.w 0 (.K (.c 62))<|.J 0 [3,.z])<|.C 98 [2]<|.b5 (kq .not) 0<|.bu 2 .t 0<|.w 0 (.K (.c 62))<|.J 0 [5,.z])<|.f 0 3<|.aM aZ 0<|.L true 36 Rb 5 [3,4,1,0,.z] 2 (.q 0 (.a8 0 3<|.s 0 (.v<|.slice none 0 0)<|.K .z)<|.F)<|.K 1):=Um1
theorem agu:U1 P 42 (.f 0 3<|.a8 2 3<|.s 0 (.v<|.slice none 0 0)<|.K 2):=Um1
abbrev Rd:Code:=eT P 43 0
def Re:LF:=bi P 5 (.I 3 4 3 (.ae 2 3 5<|.bK 2 0<|.z 59<|.st 2 0 1<|.W 7 (.g 1 0<|.C 87 [0]<|.I 1 0 .z (.g 5 0<|.C 99 [12,0]<|.B 2 0 .z<|.bu 4 0 .f<|.J 0 [14,15,10,16,17,18,0])<|.pu<|.J 0 [10,11,6,12,13,14,0])<|.w 6 (.f 1 0<|.bK 2 4<|.bs 23 1 [(0,0)]<|.ca (dj 2 40) 2 0<|.a8 6 0<|.s 0 1<|.B 0 12 .o<|.N [8,9,11,12,0])<|.B 0 5 .o<|.N [1,2,4,5,0])<|.X 0 [1,2])
theorem agv:LpI P 42 Rd 48 Re:=.mk
theorem agw:U2 P 43 (.bs 24 0 []<|.ca (dj 3 24) 0 2<|.bd 118 [(1,0)]<|.n 0<|.aM aZ 4<|.L true 42 Rd 48 [.v (.pointer none),1,5,0,.z] 2 (.q 0 (.K 1)<|.F)<|.K 0):=Um2
theorem agx:U4 P 44 (.n 0<|.n 4<|.g 0 0<|.g 2 1<|.C 48 [8,2,0]<|.xx<|.I 6 0 .z (.Kt [.v (.pointer none),1])<|.g 9 3<|.C 100 [0]<|.f 0 0<|.g 14 1<|.g 15 3<|.g 17 1<|.C 101 [23,0]<|.ag 1 0 [4]<|.ag 1 0 [6]<|.aM aZ 0<|.bd 94 [(0,6),(1,4),(2,0)]<|.z 94<|.st 3 0 1<|.g 24 2<|.g 27 2<|.C 102 [31,2,0,15]<|.g 30 0<|.ag 2 1 [1]<|.bK 3 8<|.ag 3 2 [9]<|.C 103 [1,0,19,19]<|.g 33 1<|.ag 2 1 [1]<|.ag 5 4 [1]<|.bd 133 [(0,39),(1,29),(2,0)]<|.g 37 4<|.ag 3 2 [1]<|.ag 6 5 [1]<|.C 104 [0,.c 3]<|.ag 1 0 [5]<|.n 3<|.bd 129 [(0,44),(1,34),(2,11),(3,7),(4,0),(5,1),(6,.o)]<|.n 0<|.Kt [0,.z]):=Um4
theorem agy:U2 P 45 (.f 0 6<|.I 1 0 .o (.f 3 5<|.C 105 [0,6]<|.Kt [])<|.Kt []):=Um2
theorem agz:U1 P 46 (.f 0 6<|.I 6 0 .o (.K .f)<|.C 106 [3,.c 4,.z]<|.K .t):=Um1
theorem agA:U2 P 47 (.B 11 1 .z<|.a8 1 4<|.s 0 1<|.a8 3 5<|.s 0 5<|.Kt []):=Um2
theorem agB:U3 P 48 (.W 4 (.I 2 2 .z (.bq<|.bq<|.J 0 [3,4,5,0])<|.B 4 3 .o<|.bu 1 .t 0<|.w 0 (.bq<|.J 0 [4,5,6,0])<|.B 2 4 .o<|.bu 1 .t 0<|.J 0 [5,6,7,0])<|.w 3 (.Kt [.h 0,.c 101])<|.f 0 4<|.w 0 (.Kt [.h 0,.c 161])<|.f 2 3<|.B 45 0 (.h 1)<|.a8 5 3<|.s 0 1<|.a8 7 4<|.s 0 .t<|.a8 9 5<|.s 0 11<|.a8 11 6<|.s 0 14<|.f 13 3<|.Kt [0,.z]):=Um3
theorem agC:U2 P 49 (.C 107 [0,1]<|.dA 0 (.K .f)<|.bd 189 []<|.a8 3 0<|.st 3 0 1<|.K .t):=Um2
theorem agD:U2 P 50 (.C 108 [0,1]<|.dA 0 (.K .f)<|.a8 2 4<|.s 0 .f<|.a8 4 5<|.s 0 .z<|.a8 6 6<|.s 0 .z<|.K .t):=Um2
theorem agE:U2 P 51 (.f 0 6<|.I 6 0 .o (.K .f)<|.f 3 2<|.f 5 3<|.f 7 4<|.W 5 (.I 1 10 .z (.f 3 4<|.a8 7 3<|.s 0 1<|.f 7 5<|.a8 11 5<|.s 0 1<|.C 109 [13]<|.f 14 3<|.a8 14 4<|.s 0 1<|.f 18 5<|.a8 18 5<|.s 0 1<|.f 22 46<|.J 0 [29,30,10,0,20])<|.I 1 11 .o (.f 2 3<|.a8 6 6<|.s 0 1<|.C 110 [8]<|.f 9 6<|.a8 9 3<|.s 0 1<|.f 13 12<|.J 0 [22,23,6,0,13])<|.I 1 12 (.c 2) (.C 111 [3]<|.f 4 45<|.J 0 [15,16,2,0,6])<|.I 1 13 (.c 3) (.f 13 5<|.C 112 [0]<|.f 16 5<|.ag 2 1 [1]<|.f 0 1<|.ag 3 2 [1]<|.I 9 4 0 (.C 106 [21,.c 3,.c 221]<|.K .t)<|.K .f)<|.K .f)<|.W 5 (.w 2 (.f 0 5<|.C 113 [0,3]<|.J 0 [3,4,5,6,7])<|.J 0 [0,1,2,3,4])<|.I 6 3 .z (.C 106 [1,.c 3,4]<|.K 4)<|.W 3 (.I 1 2 (.c 2) (.f 6 44<|.B 1 0 (.c 4)<|.bu 3 0 .f<|.J 0 [6,8,0])<|.pu<|.J 0 [3,5,0])<|.w 2 (.C 106 [0,.c 2,.z]<|.K 2)<|.K 1):=Um2
abbrev Rf:Code:=eT P 52 0
def agF:LF:=bi P 5 (.I 3 4 3 (.ae 4 1 5<|.bK 4 0<|.ae 4 4 7<|.bK 4 0<|.I 66 2 0 (.R [.f])<|.B 0 10 .o<|.N [7,8,9,10,0])<|.X 0 [3])
theorem agG:LpI P 26 Rf 16 agF:=.mk
theorem agH:U2 P 52 (.aM aZ 0<|.aM aZ 2<|.I 10 1 0 (.K .f)<|.aM aZ 3<|.L true 26 Rf 16 [4,5,.f,0,.z] 1 (.q 0 (.K .t)<|.F)<|.K 0):=Um2
abbrev Rh:Code:=eT P 53 0
def Ri:LF:=bi P 5 (.f 0 1<|.ae 1 0 3<|.l 0<|.I 3 8 0 (.C 114 [5,6,9]<|.xx<|.z 102<|.st 64 0 2<|.mw 64 1 1 none none none<|.ca (dj 1 1) 14 0<|.B 0 16 .o<|.N [13,14,15,1,0])<|.X 0 [7,8])
theorem agI:LpI P 44 Rh 48 Ri:=.mk
theorem agJ:U2 P 53 (.bs 22 0 []<|.W 5 (.I 2 2 .z (.bq<|.J 0 [3,4,.v (.slice none 0 0),2,0])<|.f 2 1<|.aM aZ 0<|.B 9 6 0<|.bu 4 .t 0<|.J 0 [7,8,.v (.slice none 0 0),6,0])<|.w 4 (.K 3)<|.L true 44 Rh 48 [0,1,2,3,.z] 2 (.q 0 (.K 1)<|.F)<|.K 0):=Um2
abbrev Rj:Code:=eT P 54 0
def Rk:LF:=bi P 8 (.I 3 7 6 (.ae 1 6 8<|.l 0<|.W 10 (.I 2 0 .o (.bq<|.J 0 [5,6,7,8,9,2,10,11,12,0])<|.C 115 [4]<|.B 21 0 9<|.B 16 3 0<|.bu 3 .t 0<|.J 0 [8,9,10,11,12,5,13,14,15,0])<|.w 9 (.R [.v (.pointer none),.c 71,3])<|.f 3 1<|.bd 232 [(0,6),(1,7)]<|.bs 166 1 [(0,0)]<|.ca (dj 2 16) 2 0<|.a8 8 1<|.s 0 1<|.B 8 11 12<|.B 0 16 .o<|.N [9,10,11,12,1,15,16,0])<|.X 0 [2,3,4])
theorem agK:LpI P 54 Rj 112 Rk:=.mk
theorem agL:U2 P 54 (.W 5 (.aM aZ 1<|.I 1 0 .z (.bq<|.J 0 [3,4,.v (.pointer none),.z,0])<|.aM aZ 3<|.B 4 0 (.c 16)<|.bu 2 .t 0<|.J 0 [5,6,.v (.pointer none),.z,0])<|.w 4 (.Kt [.v (.pointer none),.c 71])<|.bd 168 [(0,0)]<|.n 0<|.aM aZ 3<|.L true 54 Rj 112 [3,5,6,1,.z,4,0,.z] 3 (.q 0 (.Kt [2,.z])<|.F)<|.Kt [0,1]):=Um2
abbrev Rl:Code:=eT P 55 0
def Rm:LF:=bi P 4 (.I 3 3 2 (.f 2 0<|.C 116 []<|.ag 1 0 [2]<|.C 116 []<|.ag 1 0 [3]<|.bd 234 [(0,1),(1,0)]<|.ae 129 3 9<|.st 129 0 1<|.B 0 11 .o<|.N [9,10,11,0])<|.X 0 [1,2])
theorem agM:LpI P 35 Rl 48 Rm:=.mk
theorem agN:U2 P 55 (.iN k5 [0,.c 4096]<|.iN mO [.z,0]<|.ca (lD P 169) 0 0<|.iN k5 [4,.c 100000]<|.iN mO [.z,0]<|.bd 172 [(0,2),(2,0),(3,.c (-1))]<|.n 0<|.f 0 0<|.aM aZ 0<|.L true 35 Rl 48 [.v (.pointer none),3,0,.z] 2 (.q 0 (.K 1)<|.F)<|.K 0):=Um2
theorem agO:U4 P 56 (.n 3<|.C 117 [1,2,3]<|.xx<|.I 7 0 .z (.K 1)<|.bd 86 [(0,.c 2),(1,6),(2,7)]<|.f 6 0<|.bK 64 7<|.C 119 [1,6,0]<|.C 118 [10,4,0]<|.K 0):=Um4
theorem agP:U1 P 57 (.f 0 0<|.C 120 [0]<|.K 0):=Um1
abbrev Rn:Code:=eT P 58 0
def Ro:LF:=fun l H N M S=>bD (cz P .lss 3 false (l 4) (l 3)) fun a=>fW a (bD (vN 2 (l 2) (l 4)) fun b=>a7 (jo 2 b H) fun c d=>iO (fF P 59) d fun e f=>a7 (d9 2 e c f) fun g h=>bD (gh 0 e) fun i=>a7 (db i h) fun j k=>aG P 122 [j] k fun m n=>a8 (l 1) 0 fun p=>a7 (db p n) fun q r=>a7 (sc P 174 true q m r) fun s t=>bD (la 0 s) fun u=>bD (la 1 s) fun v=>ws (fun w=>bD (kq .not v) fun x=>fW x (bD (gh 0 e) fun y=>a7 (db y t) fun z A=>aG P 123 [z] A fun B C=>bD (cz P .eql 40 true B (int 0)) fun D=>bD (jP x D (.bool false)) fun o=>w [l 0,l 1,e,m,l 2,l 3,l 4,o] C) (bD (jP x undef (.bool false)) fun y=>w [l 0,l 1,e,m,l 2,l 3,l 4,y] t)) (fun w x=>fW (w 7) (a8 (w 1) 0 fun z=>a7 (db z x) fun A B=>bD (gh 1 (w 2)) fun C=>a7 (db C B) fun D o=>aG P 124 [D] o fun F K=>iP (ik o K) (dM [z])/\(a7 (qt P 174 A (w 3) F K) fun I J=>bD (cz P .add 3 true (w 6) (int 1)) fun L=>N [w 0,w 1,w 4,w 5,L] J)) (bD (cz P .add 3 true (w 6) (int 1)) fun y=>N [w 0,w 1,w 4,w 5,y] x))) (M 0 [l 0,l 1] H)
theorem agQ:LpI P 52 Rn 48 Ro:=.mk
def Rp:V2:=fun t0 l H K=>HF H fun a b=>aG P 121 [l] b fun c d=>bD (eg P 176 [(0,a),(1,c)]) fun e=>iO (es e) d fun f g=>a7 (aZ t0 g) fun h i=>i7 P true 52 Rn 48 [(.pointer none),f,t0,h,(int 0)] i (fun id j k=>cond (beq id 0) (K (j 1) k) (False)) (fun j k=>K (j 0) k)
theorem agR:W2 P 58 Rp:=Wm2
theorem agS:U2 P 59 (.n 1<|.bK 2 0<|.bd 191 [(1,2),(2,0)]<|.n 0<|.K 0):=Um2
theorem agT:U1 P 60 (.f 0 8<|.C 125 [0]<|.I 7 0 .z (.C 85 [4,.c 3,1]<|.B 7 2 .z<|.K 0)<|.B 7 1 .z<|.K 0):=Um1
theorem agU:U1 P 61 (.f 0 7<|.I 7 0 .z (.K .f)<|.f 3 4<|.C 126 [0]<|.xx<|.w 0 (.C 127 [8,1]<|.K .t)<|.W 1 (.f 8 6<|.I 1 0 (.c (-2)) (.bq<|.w 0 (.K .f)<|.J 0 [12])<|.f 11 3<|.C 128 [0]<|.B 1 0 .z<|.bu 4 .t 0<|.w 0 (.K .f)<|.J 0 [16])<|.C 129 [0]<|.xx<|.I 19 0 .z (.f 4 3<|.f 6 6<|.bd 179 [(0,0),(1,6)]<|.C 130 [3,0]<|.C 131 [10]<|.K .t)<|.I 19 1 (.c 181) (.C 132 [5]<|.K .t)<|.a8 5 7<|.s 0 3<|.K .t):=Um1
theorem agV:U5 P 62 (.W 4 (.w 2 (.f 0 8<|.C 133 [0,3]<|.J 0 [3,5,6,7])<|.J 0 [0,2,3,4])<|.I 7 2 .z (.C 85 [1,.c 3,3]<|.K 3)<|.w 4 (.C 85 [1,.c 2,.z]<|.K 3)<|.K 2):=Um5
theorem agW:U1 P 63 (.f 0 7<|.K 0):=Um1
theorem agX:U1 P 64 (.C 134 [0]<|.W 3 (.f 1 46<|.I 7 0 .z (.bq<|.J 0 [5,4,0])<|.f 4 45<|.bu 2 .t 0<|.J 0 [7,6,0])<|.w 2 (.K .f)<|.I 1 1 (.c (-2)) (.C 135 [1]<|.K 0)<|.W 3 (.f 1 4<|.C 136 [0]<|.I 1 0 .z (.bq<|.bq<|.J 0 [7,8,0])<|.f 5 5<|.C 137 [0]<|.B 1 0 .z<|.bu 4 .t 0<|.w 0 (.bq<|.J 0 [11,12,0])<|.f 10 6<|.C 137 [0]<|.B 1 0 .z<|.bu 4 .t 0<|.J 0 [15,16,0])<|.w 2 (.K .f)<|.f 0 4<|.C 138 [0]<|.xx<|.z 179<|.st 2 0 2<|.g 1 0<|.I 10 0 10 (.K .t)<|.I 1 11 (.c (-1)) (.g 5 1<|.C 139 [13,0]<|.K .t)<|.bK 2 5<|.C 140 [12,0]<|.K .t):=Um1
theorem agY:U1 P 65 (.f 0 46<|.K 0):=Um1
theorem agZ:U1 P 66 (.W 2 (.f 0 45<|.I 7 0 .z (.bq<|.J 0 [4,0])<|.f 3 44<|.B 1 0 (.c 4)<|.bu 3 .t 0<|.J 0 [7,0])<|.w 1 (.K .f)<|.f 0 44<|.I 1 0 .o (.C 141 [3]<|.K .t)<|.f 3 44<|.I 1 0 (.c 3) (.C 142 [6]<|.K .t)<|.f 6 42<|.aM aZ 0<|.I 4 0 .z (.C 143 [10]<|.K .t)<|.f 10 3<|.C 126 [0]<|.xx<|.dA 0 (.K .f)<|.C 144 [16,2]<|.K .t):=Um1
theorem ag0:U1 P 67 (.f 0 45<|.K 0):=Um1
theorem ag1:U1 P 68 (.f 0 44<|.B 1 0 (.c 4)<|.K 0):=Um1
abbrev Rq:Code:=eT P 69 0
def Rs:LF:=bi P 7 (.I 3 6 5 (.B 26 7 1<|.aM aZ 3<|.W 9 (.B 5 8 .o<|.I 3 10 0 (.B 8 3 5<|.J 0 [6,7,8,9,10,11,12,4,0])<|.J 0 [5,6,7,8,9,10,11,3,2])<|.g 4 36<|.am 1 3 (some 9) (some 10) none<|.C 35 [0]<|.ag 1 0 [3]<|.bs 53 1 [(0,0)]<|.ca (dj 32 32) 3 0<|.o 10 36<|.s 0 1<|.B 0 14 .o<|.N [9,10,11,12,13,14,0])<|.X 0 [3,4,5])
theorem ag2:LpI P 62 Rq 1792 Rs:=.mk
theorem ag3:U4 P 69 (.z 55<|.aM aZ 4<|.C 35 [5]<|.bd 55 [(0,3),(1,4),(2,1),(3,5),(4,0)]<|.z 55<|.st 37 0 1<|.aM aZ 9<|.C 88 [0,9]<|.I 4 0 (.c 64) (.bd 55 []<|.st 37 9 0<|.a 37 10<|.Kt [0,.c 131])<|.L true 62 Rq 1792 [11,12,8,.z,4,1,.z] 3 (.q 0 (.bK 37 2<|.C 34 [0]<|.dA 0 (.bd 55 []<|.st 37 4 0<|.a 37 5<|.Kt [0,.c 131])<|.bK 37 5<|.st 37 4 0<|.a 37 5<|.Kt [0,.z])<|.F)<|.a 37 0<|.Kt [0,2]):=Um4
theorem ag4:U2 P 70 (.n 1<|.bK 37 0<|.C 34 [0]<|.dA 0 (.Kt [.v (.slice none 0 0),.c 131])<|.bK 37 3<|.C 145 [0]<|.bs 22 2 [(0,.y 66),(1,.y 85)]<|.aM sa 0<|.aM aZ 2<|.aM (fd .u64) 0<|.C 147 [0,.c 2]<|.ca (dj 1 1) 3 0<|.ca (dj 1 1) 0 6<|.C 146 [13,0]<|.Kt [0,.z]):=Um2
theorem ag5:U1 P 71 (.z 55<|.a8 1 7<|.bK 37 0<|.z 55<|.st 37 0 1<|.g 1 36<|.C 148 [0]<|.o 4 36<|.s 0 1<|.bK 37 6<|.f 11 44<|.B 67 0 (.v (.pointer none))<|.st 37 13 3<|.pi [3] [14,4]<|.a 37 14<|.Kt [0,2]):=Um1
theorem ag6:U2 P 72 (.C 149 [0,1]<|.dA 0 (.K .z)<|.f 2 1<|.ae 2 0 5<|.g 0 1<|.K 0):=Um2
theorem ag7:U3 P 73 (.z 102<|.C 117 [1,2,3]<|.xx<|.I 7 0 .z (.bd 102 []<|.st 64 5 0<|.a 64 6<|.Kt [0,4])<|.f 5 0<|.C 150 [0,4]<|.xx<|.st 64 9 1<|.a 64 10<|.Kt [0,2]):=Um3
theorem ag8:U1 P 74 (.f 0 43<|.K 0):=Um1
theorem ag9:U2 P 75 (.f 0 0<|.f 2 0<|.B 5 (.c 1099511627776) 0<|.iN k5 [6,0]<|.iN mO [.z,0]<|.B 8 5 0<|.a8 8 0<|.s 0 1<|.Kt []):=Um2
theorem aha:U1 P 76 (.aM aZ 0<|.aM aZ 1<|.am 3 2 none (some 1) (some 0)<|.K 0):=Um1
theorem ahb:U1 P 77 (.iN k5 [0,.c 16]<|.iN mO [.o,0]<|.ca (lD P 134) 0 0<|.bd 268 [(0,0)]<|.n 0<|.K 0):=Um1
theorem ahc:U1 P 78 (.iN k5 [0,.c 16]<|.iN mO [.o,0]<|.ca (lD P 269) 0 0<|.bd 271 [(0,0)]<|.n 0<|.K 0):=Um1
theorem ahd:U2 P 79 (.f 0 3<|.C 151 [2,3]<|.ag 1 0 [2]<|.C 72 [1,0]<|.K 0):=Um2
end
end J
