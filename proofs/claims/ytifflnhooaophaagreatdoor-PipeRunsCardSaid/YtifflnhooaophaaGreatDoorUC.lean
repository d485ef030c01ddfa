/- texts of the kp, du behind the jV -/
import Derived.Test.YtifflnhooaophaaGreatDoorUB
set_option linter.unusedVariables false
set_option linter.unusedSimpArgs false
set_option linter.unusedSectionVars false
noncomputable section
set_option maxRecDepth 100000
namespace J
open Go Go.Ab
section
theorem ahe:U5 P 80 (.iN k5 [2,.c 100]<|.iN mO [.z,0]<|.bd 244 [(0,2),(1,3),(2,0),(3,5),(4,6),(6,.c (-1))]<|.n 0<|.K 0):=Um5
theorem ahf:U5 P 81 (.n 1<|.C 124 [1]<|.bK 3 1<|.ag 2 1 [2]<|.bd 253 [(0,1),(1,0),(2,5),(3,6),(4,7)]<|.n 0<|.K 0):=Um5
theorem ahg:U4 P 82 (.bd 259 [(0,0),(1,1),(2,2),(3,3)]<|.n 0<|.K 0):=Um4
theorem ahh:U2 P 83 (.iN k5 [0,.c 1000000]<|.iN mO [.o,0]<|.iN k5 [3,.c 8]<|.iN mO [.o,0]<|.ca (lD P 48) 0 0<|.bd 266 [(1,3),(2,0)]<|.n 0<|.K 0):=Um2
theorem ahi:U1 P 84 (.f 0 0<|.f 2 2<|.C 152 [0]<|.ag 1 0 [4]<|.B 21 3 0<|.K 0):=Um1
theorem ahj:U3 P 85 (.a8 0 9<|.s 0 2<|.a8 2 10<|.s 0 5<|.f 4 0<|.f 6 1<|.C 49 [2,0]<|.f 9 2<|.C 153 [0]<|.f 12 3<|.C 154 [0]<|.f 15 4<|.C 154 [0]<|.Kt []):=Um3
theorem ahk:U1 P 86 (.n 0<|.g 0 2<|.B 68 0 (.h 0)<|.K 0):=Um1
abbrev IV:Code:=eT P 87 0
def Rt:LF:=bi P 4 (.I 3 3 2 (.ae 3 2 4<|.bK 3 0<|.z 276<|.st 3 0 1<|.g 1 0<|.aM (fd .i32) 0<|.W 8 (.g 4 2<|.dA 0 (.C 156 [3]<|.bu 1 0 .f<|.J 0 [13,16,9,5,0,14,15,16])<|.pu<|.J 0 [12,15,8,4,0,13,14,15])<|.W 5 (.I 4 1 .z (.g 3 2<|.b5 (kq .not) 0<|.bu 3 0 .f<|.w 0 (.C 157 [8]<|.w 0 (.bq<|.bq<|.bq<|.bu 4 0 .f<|.w 0 (.J 0 [10,.t,15,16,17])<|.J 0 [10,14,15,16,17])<|.g 8 1<|.B 39 0 (.v<|.string ⟨#[45]⟩)<|.bu 3 .t 0<|.w 0 (.bq<|.bq<|.bu 7 0 .f<|.w 0 (.J 0 [13,.t,18,19,20])<|.J 0 [13,17,18,19,20])<|.g 12 1<|.B 39 0 (.v<|.string ⟨#[95]⟩)<|.bu 3 .t 0<|.w 0 (.bq<|.bu 10 0 .f<|.w 0 (.J 0 [16,.t,21,22,23])<|.J 0 [16,20,21,22,23])<|.g 16 1<|.B 39 0 (.v<|.string ⟨#[46]⟩)<|.bu 3 .t 0<|.bu 13 0 .f<|.w 0 (.J 0 [19,.t,24,25,26])<|.J 0 [19,23,24,25,26])<|.pu<|.w 0 (.J 0 [6,.t,11,12,13])<|.J 0 [6,10,11,12,13])<|.pu<|.pu<|.w 0 (.J 0 [3,.t,8,9,10])<|.J 0 [3,7,8,9,10])<|.dA 1 (.R [.c 41])<|.B 0 5 .o<|.N [2,4,5,0])<|.X 0 [1])
theorem ahl:LpI P 64 IV 4 Rt:=.mk
theorem ahm:U1 P 87 (.C 155 [0]<|.W 2 (.aM aZ 0<|.I 1 0 .z (.bq<|.w 0 (.K (.c 41))<|.J 0 [.z,3])<|.aM aZ 2<|.B 4 0 (.c 24)<|.bu 2 .t 0<|.w 0 (.K (.c 41))<|.J 0 [.z,5])<|.aM aZ 1<|.L true 64 IV 4 [1,2,0,.z] 1 (.q 0 (.K .z)<|.F)<|.K 0):=Um1
theorem ahn:U2 P 88 (.W 2 (.I 2 0 .o (.bq<|.w 0 (.K .z)<|.J 0 [2,3])<|.B 2 2 .o<|.bu 1 .t 0<|.w 0 (.K .z)<|.J 0 [3,4])<|.B 52 0 1<|.B 27 1 2<|.I 4 0 .z (.B 0 2 .o<|.K 0)<|.K 2):=Um2
theorem aho:U0 P 89 (.z 194<|.bd 194 [(0,.h 1779033703),(1,.h 3144134277),(2,.h 1013904242),(3,.h 2773480762),(4,.h 1359893119),(5,.h 2600822924),(6,.h 528734635),(7,.h 1541459225)]<|.st 8 1 0<|.a 8 2<|.K 0):=Um0
theorem ahp:U0 P 90 (.z 196<|.bd 196 [(0,.h 1116352408),(1,.h 1899447441),(2,.h 3049323471),(3,.h 3921009573),(4,.h 961987163),(5,.h 1508970993),(6,.h 2453635748),(7,.h 2870763221),(8,.h 3624381080),(9,.h 310598401),(10,.h 607225278),(11,.h 1426881987),(12,.h 1925078388),(13,.h 2162078206),(14,.h 2614888103),(15,.h 3248222580),(16,.h 3835390401),(17,.h 4022224774),(18,.h 264347078),(19,.h 604807628),(20,.h 770255983),(21,.h 1249150122),(22,.h 1555081692),(23,.h 1996064986),(24,.h 2554220882),(25,.h 2821834349),(26,.h 2952996808),(27,.h 3210313671),(28,.h 3336571891),(29,.h 3584528711),(30,.h 113926993),(31,.h 338241895),(32,.h 666307205),(33,.h 773529912),(34,.h 1294757372),(35,.h 1396182291),(36,.h 1695183700),(37,.h 1986661051),(38,.h 2177026350),(39,.h 2456956037),(40,.h 2730485921),(41,.h 2820302411),(42,.h 3259730800),(43,.h 3345764771),(44,.h 3516065817),(45,.h 3600352804),(46,.h 4094571909),(47,.h 275423344),(48,.h 430227734),(49,.h 506948616),(50,.h 659060556),(51,.h 883997877),(52,.h 958139571),(53,.h 1322822218),(54,.h 1537002063),(55,.h 1747873779),(56,.h 1955562222),(57,.h 2024104815),(58,.h 2227730452),(59,.h 2361852424),(60,.h 2428436474),(61,.h 2756734187),(62,.h 3204031479),(63,.h 3329325298)]<|.st 64 1 0<|.a 64 2<|.K 0):=Um0
theorem ahq:U2 P 91 (.B 38 0 1<|.B 50 (.h 32) 2<|.B 69 2 0<|.B 70 2 0<|.B 22 0 (.h 4294967296)<|.K 0):=Um2
theorem ahr:U4 P 92 (.C 99 [0,1]<|.I 2 0 .z (.Kt [.v (.slice none 0 0),.c 182])<|.f 2 2<|.B 0 0 .o<|.a8 5 2<|.s 0 1<|.bd 61 []<|.z 61<|.st 3 0 1<|.W 5 (.f 10 1<|.aM aZ 0<|.I 4 0 .z (.f 14 1<|.ae 3 0 .z<|.bK 3 0<|.st 3 9 0<|.bs 24 0 []<|.f 20 1<|.am 3 0 (some .o) none none<|.ca (dj 3 24) 3 0<|.a8 24 1<|.s 0 1<|.J 0 [26,28,29,25,17])<|.J 0 [14,16,17,13,5])<|.f 0 0<|.ae 2 0 5<|.g 0 1<|.C 158 [0,6,7]<|.g 10 0<|.I 1 0 .o (.Kt [.v (.slice none 0 0),.c 181])<|.I 1 1 (.c 2) (.aM aZ 4<|.I 4 0 .z (.W 3 (.g 16 1<|.I 4 0 .z (.g 19 1<|.aM aZ 11<|.B 27 1 0<|.J 0 [23,13,0])<|.J 0 [19,9,.z])<|.ae 1 1 2<|.l 0<|.g 2 2<|.B 32 2 0<|.ae 1 6 7<|.s 0 1<|.Kt [8,.z])<|.Kt [6,.z])<|.I 1 2 (.c 3) (.g 15 1<|.I 2 0 .z (.Kt [.v (.slice none 0 0),.z])<|.g 18 1<|.aM aZ 10<|.I 3 1 0 (.g 22 1<|.am 1 14 none (some 0) none<|.Kt [0,.z])<|.Kt [12,.z])<|.I 1 3 (.c 4) (.g 16 1<|.C 158 [9,0,16]<|.Kt [0,.z])<|.Kt [6,.z]):=Um4
abbrev Ru:Code:=eT P 93 0
def Rv:LF:=bi P 5 (.I 3 4 3 (.ae 3 3 5<|.bK 3 0<|.z 276<|.st 3 0 1<|.g 1 2<|.w 0 (.g 3 1<|.B 53 10 0<|.B 0 14 .o<|.N [11,1,13,14,0])<|.g 3 0<|.aM (fd .i32) 0<|.C 160 [0]<|.aM (fd .i64) 0<|.C 159 [0]<|.B 53 14 0<|.B 0 18 .o<|.N [15,1,17,18,0])<|.X 0 [1,2])
theorem ahs:LpI P 29 Ru 12 Rv:=.mk
theorem aht:U1 P 93 (.C 155 [0]<|.aM aZ 0<|.L true 29 Ru 12 [.v (.string ⟨#[]⟩),.v (.string ⟨#[]⟩),1,0,.z] 2 (.q 0 (.K 1)<|.F)<|.K 0):=Um1
theorem Rw:U2 P 94 (.I 2 0 .z (.K .z)<|.I 16 1 2 (.K 3)<|.K 2):=Um2
abbrev Rx:Code:=eT P 95 0
def Ry:LF:=bi P 3 (.I 2 2 (.c 64) (.ax (dE 64 1) 2 3<|.s 0 (.y 255)<|.B 0 5 .o<|.N [4,5,0])<|.X 0 [1,2])
theorem ahu:LpI P 11 Rx 3 Ry:=.mk
theorem ahv:U0 P 95 (.z 102<|.bd 102 []<|.z 102<|.st 64 0 1<|.L true 11 Rx 3 [3,1,.z] 2 (.q 0 (.bK 64 1<|.st 64 1 0<|.a 64 2<|.K 0)<|.F)<|.a 64 0<|.K 0):=Um0
abbrev Rz:Code:=eT P 96 0
def RA:LF:=bi P 6 (.I 3 5 1 (.f 1 1<|.ae 1 0 8<|.l 0<|.B 8 9 0<|.B 0 11 .o<|.N [7,8,9,10,1,0])<|.X 0 [3,4,5])
theorem ahw:LpI P 50 Rz 448 RA:=.mk
theorem ahx:U3 P 96 (.W 6 (.I 2 1 .z (.bq<|.J 0 [2,3,4,.z,.z,0])<|.f 1 1<|.aM aZ 0<|.B 9 5 0<|.bu 4 .t 0<|.J 0 [6,7,8,.z,.z,0])<|.w 5 (.Kt [.z,.c 71])<|.W 6 (.I 2 2 .z (.bq<|.J 0 [2,3,4,5,6,0])<|.f 1 1<|.ae 1 0 4<|.l 0<|.B 9 7 0<|.bu 5 .t 0<|.J 0 [7,8,9,10,11,0])<|.w 5 (.Kt [.z,.c 61])<|.L true 50 Rz 448 [0,1,3,4,2,.z] 3 (.q 0 (.Kt [2,.z])<|.F)<|.Kt [0,1]):=Um3
theorem ahy:U3 P 97 (.n 2<|.C 161 [1,2]<|.xx<|.z 102<|.st 64 0 2<|.I 6 2 .z (.K 3)<|.f 7 6<|.w 0 (.K (.c 62))<|.bK 64 4<|.C 95 []<|.ag 1 0 [6]<|.I 33 1 0 (.K (.c 63))<|.C 98 [12]<|.dA 0 (.K (.c 62))<|.f 14 3<|.bK 64 15<|.bd 209 [(0,18),(1,0)]<|.bs 201 1 [(0,0)]<|.ca (dj 65 72) 3 0<|.a8 20 3<|.s 0 1<|.K .z):=Um3
theorem ahz:U1 P 98 (.W 2 (.f 0 4<|.w 0 (.f 2 5<|.B 1 0 .z<|.bu 3 0 .f<|.J 0 [6,0])<|.pu<|.J 0 [3,0])<|.w 1 (.a8 0 6<|.s 0 .t<|.K .f)<|.f 0 4<|.w 0 (.f 2 5<|.B 5 0 .o<|.a8 5 5<|.s 0 1<|.K .t)<|.K .t):=Um1
abbrev RB:Code:=eT P 99 0
def RC:LF:=bi P 5 (.I 3 4 3 (.ae 2 3 5<|.bK 2 0<|.z 59<|.st 2 0 1<|.g 1 0<|.C 93 [0]<|.C 93 [8]<|.I 28 1 0 (.R [14])<|.B 0 14 .o<|.N [11,12,13,14,0])<|.X 0 [2])
theorem ahA:LpI P 25 RB 16 RC:=.mk
theorem ahB:U2 P 99 (.f 0 0<|.aM aZ 0<|.L true 25 RB 16 [4,.z,1,0,.z] 1 (.q 0 (.K (.c (-1)))<|.F)<|.K 0):=Um2
theorem ahC:U1 P 100 (.W 1 (.I 2 0 .o (.J 0 [.o])<|.J 0 [1])<|.I 4 0 (.c 16) (.bd 213 [(0,.c 16)]<|.n 0<|.K 0)<|.bd 213 [(0,1)]<|.n 0<|.K 0):=Um1
theorem ahD:U2 P 101 (.W 2 (.I 2 1 .z (.bq<|.w 0 (.K (.v<|.slice none 0 0))<|.J 0 [2,3])<|.B 4 2 .o<|.bu 1 .t 0<|.w 0 (.K (.v<|.slice none 0 0))<|.J 0 [3,4])<|.f 0 0<|.a8 2 1<|.ax (dE 2 1) 0 4<|.l 0<|.C 53 [3,0]<|.K 0):=Um2
theorem ahE:U4 P 102 (.W 4 (.I 2 2 .z (.J 0 [1,2,.z,4])<|.J 0 [1,2,3,4])<|.W 4 (.I 4 2 (.c 100) (.J 0 [1,2,.c 100,4])<|.J 0 [1,2,3,4])<|.bd 223 [(0,0),(1,1),(2,2),(4,3),(9,.c (-1))]<|.n 0<|.K 0):=Um4
theorem ahF:U4 P 103 (.n 1<|.bK 3 0<|.bd 139 []<|.n 0<|.bd 137 [(0,4),(1,2),(5,6),(6,7),(9,0)]<|.n 0<|.K 0):=Um4
theorem ahG:U2 P 104 (.W 2 (.I 2 0 .o (.J 0 [.o,2])<|.J 0 [1,2])<|.W 2 (.I 4 0 (.c 1000000) (.J 0 [.c 1000000,2])<|.J 0 [1,2])<|.W 2 (.I 2 1 .o (.J 0 [1,.o])<|.J 0 [1,2])<|.W 2 (.I 4 1 (.c 8) (.J 0 [1,.c 8])<|.J 0 [1,2])<|.ca (lD P 48) 1 1<|.bd 141 [(1,1),(2,0)]<|.n 0<|.K 0):=Um2
theorem ahH:U2 P 105 (.f 0 0<|.B 5 (.c 1099511627776) 0<|.W 2 (.I 16 4 0 (.J 0 [4,1])<|.J 0 [4,5])<|.I 4 1 .z (.f 1 0<|.B 8 0 4<|.a8 4 0<|.s 0 1<|.Kt [])<|.Kt []):=Um2
theorem ahI:U3 P 106 (.a8 0 6<|.s 0 2<|.a8 2 7<|.s 0 5<|.f 4 0<|.f 6 1<|.C 50 [2,0]<|.Kt []):=Um3
theorem ahJ:U2 P 107 (.a8 0 0<|.bK 3 0<|.C 86 [0]<|.w 0 (.a8 3 0<|.g 0 2<|.B 40 0 7<|.bu 4 0 .f<|.K 0)<|.pu<|.K 0):=Um2
theorem ahK:U2 P 108 (.f 0 4<|.w 0 (.f 2 3<|.B 40 5 0<|.bu 3 0 .f<|.K 0)<|.pu<|.K 0):=Um2
theorem ahL:U1 P 109 (.f 0 46<|.I 6 0 .z (.K .f)<|.f 3 5<|.aM aZ 0<|.I 4 0 .z (.f 7 5<|.ae 41 0 .z<|.bK 41 0<|.z 283<|.st 41 0 1<|.bs 130 0 []<|.f 14 5<|.am 41 0 (some .o) none none<|.ca (dj 41 144) 3 0<|.a8 18 5<|.s 0 1<|.bK 41 8<|.C 162 [21,0]<|.K .t)<|.W 1 (.f 7 45<|.I 1 0 (.c (-2)) (.bq<|.w 0 (.K .f)<|.J 0 [11])<|.f 10 3<|.aM aZ 0<|.f 13 4<|.B 9 2 0<|.bu 6 .t 0<|.w 0 (.K .f)<|.J 0 [17])<|.W 3 (.f 0 45<|.I 11 0 .z (.a8 3 8<|.bK 37 0<|.f 5 45<|.C 36 [2,0]<|.xx<|.f 10 7<|.B 8 3 0<|.J 0 [13,0,3])<|.J 0 [3,.z,.c 2304])<|.f 0 0<|.f 2 1<|.C 92 [2,0,5,6]<|.xx<|.I 1 0 (.c 181) (.C 163 [8]<|.K .t)<|.I 6 1 .z (.a8 9 46<|.s 0 3<|.K .t)<|.bs 134 0 []<|.f 10 3<|.hu [1] 2 1<|.ca (dj 2 32) 2 0<|.f 13 45<|.pi [5,3] [1]<|.hu [1] 2 1<|.hu [1] 4 3<|.bd 179 [(0,0),(1,9)]<|.bs 134 1 [(0,0)]<|.ca (dj 2 32) 4 0<|.a8 18 3<|.s 0 1<|.W 2 (.f 20 45<|.I 1 0 (.c (-1)) (.bq<|.J 0 [24,0])<|.f 23 45<|.a8 25 8<|.g 0 36<|.aM aZ 0<|.B 5 0 .o<|.B 13 5 0<|.bu 8 .t 0<|.J 0 [32,0])<|.w 1 (.a8 0 45<|.s 0 (.c (-2))<|.K .t)<|.f 0 45<|.B 0 0 .o<|.a8 3 45<|.s 0 1<|.K .t):=Um1
theorem ahM:U1 P 110 (.W 1 (.f 0 12<|.I 6 0 .z (.bq<|.w 0 (.K .f)<|.J 0 [4])<|.f 3 10<|.bu 2 .t 0<|.w 0 (.K .f)<|.J 0 [6])<|.C 164 [0]<|.I 1 0 (.c (-2)) (.f 2 6<|.aM aZ 0<|.f 5 8<|.I 9 2 0 (.K .f)<|.f 8 11<|.C 165 [0]<|.w 0 (.f 11 6<|.bd 283 [(0,.c 4)]<|.C 166 [1,0]<|.a8 15 6<|.s 0 1<|.a8 17 10<|.s 0 .t<|.K .t)<|.a8 11 12<|.s 0 (.c 153)<|.K .t)<|.W 2 (.f 2 4<|.aM aZ 0<|.I 1 0 .z (.bq<|.bq<|.w 0 (.K .f)<|.J 0 [8,7])<|.f 6 5<|.aM aZ 0<|.f 9 7<|.B 9 2 0<|.bu 6 .t 0<|.w 0 (.bq<|.w 0 (.K .f)<|.J 0 [14,13])<|.f 13 6<|.aM aZ 0<|.f 16 8<|.B 9 2 0<|.bu 6 .t 0<|.w 0 (.K .f)<|.J 0 [20,19])<|.f 0 4<|.ae 2 0 .z<|.bK 2 0<|.z 179<|.st 2 0 1<|.bs 134 0 []<|.f 7 4<|.am 2 0 (some .o) none none<|.ca (dj 2 32) 3 0<|.a8 11 4<|.s 0 1<|.g 8 0<|.I 10 0 16 (.K .t)<|.I 1 17 (.c (-1)) (.g 12 1<|.C 167 [19,0]<|.K .t)<|.f 17 11<|.g 14 0<|.g 16 1<|.C 168 [4,2,0]<|.I 6 0 .z (.f 25 5<|.g 22 0<|.bd 283 [(0,.o),(1,0)]<|.C 166 [3,0]<|.a8 31 5<|.s 0 1<|.K .t)<|.f 25 6<|.g 22 0<|.g 24 1<|.bd 283 [(0,.c 3),(1,2),(4,0)]<|.C 166 [5,0]<|.a8 33 6<|.s 0 1<|.K .t):=Um1
theorem ahN:U1 P 111 (.W 1 (.f 0 45<|.I 6 0 .z (.bq<|.w 0 (.K .f)<|.J 0 [4])<|.f 3 44<|.B 1 0 (.c 4)<|.bu 3 .t 0<|.w 0 (.K .f)<|.J 0 [7])<|.f 0 44<|.I 1 0 .o (.C 169 [3]<|.K .t)<|.f 3 44<|.I 1 0 (.c 3) (.f 6 0<|.f 8 1<|.C 170 [2,0]<|.a8 11 45<|.s 0 1<|.f 13 45<|.I 6 0 .z (.K .t)<|.f 16 0<|.f 18 2<|.C 101 [2,0]<|.a8 21 4<|.g 0 2<|.ag 2 1 [1]<|.am 1 3 none (some 0) none<|.C 35 [0]<|.a8 26 4<|.o 0 4<|.bK 32 0<|.ag 2 1 [1]<|.ag 4 3 [1]<|.I 41 3 0 (.a8 30 44<|.s 0 (.c 4)<|.K .t)<|.a8 30 45<|.s 0 (.c 153)<|.K .t)<|.f 6 42<|.aM aZ 0<|.I 4 0 .z (.f 10 0<|.f 12 1<|.f 14 43<|.f 16 42<|.ae 64 0 .z<|.bK 64 0<|.C 171 [8,6,4,0]<|.a8 21 45<|.s 0 1<|.f 23 45<|.I 1 0 .z (.bs 131 0 []<|.f 27 42<|.am 64 0 (some .o) none none<|.ca (dj 64 64) 3 0<|.a8 31 42<|.s 0 1<|.f 33 43<|.B 0 0 .o<|.a8 36 43<|.s 0 1<|.K .t)<|.K .t)<|.f 10 3<|.aM aZ 0<|.I 1 0 .z (.K .f)<|.f 14 3<|.ae 41 0 .z<|.bK 41 0<|.z 283<|.st 41 0 1<|.bs 130 0 []<|.f 21 3<|.am 41 0 (some .o) none none<|.ca (dj 41 144) 3 0<|.a8 25 3<|.s 0 1<|.bK 41 8<|.C 172 [28,0]<|.K .t):=Um1
abbrev RD:Code:=eT P 112 0
def RE:LF:=bi P 5 (.I 3 4 3 (.C 173 [1,5]<|.iN k5 [4,0]<|.B 0 7 .o<|.N [4,5,1,7,0])<|.X 0 [2,3])
theorem ahO:LpI P 22 RD 12 RE:=.mk
theorem ahP:U1 P 112 (.C 173 [0,.z]<|.f 1 2<|.aM aZ 0<|.L true 22 RD 12 [4,.z,3,0,.z] 2 (.q 0 (.K 1)<|.F)<|.K 0):=Um1
theorem ahQ:U2 P 113 (.W 2 (.I 2 1 .z (.bq<|.w 0 (.K .f)<|.J 0 [2,3])<|.f 1 2<|.aM aZ 0<|.B 9 5 0<|.bu 4 .t 0<|.w 0 (.K .f)<|.J 0 [6,7])<|.f 0 2<|.f 2 0<|.ae 1 2 5<|.s 0 1<|.K .t):=Um2
theorem ahR:U3 P 114 (.z 102<|.C 96 [1,2,3]<|.xx<|.I 6 0 .z (.bd 102 []<|.st 64 5 0<|.a 64 6<|.Kt [0,4])<|.f 5 0<|.C 161 [0,4]<|.xx<|.st 64 9 1<|.a 64 10<|.Kt [0,2]):=Um3
theorem ahS:U1 P 115 (.f 0 0<|.aM aZ 0<|.K 0):=Um1
abbrev RF:Code:=eT P 116 0
def RG:LF:=bi P 3 (.I 2 2 (.c 64) (.ax (dE 64 1) 2 3<|.s 0 (.y 255)<|.B 0 5 .o<|.N [4,5,0])<|.X 0 [1,2])
theorem ahT:LpI P 10 RF 3 RG:=.mk
theorem ahU:U0 P 116 (.z 102<|.z 102<|.L true 10 RF 3 [1,0,.z] 2 (.q 0 (.bK 64 1<|.st 64 1 0<|.a 64 2<|.K 0)<|.F)<|.a 64 0<|.K 0):=Um0
theorem ahV:U3 P 117 (.C 149 [0,1]<|.dA 0 (.Kt [.z,.c 71])<|.W 4 (.I 2 4 .z (.bq<|.J 0 [4,5,6,0])<|.f 3 1<|.ae 2 0 6<|.g 0 1<|.B 9 10 0<|.bu 6 .t 0<|.J 0 [10,11,12,0])<|.w 3 (.Kt [.z,.c 61])<|.f 0 1<|.ae 2 0 3<|.g 0 0<|.B 8 0 7<|.Kt [0,.z]):=Um3
theorem ahW:U3 P 118 (.n 1<|.I 19 3 .z (.f 2 2<|.o 3 3<|.s 0 1<|.f 6 3<|.bK 4 7<|.bs 80 1 [(0,0)]<|.ca (dj 4 32) 2 0<|.a8 11 3<|.s 0 1<|.K 15)<|.K 4):=Um3
theorem ahX:U3 P 119 (.n 2<|.C 174 [1,2]<|.I 42 0 (.v (.pointer none)) (.K (.c 61))<|.f 3 4<|.w 0 (.K (.c 62))<|.a8 3 64<|.bK 64 0<|.C 116 []<|.ag 1 0 [2]<|.I 33 1 0 (.K (.c 63))<|.C 175 [9]<|.dA 0 (.K (.c 62))<|.bK 64 10<|.C 176 [12,13,0]<|.K .z):=Um3
abbrev RH:Code:=eT P 120 0
def RI:LF:=bi P 5 (.I 3 4 3 (.ae 65 3 5<|.bK 65 0<|.z 300<|.st 65 0 1<|.f 5 0<|.g 3 0<|.o 5 1<|.bK 64 0<|.ae 129 4 2<|.o 0 0<|.st 64 0 2<|.B 0 18 .o<|.N [15,16,17,18,0])<|.X 0 [1,2])
theorem ahY:LpI P 37 RH 5 RI:=.mk
theorem ahZ:U1 P 120 (.W 2 (.f 0 4<|.w 0 (.bq<|.w 0 (.K (.c 62))<|.J 0 [3,.z])<|.C 175 [2]<|.b5 (kq .not) 0<|.bu 2 .t 0<|.w 0 (.K (.c 62))<|.J 0 [5,.z])<|.f 0 1<|.aM aZ 0<|.L true 37 RH 5 [3,4,1,0,.z] 2 (.q 0 (.a8 0 1<|.s 0 (.v<|.slice none 0 0)<|.K .z)<|.F)<|.K 1):=Um1
theorem ah0:U1 P 121 (.I 71 0 (.v<|.slice none 0 0) (.K (.v<|.slice none 0 0))<|.bs 24 0 []<|.ca (dj 3 24) 0 2<|.K 0):=Um1
theorem ah1:U1 P 124 (.I 72 0 (.v<|.slice none 0 0) (.K (.v<|.slice none 0 0))<|.bs 22 0 []<|.ca (dj 1 1) 0 2<|.K 0):=Um1
theorem ah2:U1 P 125 (.C 84 [0]<|.f 1 1<|.ag 2 1 [1]<|.I 9 2 0 (.K (.c 221))<|.K .z):=Um1
theorem ah3:U1 P 126 (.C 182 [0]<|.xx<|.w 0 (.f 3 0<|.f 5 1<|.ae 1 2 0<|.s 0 (.v .nilIface)<|.C 183 [9,.o]<|.a8 10 1<|.s 0 1<|.f 12 2<|.B 5 0 .o<|.a8 15 2<|.s 0 1<|.Kt [15,14])<|.Kt [1,0]):=Um1
def IW:V2:=fun t0 W H K=>iO (es t0) H fun a b=>bD (kF 313 (gy P 313) W) fun c=>bD (la 0 c) fun d=>bD (la 1 c) fun e=>iO (fF P 313) b fun f g=>a7 (d9 1 f d g) fun h i=>fW e (a7 (db a i) fun j k=>bD (gh 0 f) fun m=>a7 (db m k) fun n o=>aG P 185 [j,n] o fun p q=>bD (kq .not p) fun r=>fW r (a7 (db a q) fun s t=>a8 s 7 fun v=>a7 (d9 1 v (int 192) t) fun w x=>K (.tuple [].toArray) x) (a7 (db a q) fun s t=>aG P 132 [s] t fun u v=>fW u (a7 (db a v) fun w x=>bD (gh 0 f) fun y=>a7 (db y x) fun z A=>a8 w 6 fun C=>a7 (d9 1 C z A) fun D l=>K (.tuple [].toArray) l) (K (.tuple [].toArray) v))) (bD (kF 316 (gy P 316) W) fun j=>bD (la 1 j) fun k=>fW k (bD (us 316 W) fun m=>iO (fF P 316) i fun n o=>a7 (d9 38 n m o) fun p q=>ws (fun r=>a7 (db a q) fun s t=>a8 s 5 fun v=>a7 (db v t) fun w x=>bD (cz P .neq 242 true w (.pointer none)) fun y=>fW y (bD (jP y (.bool true) undef) fun z=>bD (jP z (.bool true) undef) fun A=>bD (jP A (.bool true) undef) fun B=>r [a,n,B] x) (bD (gh 1 n) fun z=>a7 (jo 37 z x) fun A B=>aG P 186 [A] B fun C D=>bD (kq .not C) fun l=>bD (jP y (.bool true) l) fun F=>fW F (bD (jP F (.bool true) undef) fun N=>bD (jP N (.bool true) undef) fun I=>r [a,n,I] D) (bD (gh 0 n) fun N=>a7 (db N D) fun I J=>bD (cz P .lss 3 true I (int 0)) fun L=>bD (jP F (.bool true) L) fun M=>fW M (bD (jP M (.bool true) undef) fun V=>r [a,n,V] J) (bD (gh 0 n) fun V=>a7 (db V J) fun Q R=>bD (cz P .gtr 3 true Q (int 2304)) fun S=>bD (jP M (.bool true) S) fun T=>r [a,n,T] R)))) (fun r s=>fW (r 2) (a7 (db (r 0) s) fun t u=>a8 t 7 fun w=>a7 (d9 1 w (int 192) u) fun x y=>K (.tuple [].toArray) y) (a7 (db (r 0) s) fun t u=>a7 (db (r 0) u) fun v w=>a8 t 5 fun y=>a7 (d9 1 y (r 1) w) fun z A=>pP (dM [r 0]) (dM [y,r 1])/\(a8 v 6 fun C=>a7 (d9 1 C (int 0) A) fun D l=>K (.tuple [].toArray) l)))) (a7 (db a i) fun m n=>a8 m 7 fun p=>a7 (d9 1 p (int 192) n) fun q r=>K (.tuple [].toArray) r))
theorem ah4(a b:Value)(H:an)(K:VH):AE P Seal.yw 127 [a,b] H K=IW a b H K:=by kernel_rfl
theorem ah5{a b:Value}{H:an}{K:VH}(h:IW a b H K):aG P 127 [a,b] H K:=HT rfl ((ah4 a b H K).mpr h)
theorem ah6:U1 P 128 (.f 0 3<|.w 0 (.K .z)<|.f 2 0<|.aM aZ 0<|.f 5 2<|.B 21 2 0<|.K 0):=Um1
theorem ah7:U1 P 129 (.f 0 6<|.I 1 0 (.c (-1)) (.f 3 0<|.f 5 1<|.C 187 [2,0,.z,.c 2304]<|.xx<|.Kt [1,0])<|.f 3 5<|.a8 0 1<|.bK 37 0<|.f 7 6<|.C 188 [2,0]<|.xx<|.f 12 0<|.f 14 1<|.f 16 5<|.f 0 0<|.B 8 0 9<|.C 187 [7,5,0,9]<|.xx<|.Kt [1,0]):=Um1
theorem ah8:U2 P 130 (.n 1<|.C 128 [1]<|.I 1 0 .z (.K .f)<|.f 3 0<|.f 5 2<|.C 189 [7,0]<|.ag 1 0 [4]<|.bK 2 7<|.ag 2 1 [8]<|.ae 2 4 1<|.st 2 0 1<|.f 11 2<|.B 0 0 .o<|.a8 14 2<|.s 0 1<|.K .t):=Um2
theorem ah9:U1 P 131 (.f 0 6<|.B 0 0 .o<|.a8 3 6<|.s 0 1<|.W 2 (.f 5 5<|.I 54 0 (.v (.pointer none)) (.bq<|.J 0 [9,0])<|.f 8 6<|.f 10 5<|.a8 0 1<|.g 0 36<|.aM aZ 0<|.B 13 6 0<|.bu 9 .t 0<|.J 0 [18,0])<|.w 1 (.a8 0 6<|.s 0 (.c (-2))<|.Kt [])<|.Kt []):=Um1
theorem aia:U1 P 132 (.f 0 2<|.I 1 0 .z (.a8 3 7<|.s 0 (.c 191)<|.K .f)<|.f 3 2<|.B 5 0 .o<|.a8 6 2<|.s 0 1<|.K .t):=Um1
theorem aib:U2 P 133 (.C 190 [0,1]<|.dA 0 (.K .f)<|.f 2 2<|.f 4 0<|.ae 1 2 7<|.s 0 1<|.K .t):=Um2
theorem RJ:U1 P 134 (.f 0 44<|.I 73 0 (.v (.pointer none)) (.K (.c (-1)))<|.f 3 44<|.C 191 [0]<|.w 0 (.K (.c (-2)))<|.f 6 44<|.C 192 [0]<|.K 0):=Um1
theorem aic:U1 P 135 (.f 0 6<|.C 137 [0]<|.I 1 0 .z (.K .f)<|.f 4 44<|.C 193 [0]<|.dA 0 (.a8 8 46<|.s 0 (.c 153)<|.K .t)<|.f 8 6<|.bd 320 []<|.C 194 [1,.i 320 0]<|.a8 12 45<|.s 0 .t<|.K .t):=Um1
theorem aid:U1 P 136 (.f 0 2<|.K 0):=Um1
theorem aie:U1 P 137 (.f 0 3<|.w 0 (.K .z)<|.f 2 0<|.aM aZ 0<|.f 5 2<|.B 21 2 0<|.K 0):=Um1
theorem aif:U1 P 138 (.z 179<|.C 195 [1]<|.xx<|.z 179<|.st 2 0 2<|.w 2 (.z 179<|.f 7 0<|.f 9 1<|.bK 2 4<|.ae 2 3 1<|.st 2 0 1<|.C 189 [14,.o]<|.a8 15 1<|.s 0 1<|.f 17 2<|.B 5 0 .o<|.a8 20 2<|.s 0 1<|.bK 2 17<|.st 2 22 0<|.a 2 23<|.Kt [0,21])<|.bK 2 1<|.st 2 6 0<|.a 2 7<|.Kt [0,5]):=Um1
theorem aih:U2 P 139 (.f 0 0<|.C 196 [0,3]<|.xx<|.x 2 2<|.z 55<|.st 37 0 3<|.I 7 2 .z (.f 9 5<|.bd 313 [(0,.c (-1))]<|.C 194 [1,.i 313 0]<|.Kt [])<|.bK 37 2<|.a8 10 1<|.bK 3 0<|.C 197 [2,0]<|.I 7 0 .z (.a8 14 46<|.s 0 2<|.Kt [])<|.bK 37 7<|.a8 15 7<|.st 37 0 1<|.bK 37 10<|.C 198 [0]<|.xx<|.a8 21 44<|.s 0 2<|.f 23 5<|.bK 37 18<|.bd 316 [(0,21),(1,0)]<|.C 194 [2,.i 316 0]<|.f 28 6<|.bK 37 23<|.bd 316 [(0,26),(1,0)]<|.C 194 [2,.i 316 0]<|.Kt []):=Um2
theorem aii:U2 P 140 (.n 1<|.f 1 44<|.g 2 0<|.g 4 1<|.C 199 [4,2,0]<|.I 7 0 .z (.f 9 5<|.g 10 0<|.bd 313 [(0,0)]<|.C 194 [3,.i 313 0]<|.Kt [])<|.f 9 6<|.g 10 0<|.g 12 1<|.bd 327 [(0,2),(1,0)]<|.C 194 [5,.i 327 0]<|.Kt []):=Um2
abbrev RK:Code:=eT P 141 0
def RL:LF:=bi P 3 (.I 3 2 1 (.f 1 0<|.f 3 2<|.C 200 [2,0,7]<|.xx<|.z 102<|.st 64 0 2<|.W 5 (.I 19 2 .z (.bK 64 2<|.C 116 []<|.ag 1 0 [4]<|.B 33 1 0<|.bu 3 0 .f<|.J 0 [15,17,16,17,0])<|.pu<|.J 0 [12,14,13,14,0])<|.w 4 (.f 0 0<|.f 2 1<|.C 201 [2,0,5]<|.a8 5 45<|.s 0 1<|.R [7])<|.B 0 3 .o<|.N [1,3,0])<|.X 0 [1])
theorem aij:LpI P 54 RK 1 RL:=.mk
theorem aik:U1 P 141 (.f 0 0<|.f 2 2<|.C 79 [2,0]<|.L true 54 RK 1 [5,0,.z] 1 (.q 0 (.a8 0 44<|.s 0 (.c 2)<|.Kt [])<|.F)<|.Kt []):=Um1
theorem ail:U1 P 142 (.f 0 0<|.f 2 1<|.C 202 [2,0]<|.a8 5 45<|.s 0 1<|.f 7 45<|.I 7 0 .z (.Kt [])<|.f 10 0<|.f 12 2<|.C 203 [2,0]<|.W 2 (.aM aZ 0<|.a8 16 4<|.g 0 2<|.I 3 3 0 (.bq<|.J 0 [21,0])<|.a8 20 4<|.g 0 2<|.am 1 8 none (some 0) none<|.bs 369 1 [(0,0)]<|.C 204 [0]<|.a8 26 4<|.o 0 4<|.bK 32 0<|.ag 2 1 [1]<|.hu [1] 3 2<|.B 24 3 0<|.bu 10 .t 0<|.J 0 [31,0])<|.w 1 (.a8 0 45<|.s 0 (.c 153)<|.Kt [])<|.a8 0 44<|.s 0 (.c 4)<|.Kt []):=Um1
theorem aim:U1 P 143 (.f 0 0<|.f 2 1<|.f 4 43<|.f 6 42<|.ae 64 0 .z<|.bK 64 0<|.C 205 [8,6,4,0]<|.a8 11 45<|.s 0 1<|.f 13 45<|.I 19 0 .z (.f 16 42<|.am 64 0 (some .o) none none<|.a8 19 42<|.s 0 1<|.f 21 43<|.B 0 0 .o<|.a8 24 43<|.s 0 1<|.Kt [])<|.Kt []):=Um1
def IX:V2:=fun t0 V H K=>iO (es t0) H fun a b=>a7 (db a b) fun c d=>a8 c 44 fun f=>a7 (db f d) fun g h=>bD (cz P .eql 3 true g (int 0)) fun i=>fW i (bD (kF 316 (gy P 316) V) fun j=>bD (la 1 j) fun k=>fW k (a7 (db a h) fun m n=>a7 (db a n) fun o p=>bD (us 316 V) fun q=>aG P 207 [o,q] p fun r s=>iP (ik p s) (dM [a])/\(a8 m 45 fun u=>a7 (d9 1 u r s) fun v w=>K (.tuple [].toArray) w)) (a7 (db a h) fun m n=>a8 m 45 fun p=>a7 (d9 1 p (int 192) n) fun q r=>K (.tuple [].toArray) r)) (bD (kF 327 (gy P 327) V) fun j=>bD (la 0 j) fun k=>bD (la 1 j) fun m=>iO (fF P 327) h fun n o=>a7 (d9 2 n k o) fun p q=>fW m (a7 (db a q) fun r s=>a7 (db a s) fun t u=>a7 (jo 2 n u) fun v w=>aG P 208 [t,v] w fun x y=>iP (ik w y) (dM [a])/\(a8 r 45 fun A=>a7 (d9 1 A x y) fun B C=>K (.tuple [].toArray) C)) (bD (kF 320 (gy P 320) V) fun r=>bD (la 1 r) fun s=>fW s (bD (us 320 V) fun t=>a7 (db a q) fun u v=>a8 u 41 fun x=>a7 (db x v) fun y z=>a7 (db a z) fun A B=>a8 A 4 fun D=>bD (gh 36 D) fun l=>a7 (db l B) fun F N=>a7 (aZ F N) fun I J=>bD (cz P .lss 3 false y I) fun L=>fW L (a7 (db a J) fun M e=>a8 M 45 fun R=>a7 (d9 1 R (int 192) e) fun S T=>K (.tuple [].toArray) T) (a7 (db a J) fun M e=>a8 M 44 fun R=>a7 (d9 1 R (int 3) e) fun S T=>K (.tuple [].toArray) T)) (a7 (db a q) fun t u=>a8 t 45 fun w=>a7 (d9 1 w (int 192) u) fun x y=>K (.tuple [].toArray) y)))
theorem ain(a b:Value)(H:an)(K:VH):AE P Seal.yv 144 [a,b] H K=IX a b H K:=by kernel_rfl
theorem aio{a b:Value}{H:an}{K:VH}(h:IX a b H K):aG P 144 [a,b] H K:=HT rfl ((ain a b H K).mpr h)
abbrev RM:Code:=eT P 145 0
def RN:LF:=bi P 5 (.I 3 4 3 (.ae 32 3 5<|.bK 32 0<|.z 52<|.st 32 0 1<|.mw 32 1 1 none none none<|.ca (dj 1 1) 7 0<|.B 0 11 .o<|.N [8,1,10,11,0])<|.X 0 [1,2])
theorem aip:LpI P 49 RM 12 RN:=.mk
theorem aiq:U1 P 145 (.n 0<|.bs 22 0 []<|.bK 37 1<|.C 34 [0]<|.dA 0 (.K 3)<|.g 4 0<|.C 209 [0]<|.ca (dj 1 1) 6 0<|.g 8 1<|.C 147 [0,.c 8]<|.ca (dj 1 1) 3 0<|.g 12 2<|.aM (fd .u64) 0<|.C 147 [0,.c 4]<|.ca (dj 1 1) 4 0<|.g 17 3<|.aM (fd .u64) 0<|.C 147 [0,.c 2]<|.ca (dj 1 1) 4 0<|.o 22 4<|.mw 32 1 0 none none none<|.ca (dj 1 1) 2 0<|.g 25 36<|.aM aZ 0<|.L true 49 RM 12 [.v (.slice none 0 0),3,1,0,.z] 2 (.q 0 (.K 1)<|.F)<|.K 0):=Um1
theorem air:U2 P 146 (.C 210 [0,1]<|.z 52<|.st 32 0 1<|.bs 22 0 []<|.ca (dj 1 1) 0 5<|.mw 32 1 3 none none none<|.pi [2,7] [4]<|.hu [4] 1 0<|.hu [4] 2 1<|.ca (dj 1 1) 1 0<|.K 0):=Um2
abbrev RO:Code:=eT P 147 0
def ais:LF:=bi P 5 (.C 211 [1]<|.I 3 5 0 (.B 22 2 (.h 256)<|.aM (fd .u8) 0<|.bs 22 1 [(0,0)]<|.ca (dj 1 1) 8 0<|.B 48 6 (.h 256)<|.B 0 11 .o<|.N [1,9,10,2,0])<|.X 0 [4,5])
theorem ait:LpI P 23 RO 48 ais:=.mk
theorem aiu:U2 P 147 (.bs 22 0 []<|.L true 23 RO 48 [1,2,.v (.slice none 0 0),0,.z] 2 (.q 0 (.K 1)<|.F)<|.K 0):=Um2
theorem aiv:U1 P 148 (.I 74 0 (.v<|.slice none 0 0) (.K (.v<|.slice none 0 0))<|.bs 53 0 []<|.ca (dj 32 32) 0 2<|.K 0):=Um1
theorem aiw:U2 P 149 (.I 11 1 .z (.f 1 1<|.aM aZ 0<|.B 3 5 0<|.bu 4 0 .f<|.K 0)<|.pu<|.K 0):=Um2
theorem aix:U2 P 150 (.z 102<|.C 174 [1,2]<|.I 42 0 (.v (.pointer none)) (.bd 102 []<|.st 64 3 0<|.a 64 4<|.Kt [0,.c 61])<|.a8 1 64<|.bK 64 0<|.st 64 4 0<|.a 64 5<|.Kt [0,.z]):=Um2
theorem aiy:U2 P 151 (.W 2 (.I 2 1 .z (.bq<|.w 0 (.K (.c (-1)))<|.J 0 [2,3])<|.B 11 2 (.c 2)<|.bu 1 .t 0<|.w 0 (.K (.c (-1)))<|.J 0 [3,4])<|.a8 0 4<|.ax (dE 2 1) 0 2<|.l 0<|.K 0):=Um2
abbrev RP:Code:=eT P 152 0
def RQ:LF:=bi P 4 (.aM aZ 0<|.I 3 4 0 (.ae 1 2 5<|.l 0<|.iN mO [6,0]<|.B 0 8 .o<|.N [6,7,1,0])<|.X 0 [3,4])
theorem aiz:LpI P 25 RP 12 RQ:=.mk
theorem aiA:U1 P 152 (.W 2 (.aM aZ 0<|.I 2 0 .o (.F)<|.J 0 [2,.z])<|.ae 1 0 .z<|.l 0<|.L true 25 RP 12 [2,3,0,.o] 2 (.q 0 (.K 1)<|.F)<|.K 0):=Um1
def RR:V1:=fun t0 H K=>a8 t0 2 fun b=>a7 (db b H) fun c d=>a8 t0 0 fun f=>a7 (db f d) fun g h=>a7 (qq P .clear [134] [g] h) fun i j=>a8 t0 1 fun m=>a7 (d9 1 m (int 0) j) fun n o=>a8 t0 2 fun q=>a7 (d9 1 q (int 0) o) fun r s=>a8 t0 3 fun u=>a7 (d9 1 u (.bool true) s) fun v w=>K c w
theorem aiB:W1 P 153 RR:=Wm1
def RS:V1:=fun t0 H K=>a8 t0 2 fun b=>a7 (db b H) fun c d=>a8 t0 0 fun f=>a7 (db f d) fun g h=>a7 (qq P .clear [269] [g] h) fun i j=>a8 t0 1 fun m=>a7 (d9 1 m (int 0) j) fun n o=>a8 t0 2 fun q=>a7 (d9 1 q (int 0) o) fun r s=>a8 t0 3 fun u=>a7 (d9 1 u (.bool true) s) fun v w=>K c w
theorem aiC:W1 P 154 RS:=Wm1
abbrev RT:Code:=eT P 155 0
def RU:LF:=bi P 3 (.I 75 0 (.v<|.string ⟨#[]⟩) (.C 212 [1]<|.z 276<|.st 3 0 1<|.bK 3 1<|.bs 273 1 [(0,0)]<|.ca (dj 3 32) 8 0<|.g 4 1<|.aM wu 0<|.cM 10 (some 0) none none<|.N [0,12,4])<|.X 0 [2,3])
theorem aiD:LpI P 20 RT 12 RU:=.mk
theorem aiE:U1 P 155 (.bs 273 0 []<|.L true 20 RT 12 [1,.v (.slice none 0 0),0] 2 (.q 0 (.K 1)<|.F)<|.K 0):=Um1
abbrev RV:Code:=eT P 158 0
def RW:LF:=bi P 5 (.W 5 (.aM aZ 0<|.I 3 5 0 (.aM aZ 5<|.B 3 0 4<|.bu 2 0 .f<|.w 0 (.J 0 [5,6,7,8,9])<|.X 0 [7,8])<|.pu<|.w 0 (.J 0 [3,4,5,6,7])<|.X 0 [5,6])<|.ae 1 0 4<|.l 0<|.bs 22 1 [(0,0)]<|.ca (dj 1 1) 6 0<|.B 0 8 .o<|.N [5,6,7,1,0])
theorem aiF:LpI P 34 RV 192 RW:=.mk
theorem aiG:U3 P 158 (.bs 22 0 []<|.I 2 2 .z (.K 1)<|.L true 34 RV 192 [2,4,.v (.slice none 0 0),1,3] 2 (.q 0 (.K 1)<|.F)<|.K 0):=Um3
theorem aiH:U1 P 159 (.bs 22 0 []<|.I 2 1 (.c 128) (.aM (fd .u8) 2<|.bs 22 1 [(0,0)]<|.ca (dj 1 1) 3 0<|.aM jD 0<|.K 0)<|.I 2 2 (.c 2048) (.B 20 3 (.c 64)<|.B 0 (.c 192) 0<|.aM (fd .u8) 0<|.B 15 6 (.c 64)<|.B 0 (.c 128) 0<|.aM (fd .u8) 0<|.bs 22 2 [(0,3),(1,0)]<|.ca (dj 1 1) 9 0<|.aM jD 0<|.K 0)<|.I 2 3 (.c 65536) (.B 20 4 (.c 4096)<|.B 0 (.c 224) 0<|.aM (fd .u8) 0<|.B 20 7 (.c 64)<|.B 15 0 (.c 64)<|.B 0 (.c 128) 0<|.aM (fd .u8) 0<|.B 15 11 (.c 64)<|.B 0 (.c 128) 0<|.aM (fd .u8) 0<|.bs 22 3 [(0,7),(1,3),(2,0)]<|.ca (dj 1 1) 14 0<|.aM jD 0<|.K 0)<|.B 20 4 (.c 262144)<|.B 0 (.c 240) 0<|.aM (fd .u8) 0<|.B 20 7 (.c 4096)<|.B 15 0 (.c 64)<|.B 0 (.c 128) 0<|.aM (fd .u8) 0<|.B 20 11 (.c 64)<|.B 15 0 (.c 64)<|.B 0 (.c 128) 0<|.aM (fd .u8) 0<|.B 15 15 (.c 64)<|.B 0 (.c 128) 0<|.aM (fd .u8) 0<|.bs 22 4 [(0,11),(1,7),(2,3),(3,0)]<|.ca (dj 1 1) 18 0<|.aM jD 0<|.K 0):=Um1
abbrev RX:Code:=eT P 161 0
def RY:LF:=bi P 7 (.I 3 6 5 (.ae 65 5 7<|.bK 65 0<|.z 209<|.st 65 0 1<|.g 1 0<|.I 13 0 7 (.o 4 1<|.bK 64 0<|.st 64 13 0<|.B 0 17 .o<|.N [12,13,14,15,16,17,0])<|.B 0 14 .o<|.N [9,10,11,12,13,14,0])<|.X 0 [2,3,4])
theorem aiI:LpI P 38 RX 112 RY:=.mk
theorem aiJ:U2 P 161 (.z 102<|.C 215 [1,2]<|.dA 0 (.bd 102 []<|.st 64 3 0<|.a 64 4<|.Kt [0,.c 61])<|.f 3 0<|.ae 64 0 6<|.bK 64 0<|.z 102<|.st 64 0 1<|.f 9 3<|.aM aZ 0<|.L true 38 RX 112 [13,11,.z,4,1,0,.z] 3 (.q 0 (.bK 64 2<|.st 64 1 0<|.a 64 2<|.Kt [0,.z])<|.F)<|.a 64 0<|.Kt [0,2]):=Um2
theorem aiK:U2 P 162 (.n 1<|.W 3 (.g 0 0<|.I 1 0 .o (.f 4 6<|.dA 0 (.g 6 1<|.B 1 0 (.c (-1))<|.bu 3 0 .f<|.w 0 (.bq<|.bu 8 0 .f<|.J 0 [13,12,0])<|.f 11 6<|.w 0 (.g 12 1<|.B 11 0 .z<|.bu 3 0 .f<|.w 0 (.g 16 1<|.a8 19 8<|.g 0 36<|.aM aZ 0<|.B 3 4 0<|.bu 7 0 .f<|.bu 14 .t 0<|.bu 22 0 .f<|.J 0 [27,26,0])<|.pu<|.bu 7 .t 0<|.bu 15 0 .f<|.J 0 [20,19,0])<|.pu<|.pu<|.bu 4 .t 0<|.bu 12 0 .f<|.J 0 [17,16,0])<|.pu<|.f 8 6<|.w 0 (.g 9 1<|.B 11 0 .z<|.bu 3 0 .f<|.w 0 (.g 13 1<|.a8 16 8<|.g 0 36<|.aM aZ 0<|.B 3 4 0<|.bu 7 0 .f<|.bu 14 .t 0<|.bu 19 0 .f<|.J 0 [24,23,0])<|.pu<|.bu 7 .t 0<|.bu 12 0 .f<|.J 0 [17,16,0])<|.pu<|.pu<|.bu 4 .t 0<|.bu 9 0 .f<|.J 0 [14,13,0])<|.pu<|.J 0 [5,4,0])<|.w 2 (.C 163 [0]<|.f 1 46<|.I 1 0 .z (.g 5 1<|.a8 6 45<|.s 0 1<|.Kt [])<|.Kt [])<|.W 3 (.g 1 0<|.I 6 0 (.c 2) (.bq<|.bq<|.bq<|.bq<|.J 0 [7,8,0])<|.f 3 6<|.bu 2 .t 0<|.w 0 (.bq<|.bq<|.bq<|.J 0 [9,10,0])<|.o 7 3<|.bK 37 0<|.C 34 [0]<|.b5 (kq .not) 0<|.bu 4 .t 0<|.w 0 (.bq<|.bq<|.J 0 [13,14,0])<|.g 12 2<|.B 2 0 .z<|.bu 3 .t 0<|.w 0 (.bq<|.J 0 [16,17,0])<|.g 16 2<|.B 4 0 (.c 2304)<|.bu 3 .t 0<|.J 0 [19,20,0])<|.w 2 (.a8 0 46<|.s 0 (.c 192)<|.Kt [])<|.a8 0 6<|.s 0 .t<|.o 3 3<|.bK 37 0<|.a8 4 8<|.st 37 0 1<|.g 7 2<|.a8 8 7<|.s 0 1<|.a8 10 45<|.s 0 .z<|.Kt []):=Um2
theorem aiL:U1 P 163 (.f 0 2<|.I 1 0 .z (.a8 3 46<|.s 0 (.c 191)<|.Kt [])<|.f 3 2<|.B 5 0 .o<|.a8 6 2<|.s 0 1<|.Kt []):=Um1
theorem aiM:U1 P 164 (.f 0 9<|.dA 0 (.K (.c (-1)))<|.f 3 11<|.C 216 [0]<|.w 0 (.K (.c (-2)))<|.f 6 11<|.f 0 38<|.K 0):=Um1
theorem aiN:U1 P 165 (.C 216 [0]<|.w 0 (.f 1 37<|.C 35 [0]<|.a8 4 0<|.o 0 4<|.bK 32 0<|.ag 2 1 [1]<|.B 41 3 0<|.bu 7 0 .f<|.K 0)<|.pu<|.K 0):=Um1
theorem aiO:U2 P 166 (.n 1<|.bs 130 0 []<|.ca (dj 41 144) 0 2<|.bK 41 2<|.pi [2,4] [3]<|.hu [3] 2 1<|.hu [3] 3 2<|.bs 130 1 [(0,0)]<|.ca (dj 41 144) 2 0<|.K 0):=Um2
theorem aiP:U2 P 167 (.f 0 0<|.C 217 [0,3]<|.xx<|.x 2 2<|.z 55<|.st 37 0 3<|.I 6 2 .z (.f 9 5<|.bd 283 [(0,.o),(1,.c (-1))]<|.C 166 [1,0]<|.a8 13 5<|.s 0 1<|.Kt [])<|.bK 37 2<|.a8 10 1<|.bK 3 0<|.C 38 [2,0]<|.a8 13 12<|.s 0 1<|.f 15 12<|.I 6 0 .z (.Kt [])<|.a8 18 9<|.s 0 .t<|.f 20 11<|.bK 37 15<|.a8 1 0<|.st 37 0 1<|.bK 37 18<|.bd 283 [(0,.c 2),(2,21),(3,0)]<|.z 283<|.st 41 0 1<|.f 29 5<|.bK 41 3<|.C 166 [1,0]<|.a8 33 5<|.s 0 1<|.f 35 6<|.bK 41 9<|.C 166 [1,0]<|.a8 39 6<|.s 0 1<|.Kt []):=Um2
theorem aiQ:U3 P 168 (.W 3 (.C 216 [0]<|.w 0 (.bq<|.w 0 (.K (.c 151))<|.J 0 [2,3,4])<|.f 1 38<|.B 10 4 0<|.bu 3 .t 0<|.w 0 (.K (.c 151))<|.J 0 [5,6,7])<|.a8 0 0<|.bK 37 0<|.C 36 [0,3]<|.xx<|.W 2 (.aM aZ 7<|.I 10 0 1 (.bq<|.w 0 (.K (.c 152))<|.J 0 [8,10])<|.C 35 [9]<|.a8 8 0<|.g 0 36<|.ag 2 1 [1]<|.ae 32 0 12<|.bK 32 0<|.ag 3 2 [1]<|.B 24 5 0<|.bu 7 .t 0<|.w 0 (.K (.c 152))<|.J 0 [15,17])<|.f 0 37<|.ca (dj 1 1) 0 3<|.a8 3 37<|.s 0 1<|.f 5 38<|.B 0 0 .o<|.a8 8 38<|.s 0 1<|.K .z):=Um3
abbrev RZ:Code:=eT P 169 0
def R0:LF:=bi P 2 (.C 218 [0]<|.I 3 2 0 (.f 2 0<|.f 4 2<|.C 219 [2,0,7]<|.xx<|.z 102<|.st 64 0 2<|.bK 64 1<|.C 95 []<|.ag 1 0 [3]<|.I 33 1 0 (.f 14 0<|.f 16 1<|.C 220 [2,0,19]<|.a8 19 45<|.s 0 1<|.R [21])<|.B 0 15 .o<|.N [15,0])<|.X 0 [2])
theorem aiR:LpI P 43 RZ 1 R0:=.mk
theorem aiS:U1 P 169 (.L true 43 RZ 1 [0,.z] 1 (.q 0 (.a8 0 44<|.s 0 (.c 2)<|.Kt [])<|.F)<|.Kt []):=Um1
theorem aiT:U2 P 170 (.C 108 [0,1]<|.dA 0 (.K (.c 161))<|.f 2 0<|.f 0 0<|.C 41 [0]<|.K 0):=Um2
theorem aiU:U4 P 171 (.n 3<|.C 108 [1,2]<|.dA 0 (.K (.c 161))<|.f 3 0<|.f 0 2<|.f 7 0<|.f 9 5<|.a8 2 2<|.s 0 1<|.f 13 0<|.f 15 6<|.a8 17 1<|.ax (dE 2 1) 0 1<|.l 0<|.bK 64 19<|.C 40 [6,1,23,0]<|.f 22 0<|.a8 0 2<|.s 0 18<|.K 4):=Um4
end
end J
