/- texts of the kp, du behind the jV -/
import Derived.Test.YtifflnhooaophaaGreatDoorUC
set_option linter.unusedVariables false
set_option linter.unusedSimpArgs false
set_option linter.unusedSectionVars false
noncomputable section
set_option maxRecDepth 100000
open List Nat
namespace J
open Go Go.Ab
section
theorem aiV:U2 P 172 (.n 1<|.f 1 44<|.I 1 0 .z (.W 3 (.g 3 0<|.I 6 0 (.c 2) (.bq<|.J 0 [8,7,0])<|.o 6 3<|.bK 37 0<|.C 34 [0]<|.b5 (kq .not) 0<|.bu 4 .t 0<|.J 0 [12,11,0])<|.w 2 (.a8 0 45<|.s 0 (.c 192)<|.Kt [])<|.o 1 3<|.g 0 2<|.C 218 [3]<|.ag 1 0 [2]<|.B 12 (.c 64) 0<|.I 16 2 0 (.a8 6 45<|.s 0 (.c 145)<|.Kt [])<|.o 7 3<|.bK 37 0<|.a8 8 4<|.st 37 0 1<|.a8 10 44<|.s 0 .o<|.Kt [])<|.a8 4 4<|.bK 37 0<|.f 6 41<|.C 36 [2,0]<|.xx<|.W 3 (.g 10 0<|.I 1 0 (.c 3) (.g 13 1<|.f 16 41<|.B 13 2 0<|.bu 5 0 .f<|.w 0 (.f 20 41<|.a8 22 4<|.g 0 36<|.aM aZ 0<|.B 3 4 0<|.bu 7 0 .f<|.w 0 (.g 27 40<|.aM aZ 0<|.B 13 0 20<|.bu 4 0 .f<|.J 0 [33,32,0])<|.pu<|.J 0 [29,28,0])<|.pu<|.pu<|.J 0 [22,21,0])<|.pu<|.pu<|.pu<|.J 0 [17,16,0])<|.w 2 (.g 1 40<|.C 221 [0]<|.a8 3 42<|.s 0 1<|.f 5 41<|.B 0 0 .o<|.a8 8 41<|.s 0 1<|.Kt [])<|.W 2 (.g 1 0<|.I 1 0 (.c 4) (.f 3 41<|.a8 5 4<|.g 0 36<|.aM aZ 0<|.B 13 4 0<|.bu 7 0 .f<|.J 0 [11,0])<|.pu<|.J 0 [4,0])<|.w 1 (.a8 0 44<|.s 0 (.c 3)<|.Kt [])<|.a8 0 45<|.s 0 (.c 192)<|.Kt []):=Um2
theorem aiW:U2 P 173 (.W 2 (.I 2 1 .z (.bq<|.w 0 (.K (.c (-1)))<|.J 0 [2,3])<|.f 1 2<|.aM aZ 0<|.B 9 5 0<|.bu 4 .t 0<|.w 0 (.K (.c (-1)))<|.J 0 [6,7])<|.f 0 0<|.f 2 2<|.ae 1 0 5<|.l 0<|.B 21 4 0<|.K 0):=Um2
theorem aiX:U2 P 174 (.W 2 (.I 2 1 .z (.bq<|.w 0 (.K (.v (.pointer none)))<|.J 0 [2,3])<|.f 1 0<|.aM aZ 0<|.B 9 5 0<|.bu 4 .t 0<|.w 0 (.K (.v (.pointer none)))<|.J 0 [6,7])<|.f 0 0<|.ae 129 0 3<|.K 0):=Um2
theorem aiY:U1 P 175 (.W 1 (.f 0 4<|.w 0 (.bq<|.a8 3 4<|.s 0 1<|.J 0 [5])<|.f 2 3<|.B 1 0 .z<|.bu 3 .t 0<|.a8 6 4<|.s 0 1<|.J 0 [8])<|.W 1 (.W 2 (.f 0 4<|.dA 0 (.f 3 3<|.B 4 0 .z<|.bu 3 0 .f<|.J 0 [7,0])<|.pu<|.J 0 [4,0])<|.w 1 (.f 0 3<|.B 5 0 .o<|.a8 3 3<|.s 0 1<|.J 0 [5])<|.J 0 [0])<|.f 0 4<|.b5 (kq .not) 0<|.K 0):=Um1
theorem aiZ:U3 P 176 (.n 2<|.f 1 0<|.bK 64 2<|.ae 129 1 5<|.o 0 64<|.st 64 0 2<|.f 7 1<|.bK 64 8<|.bd 300 [(0,11),(1,0)]<|.bs 170 1 [(0,0)]<|.ca (dj 65 72) 3 0<|.a8 13 1<|.s 0 1<|.Kt []):=Um3
theorem ai0:U1 P 182 (.f 0 2<|.I 1 0 .z (.Kt [.v .nilIface,.f])<|.f 3 0<|.f 5 1<|.ae 1 2 0<|.l 0<|.Kt [0,.t]):=Um1
theorem ai1:U2 P 183 (.f 0 1<|.B 8 0 3<|.f 3 0<|.aM aZ 0<|.B 27 3 0<|.K 0):=Um2
theorem ai2:U2 P 185 (.f 0 5<|.I 54 0 (.v (.pointer none)) (.B 1 4 (.c (-1))<|.K 0)<|.I 11 4 .z (.f 4 5<|.a8 0 1<|.g 0 36<|.aM aZ 0<|.B 3 11 0<|.bu 7 0 .f<|.K 0)<|.pu<|.K 0):=Um2
theorem ai3:U1 P 186 (.n 0<|.W 1 (.W 2 (.g 0 0<|.C 123 [0]<|.I 7 0 .z (.J 0 [4,0])<|.g 4 1<|.I 46 0 (.h 1) (.J 0 [7,0])<|.g 7 1<|.B 47 0 (.h 281474976710656)<|.J 0 [10,0])<|.w 1 (.K .f)<|.W 2 (.g 0 2<|.I 2 0 .o (.bq<|.J 0 [4,0])<|.g 3 2<|.B 4 0 (.c 65536)<|.bu 3 .t 0<|.J 0 [7,0])<|.w 1 (.K .f)<|.g 0 3<|.I 2 0 (.c 64) (.bq<|.bq<|.w 0 (.K .f)<|.J 0 [5])<|.g 3 3<|.B 4 0 (.c 1024)<|.bu 3 .t 0<|.w 0 (.bq<|.w 0 (.K .f)<|.J 0 [8])<|.g 7 3<|.B 15 0 (.c 64)<|.B 6 0 .z<|.bu 4 .t 0<|.w 0 (.K .f)<|.J 0 [12])<|.g 0 36<|.aM aZ 0<|.g 3 2<|.g 5 3<|.C 225 [2,0]<|.ag 1 0 [7]<|.I 13 5 0 (.g 9 36<|.aM aZ 0<|.B 37 0 (.c 64)<|.bu 4 0 .f<|.K 0)<|.pu<|.K 0):=Um1
theorem ai4:U4 P 187 (.f 0 0<|.C 122 [3]<|.ag 1 0 [2]<|.ca (sc P 174 true) 1 0<|.xx<|.dA 0 (.Kt [.v (.slice none 0 0),.c 182])<|.f 7 2<|.B 0 0 .o<|.a8 10 2<|.s 0 1<|.C 226 [12]<|.z 61<|.st 3 0 1<|.C 227 [10,17,18]<|.g 2 0<|.I 1 0 .o (.Kt [.v (.slice none 0 0),.c 181])<|.I 1 1 (.c 2) (.aM aZ 4<|.I 4 0 .z (.g 8 1<|.iN mO [0,.z]<|.aM aZ 9<|.B 27 1 0<|.ae 1 11 0<|.l 0<|.g 15 2<|.B 32 2 0<|.ae 1 16 5<|.s 0 1<|.Kt [18,.z])<|.Kt [6,.z])<|.I 1 2 (.c 3) (.g 7 1<|.aM aZ 7<|.iN k5 [1,0]<|.iN mO [.z,0]<|.am 1 10 none (some 0) none<|.Kt [0,.z])<|.I 1 3 (.c 4) (.g 8 1<|.C 227 [19,0,27]<|.Kt [0,.z])<|.Kt [6,.z]):=Um4
theorem ai5:U2 P 188 (.n 0<|.W 3 (.bK 37 0<|.C 186 [0]<|.dA 0 (.bq<|.bq<|.J 0 [7,5,0])<|.B 2 5 .z<|.bu 1 .t 0<|.w 0 (.bq<|.J 0 [8,6,0])<|.g 5 36<|.aM aZ 0<|.B 9 10 0<|.bu 4 .t 0<|.J 0 [12,10,0])<|.w 2 (.Kt [.z,.z])<|.g 1 3<|.B 26 2 0<|.g 4 3<|.g 6 2<|.B 21 0 4<|.iN k5 [3,0]<|.Kt [6,0]):=Um2
theorem ai6:U2 P 189 (.f 0 1<|.B 8 0 3<|.f 3 0<|.aM aZ 0<|.B 27 3 0<|.K 0):=Um2
theorem ai7:U2 P 190 (.I 11 1 .z (.f 1 2<|.aM aZ 0<|.B 3 5 0<|.bu 4 0 .f<|.K 0)<|.pu<|.K 0):=Um2
theorem ai8:U1 P 191 (.f 0 38<|.a8 2 0<|.g 0 36<|.aM aZ 0<|.B 13 4 0<|.K 0):=Um1
theorem ai9:U1 P 192 (.f 0 38<|.K 0):=Um1
theorem aja:U1 P 193 (.C 191 [0]<|.w 0 (.f 1 37<|.C 228 [0]<|.a8 4 0<|.o 0 4<|.bK 32 0<|.ag 2 1 [1]<|.B 41 3 0<|.bu 7 0 .f<|.K 0)<|.pu<|.K 0):=Um1
theorem ajb:U2 P 194 (.C 137 [0]<|.I 1 0 .z (.K .f)<|.f 2 0<|.f 4 2<|.C 183 [6,0]<|.ag 1 0 [4]<|.ae 1 3 0<|.s 0 9<|.f 9 2<|.B 0 0 .o<|.a8 12 2<|.s 0 1<|.K .t):=Um2
theorem ajc:U1 P 195 (.z 179<|.z 179<|.f 2 2<|.I 1 0 .z (.bK 2 3<|.st 2 5 0<|.a 2 6<|.Kt [0,.f])<|.f 5 0<|.f 7 1<|.ae 2 2 0<|.bK 2 0<|.st 2 10 0<|.a 2 11<|.Kt [0,.t]):=Um1
theorem ajd:U2 P 196 (.z 55<|.C 229 [2]<|.xx<|.W 5 (.I 7 0 .z (.bq<|.J 0 [6,7,5,3,0])<|.aM aZ 6<|.B 3 0 3<|.bu 2 .t 0<|.J 0 [8,9,7,5,0])<|.w 4 (.bd 55 []<|.st 37 3 0<|.a 37 4<|.Kt [0,.z,.c 141])<|.B 5 3 (.c 32)<|.am 1 2 none (some 0) none<|.B 5 5 (.c 32)<|.am 1 4 (some 0) (some 6) none<|.z 52<|.mw 32 1 0 none none none<|.ca (nJ 1) 0 2<|.bs 369 1 [(0,5)]<|.C 231 [8,0]<|.bK 32 4<|.ag 2 1 [5]<|.hu [5] 3 2<|.C 230 [1,0]<|.dA 0 (.bd 55 []<|.st 37 15 0<|.a 37 16<|.Kt [0,.z,.c 142])<|.am 1 10 (some (.c 4)) none none<|.C 232 [0]<|.xx<|.z 55<|.st 37 0 2<|.I 7 2 .z (.bd 55 []<|.st 37 22 0<|.a 37 23<|.Kt [0,.z,6])<|.bK 37 2<|.st 37 22 0<|.a 37 23<|.Kt [0,25,.z]):=Um2
theorem aje:U2 P 197 (.n 0<|.n 2<|.bK 37 1<|.C 186 [0]<|.dA 0 (.K (.c 131))<|.g 4 0<|.g 5 0<|.C 233 [2,0]<|.dA 0 (.K (.c 143))<|.g 10 1<|.g 11 1<|.I 51 2 0 (.K (.c 144))<|.g 15 2<|.g 16 2<|.I 16 2 0 (.K (.c 145))<|.K .z):=Um2
theorem ajf:U1 P 198 (.n 0<|.bK 37 0<|.C 186 [0]<|.dA 0 (.Kt [.v (.pointer none),.c 131])<|.g 3 36<|.C 148 [0]<|.o 6 36<|.s 0 1<|.bK 37 8<|.C 234 []<|.ag 1 0 [10]<|.bd 357 [(0,1),(1,0)]<|.n 0<|.Kt [0,.z]):=Um1
theorem ajg:U3 P 199 (.W 3 (.C 191 [0]<|.w 0 (.bq<|.w 0 (.K (.c 151))<|.J 0 [2,3,4])<|.f 1 38<|.B 10 4 0<|.bu 3 .t 0<|.w 0 (.K (.c 151))<|.J 0 [5,6,7])<|.W 2 (.a8 0 0<|.bK 37 0<|.C 188 [0,3]<|.xx<|.aM aZ 7<|.I 10 0 1 (.bq<|.w 0 (.K (.c 152))<|.J 0 [8,10])<|.bs 369 1 [(0,9)]<|.C 204 [0]<|.a8 9 0<|.g 0 36<|.ag 2 1 [1]<|.hu [1] 3 2<|.ae 32 0 13<|.bK 32 0<|.ag 3 2 [1]<|.hu [1] 4 3<|.B 24 5 0<|.bu 8 .t 0<|.w 0 (.K (.c 152))<|.J 0 [16,18])<|.f 0 37<|.C 235 [0,3]<|.f 3 38<|.B 0 0 .o<|.a8 6 38<|.s 0 1<|.K .z):=Um3
theorem ajh:U3 P 200 (.z 102<|.C 151 [1,2]<|.I 2 0 .z (.bd 102 []<|.st 64 3 0<|.a 64 4<|.Kt [0,.c 101])<|.f 3 3<|.C 73 [0,3,7]<|.xx<|.st 64 7 1<|.a 64 8<|.Kt [0,2]):=Um3
def R7:V3:=fun t0 i j H K=>iO (es t0) H fun a b=>iO (es j) b fun c d=>a7 (db a d) fun e f=>aG P 236 [e,i,(.func (.func 237) [].toArray [a,c].toArray)] f fun g h=>K g h
theorem aji:W3 P 201 R7:=Wm3
def R8:V2:=fun t0 g H K=>iO (es t0) H fun a b=>a7 (db a b) fun c d=>aG P 236 [c,g,(.func (.func 239) [].toArray [a].toArray)] d fun e f=>K e f
theorem ajj:W2 P 202 R8:=Wm2
theorem ajk:U2 P 203 (.f 0 3<|.C 151 [2,3]<|.ag 1 0 [2]<|.C 18 [1,0]<|.K 0):=Um2
abbrev R9:Code:=eT P 204 0
def IY:LF:=bi P 5 (.I 3 4 3 (.ae 1 3 5<|.l 0<|.C 235 [4,0]<|.B 0 8 .o<|.N [5,6,7,8,0])<|.X 0 [1,2])
theorem Sa:LpI P 19 R9 12 IY:=.mk
theorem Sb:U1 P 204 (.z 52<|.C 234 []<|.aM aZ 2<|.L true 19 R9 12 [2,1,3,0,.z] 2 (.q 0 (.C 228 [1]<|.st 32 1 0<|.a 32 2<|.K 0)<|.F)<|.a 32 0<|.K 0):=Um1
def Sc:V4:=fun t0 k l t3 H K=>iO (es t0) H fun a b=>iO (es l) b fun c d=>iO (es t3) d fun e f=>a7 (db a f) fun g h=>aG P 236 [g,k,(.func (.func 240) [].toArray [a,c,e].toArray)] h fun i j=>K i j
theorem ajl:W4 P 205 Sc:=Wm4
theorem ajm:U2 P 207 (.n 1<|.o 0 1<|.bK 37 0<|.C 186 [0]<|.dA 0 (.K (.c 192))<|.o 4 1<|.g 0 2<|.f 8 0<|.f 10 2<|.C 79 [2,0]<|.ag 1 0 [6]<|.B 12 (.c 64) 0<|.I 16 6 0 (.K (.c 145))<|.o 14 1<|.bK 37 0<|.a8 17 4<|.st 37 0 1<|.a8 19 44<|.s 0 .o<|.K .z):=Um2
theorem ajn:U2 P 208 (.n 1<|.a8 1 4<|.bK 37 0<|.g 2 0<|.C 188 [2,0]<|.xx<|.W 2 (.g 7 0<|.f 10 41<|.I 10 2 0 (.bq<|.bq<|.w 0 (.K (.c 192))<|.J 0 [15,14])<|.B 1 5 .z<|.bu 1 .t 0<|.w 0 (.bq<|.w 0 (.K (.c 192))<|.J 0 [16,15])<|.g 14 1<|.aM aZ 0<|.B 10 0 10<|.bu 4 .t 0<|.w 0 (.K (.c 192))<|.J 0 [20,19])<|.g 1 1<|.C 241 [0]<|.a8 3 42<|.s 0 1<|.f 5 41<|.B 0 0 .o<|.a8 8 41<|.s 0 1<|.K .z):=Um2
theorem ajo:U1 P 209 (.aM wu 0<|.aM (fd .u64) 0<|.C 147 [0,.c 2]<|.aM vI 3<|.ca (dj 1 1) 1 0<|.K 0):=Um1
abbrev Sd:Code:=eT P 210 0
def Se:LF:=bi P 6 (.I 2 5 (.c 64) (.W 7 (.aM aZ 1<|.I 3 7 0 (.ae 1 3 8<|.l 0<|.J 0 [5,6,7,8,9,10,0])<|.J 0 [3,4,5,6,7,8,.y 0])<|.B 55 6 (.y 54)<|.bs 22 1 [(0,0)]<|.ca (dj 1 1) 5 0<|.B 55 9 (.y 92)<|.bs 22 1 [(0,0)]<|.ca (dj 1 1) 9 0<|.B 0 11 .o<|.N [7,8,9,4,1,0])<|.X 0 [2,3,4,5])
theorem ajp:LpI P 49 Sd 210 Se:=.mk
theorem ajq:U2 P 210 (.z 52<|.W 3 (.aM aZ 1<|.I 4 0 (.c 64) (.C 35 [3]<|.z 52<|.st 32 0 1<|.mw 32 1 1 none none none<|.J 0 [0,8,6])<|.J 0 [3,4,2])<|.bs 22 0 []<|.bs 22 0 []<|.L true 49 Sd 210 [2,3,4,1,0,.z] 4 (.q 0 (.ca (dj 1 1) 2 0<|.C 35 [0]<|.z 52<|.st 32 0 1<|.mw 32 1 1 none none none<|.ca (dj 1 1) 8 0<|.C 35 [0]<|.st 32 8 0<|.a 32 9<|.K 0)<|.F)<|.a 32 1<|.K 0):=Um2
theorem ajr:U1 P 211 (.I 2 0 .z (.K .z)<|.I 4 1 (.c 8) (.K (.c 8))<|.K 2):=Um1
abbrev IZ:Code:=eT P 212 0
def Sf:LF:=bi P 7 (.I 3 6 3 (.ax zM 1 7<|.aM (fd .i64) 0<|.W 9 (.I 2 0 (.c 128) (.bq<|.J 0 [5,6,7,8,9,10,11,2,0])<|.B 4 1 (.c 191)<|.bu 1 .t 0<|.J 0 [6,7,8,9,10,11,12,3,0])<|.w 8 (.bK 3 2<|.st 3 2 0<|.R [2,3,4,5,6,7])<|.B 12 (.c 64) 4<|.B 8 0 8<|.B 5 0 (.c 128)<|.B 0 9 .o<|.N [4,5,6,7,1,9,0])<|.X 1 [1,2,3,4,5,6])
theorem ajs:LpI P 98 IZ 245 Sf:=.mk
theorem ajt:U1 P 212 (.z 276<|.ax zM 1 .z<|.aM (fd .i64) 0<|.cM 3 none (some .o) none<|.bd 276 [(0,1),(1,0),(2,.t)]<|.z 276<|.st 3 0 1<|.I 2 4 (.c 128) (.cM 8 none (some .o) none<|.bd 276 [(0,6),(1,0),(2,.f)]<|.st 3 9 0<|.a 3 10<|.K 0)<|.W 6 (.W 8 (.I 11 5 (.c 194) (.B 2 6 (.c 224)<|.bu 1 0 .f<|.J 0 [11,10,8,5,.z,.z,.z,0])<|.pu<|.J 0 [10,9,7,4,.z,.z,.z,0])<|.w 7 (.B 5 2 (.c 192)<|.J 0 [1,2,4,.c 2,0,.c 128])<|.W 8 (.I 11 2 (.c 224) (.B 2 3 (.c 240)<|.bu 1 0 .f<|.J 0 [3,4,5,6,7,8,9,0])<|.pu<|.J 0 [2,3,4,5,6,7,8,0])<|.w 7 (.B 5 2 (.c 224)<|.J 0 [1,2,4,.c 3,0,.c 2048])<|.W 8 (.I 11 2 (.c 240) (.B 2 3 (.c 245)<|.bu 1 0 .f<|.J 0 [3,4,5,6,7,8,9,0])<|.pu<|.J 0 [2,3,4,5,6,7,8,0])<|.w 7 (.B 5 2 (.c 240)<|.J 0 [1,2,4,.c 4,0,.c 65536])<|.bK 3 3<|.st 3 2 0<|.a 3 3<|.K 0)<|.aM wu 0<|.I 3 0 4 (.bK 3 4<|.st 3 4 0<|.a 3 5<|.K 0)<|.L true 98 IZ 245 [2,3,4,5,6,7,.o] 6 (.q 1 (.W 6 (.I 3 4 5 (.bq<|.bq<|.J 0 [3,4,5,6,7,0])<|.B 4 5 (.c 1114111)<|.bu 1 .t 0<|.w 0 (.bq<|.J 0 [4,5,6,7,8,0])<|.I 11 7 (.c 55296) (.B 37 8 (.c 57343)<|.bu 1 0 .f<|.bu 3 .t 0<|.J 0 [7,8,9,10,11,0])<|.pu<|.bu 2 .t 0<|.J 0 [6,7,8,9,10,0])<|.w 5 (.bK 3 2<|.st 3 2 0<|.a 3 3<|.K 0)<|.cM 0 none (some 3) none<|.bd 276 [(0,5),(1,0),(2,.f)]<|.st 3 3 0<|.a 3 4<|.K 0)<|.F)<|.a 3 1<|.K 0):=Um1
theorem aju:U2 P 215 (.I 11 1 .z (.f 1 0<|.aM aZ 0<|.B 3 5 0<|.bu 4 0 .f<|.K 0)<|.pu<|.K 0):=Um2
theorem ajv:U1 P 216 (.f 0 38<|.a8 2 0<|.g 0 36<|.aM aZ 0<|.B 13 4 0<|.K 0):=Um1
theorem ajw:U2 P 217 (.z 55<|.C 245 [2]<|.xx<|.W 5 (.I 6 0 .z (.bq<|.J 0 [6,7,5,3,0])<|.aM aZ 6<|.B 16 3 0<|.bu 2 .t 0<|.J 0 [8,9,7,5,0])<|.w 4 (.bd 55 []<|.st 37 3 0<|.a 37 4<|.Kt [0,.z,.c 141])<|.B 5 3 (.c 32)<|.am 1 2 none (some 0) none<|.C 146 [2,0]<|.aM jD 0<|.am 1 5 none (some 7) none<|.aM jD 0<|.ag 3 2 [1]<|.I 30 2 0 (.bd 55 []<|.st 37 10 0<|.a 37 11<|.Kt [0,.z,.c 142])<|.B 5 10 (.c 32)<|.am 1 9 (some (.c 4)) (some 0) none<|.C 246 [0]<|.xx<|.z 55<|.st 37 0 2<|.I 6 2 .z (.bd 55 []<|.st 37 18 0<|.a 37 19<|.Kt [0,.z,6])<|.bK 37 2<|.st 37 18 0<|.a 37 19<|.Kt [0,21,.z]):=Um2
theorem ajx:U1 P 218 (.f 0 0<|.f 2 2<|.C 101 [2,0]<|.aM aZ 0<|.B 20 0 (.c 64)<|.K 0):=Um1
theorem ajy:U3 P 219 (.z 102<|.W 5 (.I 2 2 .z (.bq<|.J 0 [3,4,5,2,0])<|.B 4 3 .o<|.bu 1 .t 0<|.J 0 [4,5,6,3,0])<|.w 4 (.bd 102 []<|.st 64 4 0<|.a 64 5<|.Kt [0,.c 101])<|.f 0 0<|.a8 2 1<|.ax (dE 2 1) 0 4<|.l 0<|.C 114 [3,0,7]<|.xx<|.st 64 11 1<|.a 64 12<|.Kt [0,2]):=Um3
theorem ajz:U3 P 220 (.C 108 [0,1]<|.dA 0 (.K (.c 161))<|.f 2 0<|.f 0 2<|.f 6 0<|.f 8 5<|.a8 2 2<|.s 0 1<|.f 12 0<|.f 14 6<|.a8 16 1<|.ax (dE 2 1) 0 1<|.l 0<|.C 247 [5,0,21]<|.f 20 0<|.a8 0 2<|.s 0 17<|.K 4):=Um3
abbrev Sg:Code:=eT P 221 0
abbrev I0:Code:=eT P 221 1
def Sh:LF:=bi P 4 (.aM aZ 0<|.I 3 4 0 (.bd 102 []<|.z 102<|.st 64 0 1<|.L true 40 I0 61 [5,6,7,8,1,.z] 5 (.q 2 (.bK 64 4<|.bs 131 1 [(0,0)]<|.ca (dj 64 64) 4 0<|.B 0 6 (.c 64)<|.N [4,5,1,0])<|.q 1 (.B 0 3 (.c 64)<|.N [1,2,3,0])<|.Y [1,2])<|.R [1,2])<|.X 0 [3,4])
theorem ajA:LpI P 40 Sg 12 Sh:=.mk
def Si:LF:=bi P 6 (.I 2 5 (.c 64) (.ax (dE 64 1) 5 6<|.s 0 (.y 255)<|.B 8 6 8<|.aM aZ 4<|.I 3 1 0 (.B 8 9 11<|.ae 1 7 0<|.l 0<|.ax (dE 64 1) 13 14<|.s 0 1<|.B 0 16 .o<|.N [12,13,14,15,16,0])<|.B 0 11 .o<|.N [7,8,9,10,11,0])<|.X 2 [1,2,3,4,5])
theorem ajB:LpI P 40 I0 61 Si:=.mk
theorem ajC:U1 P 221 (.bs 131 0 []<|.L true 40 Sg 12 [1,.v (.slice none 0 0),0,.z] 2 (.q 0 (.K 1)<|.F)<|.K 0):=Um1
theorem ajD:U2 P 225 (.W 2 (.I 2 0 .o (.bq<|.w 0 (.K .z)<|.J 0 [2,3])<|.B 2 2 .o<|.bu 1 .t 0<|.w 0 (.K .z)<|.J 0 [3,4])<|.B 5 0 .o<|.B 52 0 2<|.B 0 0 .o<|.K 0):=Um2
theorem ajE:U1 P 226 (.z 61<|.f 1 1<|.aM aZ 0<|.I 1 0 .z (.bd 61 []<|.st 3 5 0<|.a 3 6<|.K 0)<|.f 5 1<|.ae 3 0 .z<|.bK 3 0<|.z 61<|.st 3 0 1<|.f 11 1<|.am 3 0 (some .o) none none<|.a8 14 1<|.s 0 1<|.bK 3 6<|.st 3 16 0<|.a 3 17<|.K 0):=Um1
theorem ajF:U3 P 227 (.W 3 (.I 2 1 .z (.bq<|.bq<|.w 0 (.K (.v<|.slice none 0 0))<|.J 0 [3,4,5])<|.aM aZ 1<|.B 9 3 0<|.bu 2 .t 0<|.w 0 (.bq<|.w 0 (.K (.v<|.slice none 0 0))<|.J 0 [5,6,7])<|.B 2 6 .o<|.bu 1 .t 0<|.w 0 (.K (.v<|.slice none 0 0))<|.J 0 [6,7,8])<|.am 1 0 (some 1) none none<|.aM aZ 0<|.iN k5 [4,0]<|.am 1 2 none (some 0) none<|.C 124 [0]<|.K 0):=Um3
abbrev I1:Code:=eT P 228 0
abbrev I2:Code:=eT P 228 1
abbrev I3:Code:=eT P 228 2
abbrev I4:Code:=eT P 228 3
def Sj:LF:=bi P 3 (.f 1 8<|.aM aZ 0<|.I 6 0 (.c 56) (.bs 22 1 [(0,.y 0)]<|.C 235 [6,0]<|.N [6,7,8])<|.X 0 [4,5,6])
theorem ajG:LpI P 67 I1 28 Sj:=.mk
def Sk:LF:=bi P 4 (.I 2 3 (.c 8) (.B 12 (.c 8) 4<|.B 5 (.c 56) 0<|.B 38 5 0<|.aM (fd .u8) 0<|.bs 22 1 [(0,0)]<|.C 235 [7,0]<|.B 0 10 .o<|.N [8,9,10,0])<|.X 2 [1,2])
theorem ajH:LpI P 67 I2 12 Sk:=.mk
def Sl:LF:=fun l H N g h=>bD (cz P .lss 3 true (l 3) (int 8)) fun a=>fW a (bD (Cs 8 1 (xo P 338).f (l 2) (l 3)) fun b=>i7 P true 67 I4 105553116266564 [l 0,l 1,l 3,b,l 2,l 3,(int 0)] H (fun id c d=>cond (beq id 6) (bD (cz P .add 3 true (c 3) (int 1)) fun e=>N [c 0,c 1,c 2,e] d) (cond (beq id 5) (bD (cz P .add 3 true (c 3) (int 1)) fun e=>N [c 0,c 1,c 2,e] d) (g id [c 0,c 1] d))) (fun c d=>h [c 0,c 1] d)) (g 4 [l 0,l 1] H)
theorem ajI:LpI P 67 I3 68 Sl:=.mk
def Sm:LF:=bi P 7 (.I 2 6 (.c 4) (.B 12 (.c 4) 3<|.B 8 0 8<|.B 12 (.c 8) 9<|.B 5 (.c 24) 0<|.B 56 8 0<|.aM (fd .u8) 0<|.ax (dE 32 1) 8 4<|.s 0 1<|.B 0 15 .o<|.N [10,11,12,13,14,15,0])<|.X 6 [1,2,5,6])
theorem ajJ:LpI P 67 I4 105553116266564 Sm:=.mk
theorem ajK:U1 P 228 (.z 52<|.C 251 [1]<|.f 0 9<|.B 31 0 (.h 8)<|.bs 22 1 [(0,.y 128)]<|.C 235 [4,0]<|.L true 67 I1 28 [6,5,2] 3 (.q 0 (.L true 67 I2 12 [0,1,2,.z] 2 (.q 2 (.z 52<|.a8 2 0<|.bK 8 0<|.L true 67 I3 68 [3,2,0,.z] 2 (.q 4 (.bK 32 1<|.st 32 1 0<|.a 32 2<|.K 0)<|.F)<|.a 32 0<|.K 0)<|.F)<|.a 32 0<|.K 0)<|.F)<|.a 32 0<|.K 0):=Um1
theorem ajL:U1 P 229 (.W 2 (.aM aZ 0<|.I 2 0 (.c 4) (.bq<|.J 0 [3,0])<|.bs 22 2 [(0,.y 66),(1,.y 85)]<|.aM sa 0<|.C 252 [4,0]<|.b5 (kq .not) 0<|.bu 4 .t 0<|.J 0 [7,0])<|.w 1 (.Kt [.z,.c 141])<|.am 1 0 (some (.c 2)) (some (.c 4)) none<|.C 253 [0]<|.C 254 [0,.c 2]<|.aM (fd .i64) 0<|.B 0 0 (.c 36)<|.I 4 0 (.c 2304) (.Kt [.z,.c 141])<|.Kt [1,.z]):=Um1
abbrev Sn:Code:=eT P 230 0
def So:LF:=bi P 5 (.I 2 4 (.c 32) (.ax (dE 32 1) 1 5<|.l 0<|.ax (dE 32 1) 4 7<|.l 0<|.B 32 2 0<|.B 76 9 0<|.B 0 11 .o<|.N [8,9,10,1,0])<|.X 0 [3,4])
theorem ajM:LpI P 22 Sn 48 So:=.mk
theorem ajN:U2 P 230 (.n 0<|.n 2<|.L true 22 Sn 48 [1,0,.f,.y 0,.z] 2 (.q 0 (.B 77 1 (.y 0)<|.K 0)<|.F)<|.K 0):=Um2
abbrev Sp:Code:=eT P 231 0
def Sq:LF:=bi P 6 (.I 3 5 4 (.ae 1 4 6<|.l 0<|.C 235 [5,0]<|.B 0 9 .o<|.N [5,6,7,8,9,0])<|.X 0 [1,2,3])
theorem ajO:LpI P 31 Sp 49 Sq:=.mk
theorem ajP:U2 P 231 (.z 52<|.C 234 []<|.C 255 [2,.y 54]<|.C 235 [1,0]<|.aM aZ 5<|.L true 31 Sp 49 [5,4,3,6,0,.z] 3 (.q 0 (.C 228 [2]<|.z 52<|.st 32 0 1<|.C 255 [3,.y 92]<|.mw 32 1 2 none none none<|.ag 1 0 [3]<|.bs 369 2 [(0,1),(1,0)]<|.C 204 [0]<|.st 32 8 0<|.a 32 9<|.K 0)<|.F)<|.a 32 1<|.K 0):=Um2
abbrev Sr:Code:=eT P 232 0
def Ss:LF:=bi P 6 (.I 3 5 4 (.g 4 36<|.C 257 [5]<|.ag 1 0 [2]<|.bs 53 1 [(0,0)]<|.ca (dj 32 32) 2 0<|.o 9 36<|.s 0 1<|.B 0 13 .o<|.N [9,10,11,12,13,0])<|.X 0 [1,2,3,4])
theorem ajQ:LpI P 48 Sr 60 Ss:=.mk
theorem ajR:U1 P 232 (.z 55<|.C 253 [1]<|.C 256 [0,.c 96]<|.C 254 [1,.c 8]<|.C 254 [2,.c 4]<|.aM (fd .i64) 0<|.C 254 [4,.c 2]<|.aM (fd .i64) 0<|.bd 55 [(0,5),(1,4),(2,2),(3,0)]<|.z 55<|.st 37 0 1<|.C 257 [9]<|.o 2 4<|.st 32 0 1<|.g 4 2<|.g 6 3<|.C 225 [2,0]<|.iN k5 [0,.c 65]<|.L true 48 Sr 60 [19,.z,18,10,0,.z] 4 (.q 0 (.W 3 (.C 258 [2]<|.I 7 0 .z (.bq<|.J 0 [3,6,0])<|.bK 37 5<|.C 186 [0]<|.b5 (kq .not) 0<|.bu 3 .t 0<|.J 0 [6,9,0])<|.w 2 (.bd 55 []<|.st 37 1 0<|.a 37 2<|.Kt [0,.c 131])<|.bK 37 1<|.st 37 1 0<|.a 37 2<|.Kt [0,.z])<|.F)<|.a 37 0<|.Kt [0,2]):=Um1
theorem ajS:U2 P 233 (.C 122 [0]<|.C 122 [2]<|.B 28 1 0<|.K 0):=Um2
theorem ajT:U0 P 234 (.C 259 []<|.bd 391 [(0,0)]<|.n 0<|.K 0):=Um0
abbrev St:Code:=eT P 235 0
def Su:LF:=bi P 1 (.f 0 8<|.aM aZ 0<|.I 11 0 (.c 64) (.a8 4 0<|.bK 8 0<|.f 6 8<|.am 1 0 none (some (.c 64)) none<|.C 260 [3,0]<|.a8 10 0<|.st 8 0 1<|.f 12 8<|.am 1 0 (some (.c 64)) none none<|.a8 15 8<|.s 0 1<|.N [17])<|.X 0 [])
theorem ajU:LpI P 50 St 0 Su:=.mk
theorem ajV:U2 P 235 (.f 0 9<|.aM aZ 3<|.aM (fd .u64) 0<|.B 14 2 0<|.a8 5 9<|.s 0 1<|.f 7 8<|.ca (dj 1 1) 0 10<|.a8 10 8<|.s 0 1<|.L true 50 St 0 [12] 0 (.q 0 (.Kt [])<|.F)<|.Kt []):=Um2
def I5:V3:=fun t0 l p H K=>aG P 107 [t0,l] H fun a b=>bD (kq .not a) fun c=>fW c (K (int 161) b) (a8 t0 3 fun e=>a7 (db e b) fun f g=>a8 t0 0 fun i=>bD (gh 0 i) fun j=>a7 (db j g) fun k m=>aG P 261 [f,k] m fun n o=>a8 t0 3 fun q=>a7 (db q o) fun r s=>a8 t0 0 fun u=>bD (gh 1 u) fun v=>a7 (db v s) fun w x=>a8 t0 4 fun z=>bD (dE 2 1 z w) fun A=>a7 (db A x) fun B C=>tw P (qu p [B]) C fun D d=>aG P 261 [r,n] d fun F h=>K D h)
theorem ajW(a b c:Value)(H:an)(K:VH):AE P Seal.AV 236 [a,b,c] H K=I5 a b c H K:=by kernel_rfl
theorem ajX{a b c:Value}{H:an}{K:VH}(h:I5 a b c H K):aG P 236 [a,b,c] H K:=HT rfl ((ajW a b c H K).mpr h)
theorem ajY:U3 P 237 (.l 1<|.f 0 3<|.l 5<|.C 238 [1,4,0]<|.K 0):=Um3
theorem ajZ:U3 P 238 (.C 117 [0,1,2]<|.xx<|.I 7 0 .z (.K 1)<|.bd 86 [(0,.o),(1,5),(2,6)]<|.f 5 0<|.C 262 [0,5]<|.C 118 [8,3,0]<|.K 0):=Um3
theorem aj0:U2 P 239 (.l 1<|.f 0 3<|.C 57 [0]<|.K 0):=Um2
theorem aj1:U4 P 240 (.l 1<|.f 0 3<|.l 5<|.bK 64 7<|.C 56 [2,5,1,0]<|.K 0):=Um4
abbrev yA:List Tmp×Code×Code:=O1 P 241 0
def Sv(v args:aj)(l:Nat)(H:an)(K:VH):Prop:=
DD l H fun a=>
aG P 116 [] a fun b c=>
iO (fF P 102) c fun d e=>
a7 (d9 64 d b e) fun f g=>
bD (qr 64 1 d none none none g) fun h=>
a7 (nJ 1 h (bS args 0) g) fun i j=>
a7 (db (bS v 0) j) fun k m=>
a7 (jo 64 d m) fun n o=>
a7 ((gY P 131 1).f [(0,n)] o) fun p q=>
a7 (dj 64 64 k p q) fun r s=>
a7 (d9 1 (bS v 0) r s) fun t u=>
DE l .normal u K
theorem aj2(a args:aj)(l:Nat)(H:an)(K:VH):DF P 18 yA.1 yA.2.1 yA.2.2 a args l H K=Sv a args l H K:=by kernel_rfl
def Sw:V1:=fun t0 H K=>iO (fF P 131) H fun a b=>aG P 263 [t0,(int 64)] b fun c d=>DC P 18 yA.1 yA.2.1 yA.2.2 [a,undef] c d (fun e=>a7 (db a e) fun f g=>K f g) (fun id e=>cond (beq id 0) (a7 (db a e) fun f g=>K f g) (False)) (fun e=>K (.slice none 0 0) e)
theorem aj3:W1 P 241 Sw:=Wm1
theorem aj4:U1 P 245 (.aM aZ 0<|.I 2 0 (.c 4) (.Kt [.z,.c 141])<|.W 2 (.ae 1 2 .z<|.l 0<|.I 57 0 (.y 66) (.bq<|.J 0 [6,0])<|.ae 1 5 .o<|.l 0<|.B 57 0 (.y 85)<|.bu 3 .t 0<|.J 0 [9,0])<|.w 1 (.Kt [.z,.c 141])<|.ae 1 0 (.c 2)<|.l 0<|.aM (fd .i64) 0<|.B 0 (.c 36) 0<|.ae 1 4 (.c 3)<|.l 0<|.aM (fd .i64) 0<|.B 12 (.c 256) 0<|.B 8 4 0<|.I 4 0 (.c 2304) (.Kt [.z,.c 141])<|.Kt [1,.z]):=Um1
abbrev Sx:Code:=eT P 246 0
def Sy:LF:=bi P 5 (.W 5 (.f 3 0<|.aM aZ 0<|.I 4 0 .z (.g 8 36<|.aM aZ 0<|.B 2 0 (.c 65)<|.bu 4 0 .f<|.w 0 (.J 0 [9,10,11,12,13])<|.X 0 [9,10,11,12,13])<|.pu<|.w 0 (.J 0 [5,6,7,8,9])<|.X 0 [5,6,7,8,9])<|.g 4 36<|.C 268 [5]<|.ag 1 0 [2]<|.bs 53 1 [(0,0)]<|.ca (dj 32 32) 2 0<|.o 9 36<|.s 0 1<|.N [7,8,9,10,11])
theorem aj5:LpI P 65 Sx 61 Sy:=.mk
theorem aj6:U1 P 246 (.z 55<|.bd 410 [(0,1)]<|.n 0<|.C 266 [0,.c 65535]<|.bd 55 [(0,0)]<|.z 55<|.st 37 0 1<|.C 267 [4,.c 8]<|.o 2 1<|.s 0 1<|.C 267 [7,.c 4]<|.aM (fd .i64) 0<|.o 6 2<|.s 0 1<|.C 267 [11,.c 2]<|.aM (fd .i64) 0<|.o 10 3<|.s 0 1<|.C 268 [15]<|.o 13 4<|.st 32 0 1<|.L true 65 Sx 61 [21,20,.z,18,15] 5 (.q 0 (.W 3 (.f 3 1<|.I 6 0 .z (.bq<|.bq<|.J 0 [6,9,0])<|.bK 37 7<|.C 145 [0]<|.aM jD 0<|.aM jD 6<|.ag 3 2 [7]<|.B 30 1 0<|.bu 5 .t 0<|.w 0 (.bq<|.J 0 [11,14,0])<|.aM aZ 9<|.B 1 0 .z<|.bu 2 .t 0<|.J 0 [13,16,0])<|.w 2 (.bd 55 []<|.st 37 1 0<|.a 37 2<|.Kt [0,.c 131])<|.bK 37 1<|.st 37 1 0<|.a 37 2<|.Kt [0,.z])<|.F)<|.a 37 1<|.Kt [0,3]):=Um1
theorem aj7:U3 P 247 (.C 96 [0,1,2]<|.xx<|.W 4 (.I 1 0 .z (.f 4 0<|.C 269 [0,4]<|.J 0 [7,8,9,0])<|.J 0 [4,5,6,1])<|.I 1 3 .z (.f 1 3<|.f 3 2<|.bd 86 [(0,.o),(1,6),(2,7),(3,0)]<|.bs 80 1 [(0,0)]<|.ca (dj 4 32) 4 0<|.a8 8 3<|.s 0 1<|.K 13)<|.K 4):=Um3
theorem aj8:U1 P 251 (.a8 0 0<|.bK 8 0<|.f 2 8<|.ca (dj 1 1) (.v<|.slice none 0 0) 0<|.pi [4] [.v (.slice none 0 0),1]<|.f 5 9<|.pi [.v (.slice none 0 0),3] [1]<|.hu [1] 2 1<|.bd 391 [(0,5),(1,2),(2,0)]<|.n 0<|.K 0):=Um1
theorem aj9:U2 P 252 (.aM aZ 0<|.aM aZ 2<|.I 9 1 0 (.aM aZ 4<|.am 1 4 none (some 0) none<|.C 270 [0,6]<|.bu 3 0 .f<|.K 0)<|.pu<|.K 0):=Um2
theorem aka:U1 P 253 (.bd 419 [(0,0)]<|.n 0<|.K 0):=Um1
abbrev yB:List Tmp×Code×Code:=O1 P 254 0
def akb(j args:aj)(l:Nat)(H:an)(K:VH):Prop:=
DD l H fun a=>
a7 (db (bS j 0) a) fun b c=>
bD ((cz P .shl 27 true).f b (.int .u64 8)) fun d=>
a7 (fd .u64 (bS args 1) c) fun e f=>
bD ((cz P .or 27 false).f d e) fun g=>
a7 (d9 1 (bS j 0) g f) fun h i=>
DE l .normal i K
theorem axh(a args:aj)(l:Nat)(H:an)(K:VH):DF P 21 yB.1 yB.2.1 yB.2.2 a args l H K=akb a args l H K:=by kernel_rfl
def Sz:V2:=fun t0 l H K=>iO (fF P 27) H fun a b=>a7 (d9 1 a (.int .u64 0) b) fun c d=>aG P 273 [l] d fun e f=>aG P 272 [t0,e] f fun g h=>aG P 271 [g] h fun i j=>DC P 21 yB.1 yB.2.1 yB.2.2 [a,undef] i j (fun k=>a7 (db a k) fun m n=>K m n) (fun id k=>cond (beq id 0) (a7 (db a k) fun m n=>K m n) (False)) (fun k=>K (.int .u64 0) k)
theorem akc:W2 P 254 Sz:=Wm2
abbrev SA:Code:=eT P 255 0
def SB:LF:=bi P 4 (.I 2 3 (.c 64) (.ax (dE 64 1) 3 4<|.l 0<|.B 32 0 3<|.ax (dE 64 1) 6 7<|.s 0 1<|.B 0 9 .o<|.N [7,8,9,0])<|.X 0 [2,3])
theorem akd:LpI P 29 SA 80 SB:=.mk
theorem ake:U2 P 255 (.W 3 (.aM aZ 0<|.I 4 0 (.c 64) (.bs 369 1 [(0,2)]<|.C 204 [0]<|.z 52<|.st 32 0 1<|.mw 32 1 1 none none none<|.J 0 [0,8,.v (.slice none 0 0)])<|.J 0 [2,3,.v (.slice none 0 0)])<|.z 101<|.mw 64 1 0 none none none<|.ca (nJ 1) 0 2<|.L true 29 SA 80 [4,5,2,.z] 2 (.q 0 (.mw 64 1 1 none none none<|.K 0)<|.F)<|.K 0):=Um2
theorem akf:U2 P 256 (.C 254 [0,.c 2]<|.aM (fd .i64) 0<|.W 3 (.f 2 1<|.I 19 0 .z (.B 16 3 6<|.bu 1 0 .f<|.J 0 [7,5,0])<|.pu<|.J 0 [6,4,0])<|.w 2 (.C 274 [0,.c 52]<|.C 272 [1,2]<|.aM jD 0<|.K 0)<|.C 272 [0,1]<|.aM jD 0<|.K 0):=Um2
theorem akg:U1 P 257 (.z 52<|.z 52<|.mw 32 1 0 none none none<|.C 275 [3,.c 32]<|.ag 1 0 [2]<|.ca (nJ 1) 1 0<|.bK 32 3<|.st 32 5 0<|.a 32 6<|.K 0):=Um1
theorem akh:U1 P 258 (.f 0 1<|.I 19 0 .z (.f 3 0<|.aM aZ 0<|.B 4 0 .z<|.bu 4 0 .f<|.w 0 (.K (.c 52))<|.f 8 1<|.K 0)<|.pu<|.w 0 (.K (.c 52))<|.f 4 1<|.K 0):=Um1
theorem aki:U0 P 259 (.z 389<|.bd 389 [(0,.k 1779033703),(1,.k 3144134277),(2,.k 1013904242),(3,.k 2773480762),(4,.k 1359893119),(5,.k 2600822924),(6,.k 528734635),(7,.k 1541459225)]<|.st 8 1 0<|.a 8 2<|.K 0):=Um0
abbrev I6:Code:=eT P 260 0
abbrev I7:Code:=eT P 260 1
def SC:LF:=bi P 6 (.I 2 5 (.c 64) (.ax (dE 8 1) 5 .z<|.l 0<|.ax (dE 8 1) 7 (.c 4)<|.l 0<|.ax (dE 8 1) 9 (.c 7)<|.l 0<|.bs 48 3 [(0,.c 6),(1,.c 11),(2,.c 25)]<|.C 278 [3,0]<|.ag 1 0 [3]<|.B 18 2 0<|.ax (dE 8 1) 14 (.c 5)<|.l 0<|.ag 2 1 [1]<|.hu [1] 3 2<|.B 29 7 0<|.b5 (kq .xor) 8<|.ax (dE 8 1) 18 (.c 6)<|.l 0<|.ag 3 2 [1]<|.hu [1] 4 3<|.B 29 2 0<|.B 23 4 0<|.B 18 8 0<|.b5 hI 22<|.ax (dE 64 1) 0 25<|.l 0<|.ag 4 3 [1]<|.hu [1] 5 4<|.B 18 3 0<|.ax (dE 64 1) 25 28<|.l 0<|.ag 5 4 [1]<|.hu [1] 6 5<|.B 18 2 0<|.bs 48 3 [(0,.c 2),(1,.c 13),(2,.c 22)]<|.C 278 [24,0]<|.ax (dE 8 1) 32 .o<|.l 0<|.ag 2 1 [1]<|.hu [1] 3 2<|.B 29 27 0<|.ax (dE 8 1) 35 (.c 2)<|.l 0<|.ag 3 2 [1]<|.hu [1] 4 3<|.B 29 30 0<|.B 23 3 0<|.ax (dE 8 1) 39 .o<|.l 0<|.ag 4 3 [1]<|.hu [1] 5 4<|.ax (dE 8 1) 41 (.c 2)<|.l 0<|.ag 5 4 [1]<|.hu [1] 6 5<|.B 29 2 0<|.B 23 5 0<|.B 18 13 0<|.mw 8 1 46 (some .o) none none<|.mw 8 1 47 none (some (.c 7)) none<|.ca (nJ 1) 1 0<|.ax (dE 8 1) 49 (.c 4)<|.l 0<|.B 18 0 21<|.ax (dE 8 1) 52 (.c 4)<|.s 0 1<|.B 18 24 8<|.ax (dE 8 1) 55 .z<|.s 0 1<|.B 0 58 .o<|.N [54,55,56,57,58,0])<|.X 0 [1,2,5])
theorem akj:LpI P 97 I6 148 SC:=.mk
def SD:LF:=bi P 4 (.I 2 3 (.c 8) (.ax (dE 8 1) 1 4<|.l 0<|.ax (dE 8 1) 5 6<|.l 0<|.B 18 2 0<|.ax (dE 8 1) 6 9<|.s 0 1<|.B 0 11 .o<|.N [9,10,11,0])<|.X 2 [1,2])
theorem akk:LpI P 97 I7 20 SD:=.mk
theorem akl:U2 P 260 (.n 0<|.z 389<|.C 276 [3]<|.C 277 []<|.z 424<|.st 64 0 2<|.bK 8 5<|.z 389<|.st 8 0 1<|.L true 97 I6 148 [8,7,4,5,1,.z] 3 (.q 0 (.L true 97 I7 20 [0,1,2,.z] 2 (.q 2 (.bK 8 0<|.st 8 2 0<|.a 8 3<|.K 0)<|.F)<|.a 8 1<|.K 0)<|.F)<|.a 8 1<|.K 0):=Um2
theorem akm:U2 P 261 (.f 0 2<|.a8 2 2<|.s 0 4<|.K 2):=Um2
theorem akn:U2 P 262 (.C 174 [0,1]<|.I 42 0 (.v (.pointer none)) (.K (.c 61))<|.f 2 4<|.w 0 (.K (.c 62))<|.f 3 128<|.f 6 2<|.I 9 2 0 (.K (.c 64))<|.C 175 [9]<|.dA 0 (.K (.c 62))<|.f 10 128<|.B 0 0 .o<|.a8 13 128<|.s 0 1<|.C 116 []<|.C 176 [17,18,0]<|.K .z):=Um2
def ako:V2:=fun t0 h H K=>iO (es t0) H fun a b=>iO (es h) b fun c d=>a7 (db c d) fun e f=>bD (cz P .lss 3 true e (int 1)) fun g=>fW g (False) (K (.func (.func 279) [].toArray [a,c].toArray) f)
theorem akp:W2 P 263 ako:=Wm2
theorem akq:U2 P 266 (.C 267 [0,.c 2]<|.aM (fd .i64) 0<|.W 3 (.f 2 1<|.I 1 0 .z (.B 16 3 6<|.bu 1 0 .f<|.J 0 [7,5,0])<|.pu<|.J 0 [6,4,0])<|.w 2 (.a8 0 1<|.s 0 (.c 52)<|.C 280 [2,3]<|.aM jD 0<|.K 0)<|.C 280 [0,1]<|.aM jD 0<|.K 0):=Um2
abbrev SE:Code:=eT P 267 0
def akr:LF:=bi P 6 (.I 3 5 4 (.ae 1 4 6<|.l 0<|.aM (fd .u64) 0<|.B 78 0 6<|.B 14 6 0<|.B 31 8 (.h 256)<|.B 0 12 .o<|.N [8,2,1,11,12,0])<|.X 0 [1,2])
theorem aks:LpI P 28 SE 48 akr:=.mk
theorem akt:U2 P 267 (.C 211 [1]<|.C 280 [1,0]<|.aM aZ 0<|.L true 28 SE 48 [.h 0,.h 0,.h 1,1,0,.z] 2 (.q 0 (.K 1)<|.F)<|.K 0):=Um2
abbrev I8:Code:=eT P 268 0
def SF:LF:=bi P 5 (.I 3 4 3 (.ae 1 3 5<|.l 0<|.ax (dE 32 1) 4 7<|.s 0 1<|.B 0 9 .o<|.N [6,7,8,9,0])<|.X 0 [1,2])
theorem aku:LpI P 20 I8 12 SF:=.mk
theorem akv:U1 P 268 (.z 52<|.bd 52 []<|.z 52<|.st 32 0 1<|.C 280 [4,.c 32]<|.aM aZ 0<|.L true 20 I8 12 [5,3,1,0,.z] 2 (.q 0 (.bK 32 1<|.st 32 1 0<|.a 32 2<|.K 0)<|.F)<|.a 32 0<|.K 0):=Um1
theorem akw:U2 P 269 (.C 215 [0,1]<|.dA 0 (.K (.c 61))<|.f 2 6<|.w 0 (.K (.c 62))<|.f 4 1<|.ae 1 0 7<|.l 0<|.f 8 2<|.I 13 2 0 (.K (.c 64))<|.C 98 [11]<|.dA 0 (.K (.c 62))<|.f 13 1<|.ae 1 0 16<|.l 0<|.B 0 0 .o<|.ae 1 3 19<|.s 0 1<|.f 20 3<|.C 95 []<|.ag 1 0 [2]<|.bd 209 [(0,24),(1,0)]<|.bs 201 1 [(0,0)]<|.ca (dj 65 72) 3 0<|.a8 26 3<|.s 0 1<|.K .z):=Um2
theorem akx:U2 P 270 (.aM jD 0<|.aM jD 2<|.B 28 1 0<|.K 0):=Um2
def aky:V1:=fun t0 H K=>iO (es t0) H fun a b=>K (.func (.func 281) [].toArray [a].toArray) b
theorem akz:W1 P 271 aky:=Wm1
theorem akA:U2 P 272 (.iN mO [1,.z]<|.W 3 (.f 1 1<|.I 7 0 .z (.bq<|.J 0 [5,4,0])<|.f 4 0<|.aM aZ 0<|.B 16 6 0<|.bu 4 .t 0<|.J 0 [9,8,0])<|.w 2 (.C 274 [0,.c 51]<|.K (.v<|.slice none 0 0))<|.f 0 0<|.am 1 0 none (some 3) none<|.f 3 0<|.am 1 0 (some 6) none none<|.a8 6 0<|.s 0 1<|.K 5):=Um2
theorem akB:U1 P 273 (.iN k5 [0,.c 8]<|.iN mO [.z,0]<|.K 0):=Um1
theorem akC:U2 P 274 (.f 0 1<|.I 19 0 .z (.a8 3 1<|.s 0 5<|.a8 5 0<|.s 0 (.v<|.slice none 0 0)<|.Kt [])<|.a8 3 0<|.s 0 (.v<|.slice none 0 0)<|.Kt []):=Um2
theorem akD:U2 P 275 (.C 272 [0,1]<|.C 124 [0]<|.K 0):=Um2
abbrev SG:Code:=eT P 276 0
def SH:LF:=bi P 4 (.I 2 3 (.c 64) (.I 2 4 (.c 16) (.B 12 (.c 4) 5<|.ae 1 3 0<|.l 0<|.aM (fd .u32) 0<|.B 43 0 (.h 24)<|.B 12 (.c 4) 10<|.B 0 0 .o<|.ae 1 9 0<|.l 0<|.aM (fd .u32) 0<|.B 43 0 (.h 16)<|.B 34 6 0<|.B 12 (.c 4) 17<|.B 0 0 (.c 2)<|.ae 1 16 0<|.l 0<|.aM (fd .u32) 0<|.B 43 0 (.h 8)<|.B 34 6 0<|.B 12 (.c 4) 24<|.B 0 0 (.c 3)<|.ae 1 23 0<|.l 0<|.aM (fd .u32) 0<|.B 34 5 0<|.ax (dE 64 1) 29 30<|.s 0 1<|.B 0 32 .o<|.N [30,31,32,0])<|.B 5 5 (.c 15)<|.ax (dE 64 1) 5 0<|.l 0<|.B 5 8 (.c 2)<|.ax (dE 64 1) 8 0<|.l 0<|.B 5 11 (.c 16)<|.ax (dE 64 1) 11 0<|.l 0<|.bs 48 2 [(0,.c 7),(1,.c 18)]<|.C 278 [7,0]<|.ag 1 0 [3]<|.B 58 8 (.h 3)<|.B 23 1 0<|.B 18 4 0<|.B 5 19 (.c 7)<|.ax (dE 64 1) 19 0<|.l 0<|.ag 2 1 [1]<|.hu [1] 3 2<|.B 18 3 0<|.bs 48 2 [(0,.c 17),(1,.c 19)]<|.C 278 [13,0]<|.ag 1 0 [4]<|.ag 1 0 [12]<|.B 58 14 (.h 10)<|.B 23 1 0<|.B 18 4 0<|.ax (dE 64 1) 27 28<|.s 0 1<|.B 0 30 .o<|.N [28,29,30,0])<|.X 0 [2,3])
theorem akE:LpI P 82 SG 12 SH:=.mk
theorem akF:U1 P 276 (.z 424<|.z 424<|.L true 82 SG 12 [2,1,0,.z] 2 (.q 0 (.bK 64 1<|.st 64 1 0<|.a 64 2<|.K 0)<|.F)<|.a 64 0<|.K 0):=Um1
theorem akG:U0 P 277 (.bd 424 [(0,.k 1116352408),(1,.k 1899447441),(2,.k 3049323471),(3,.k 3921009573),(4,.k 961987163),(5,.k 1508970993),(6,.k 2453635748),(7,.k 2870763221),(8,.k 3624381080),(9,.k 310598401),(10,.k 607225278),(11,.k 1426881987),(12,.k 1925078388),(13,.k 2162078206),(14,.k 2614888103),(15,.k 3248222580),(16,.k 3835390401),(17,.k 4022224774),(18,.k 264347078),(19,.k 604807628),(20,.k 770255983),(21,.k 1249150122),(22,.k 1555081692),(23,.k 1996064986),(24,.k 2554220882),(25,.k 2821834349),(26,.k 2952996808),(27,.k 3210313671),(28,.k 3336571891),(29,.k 3584528711),(30,.k 113926993),(31,.k 338241895),(32,.k 666307205),(33,.k 773529912),(34,.k 1294757372),(35,.k 1396182291),(36,.k 1695183700),(37,.k 1986661051),(38,.k 2177026350),(39,.k 2456956037),(40,.k 2730485921),(41,.k 2820302411),(42,.k 3259730800),(43,.k 3345764771),(44,.k 3516065817),(45,.k 3600352804),(46,.k 4094571909),(47,.k 275423344),(48,.k 430227734),(49,.k 506948616),(50,.k 659060556),(51,.k 883997877),(52,.k 958139571),(53,.k 1322822218),(54,.k 1537002063),(55,.k 1747873779),(56,.k 1955562222),(57,.k 2024104815),(58,.k 2227730452),(59,.k 2361852424),(60,.k 2428436474),(61,.k 2756734187),(62,.k 3204031479),(63,.k 3329325298)]<|.n 0<|.K 0):=Um0
abbrev SI:Code:=eT P 278 0
def SJ:LF:=bi P 6 (.I 3 5 4 (.ae 1 4 6<|.l 0<|.b5 (kq .neg) 0<|.C 282 [4,0]<|.B 23 7 0<|.B 0 11 .o<|.N [7,8,1,10,11,0])<|.X 0 [2,3])
theorem akH:LpI P 22 SI 48 SJ:=.mk
theorem akI:U2 P 278 (.aM aZ 1<|.L true 22 SI 48 [1,.k 0,.k 0,2,0,.z] 2 (.q 0 (.K 1)<|.F)<|.K 0):=Um2
abbrev SK:Code:=eT P 279 0
def SL:LF:=fun l H N B C=>a7 (db (l 1) H) fun a b=>a7 (aZ a b) fun c d=>bD (cz P .lss 3 false (l 3) c) fun e=>fW e (a7 (db (l 2) d) fun f g=>a7 (db (l 1) g) fun h i=>bD (hX 1 h (some (l 3)) none none) fun j=>a7 (aZ j i) fun k m=>a7 (iJ m (k5 [f,k])) fun n o=>a7 (db (l 1) o) fun p q=>bD (cz P .add 3 false (l 3) n) fun r=>bD (cz P .add 3 false (l 3) n) fun s=>bD (hX 1 p (some (l 3)) (some r) (some s)) fun t=>tw P (qu (l 0) [t]) q fun u v=>bD (kq .not u) fun w=>fW w (C [] v) (a7 (db (l 2) v) fun x y=>bD (cz P .add 3 false (l 3) x) fun z=>N [l 0,l 1,l 2,z] y)) (B 0 [] d)
theorem akJ:LpI P 31 SK 0 SL:=.mk
theorem akK:U3 P 279 (.L true 31 SK 0 [0,1,2,.z] 0 (.q 0 (.Kt [])<|.F)<|.Kt []):=Um3
theorem akL:U2 P 280 (.W 2 (.I 2 1 .z (.J 0 [1,.z])<|.J 0 [1,2])<|.W 2 (.W 3 (.f 0 1<|.I 1 0 .z (.f 3 0<|.aM aZ 0<|.B 16 7 0<|.bu 4 0 .f<|.J 0 [8,9,0])<|.pu<|.J 0 [4,5,0])<|.w 2 (.a8 0 1<|.s 0 (.c 51)<|.J 0 [2,3])<|.J 0 [0,1])<|.f 0 1<|.I 6 0 .z (.a8 3 0<|.s 0 (.v<|.slice none 0 0)<|.K (.v<|.slice none 0 0))<|.bs 22 0 []<|.f 4 0<|.am 1 0 none (some 7) none<|.ca (dj 1 1) 3 0<|.f 8 0<|.am 1 0 (some 11) none none<|.a8 11 0<|.s 0 1<|.K 5):=Um2
abbrev SM:Code:=eT P 281 0
def akM:LF:=fun l H N k m=>bD (cz P .geq 3 true (l 2) (int 0)) fun a=>fW a (a7 (db (l 1) H) fun b c=>bD (vN 1 b (l 2)) fun d=>a7 (db d c) fun e f=>tw P (qu (l 0) [l 2,e]) f fun g h=>bD (kq .not g) fun i=>fW i (m [] h) (bD (cz P .sub 3 true (l 2) (int 1)) fun j=>N [l 0,l 1,j] h)) (k 0 [] H)
theorem akN:LpI P 19 SM 0 akM:=.mk
theorem akO:U2 P 281 (.l 1<|.aM aZ 0<|.B 5 0 .o<|.L true 19 SM 0 [3,4,0] 0 (.q 0 (.Kt [])<|.F)<|.Kt []):=Um2
theorem akP:U2 P 282 (.aM (fd .u64) 1<|.B 79 0 (.h 31)<|.B 80 2 0<|.B 81 (.h 32) 1<|.B 56 4 0<|.B 34 2 0<|.K 0):=Um2
end
end J
